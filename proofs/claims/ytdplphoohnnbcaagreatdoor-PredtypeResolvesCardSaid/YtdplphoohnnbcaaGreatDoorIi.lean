/- Contract: causality.Order. -/
import Derived.Test.YtdplphoohnnbcaaGreatDoorIh
namespace Go.Proofs.YtdplphoohnnbcaaGreatDoor
open Go.RowKit Go.Shelf

/-- all that lay when the rows were made: the boxes, what is known, the list of events -/
structure OrdB (T : TM) (w : World) (bk bs br : Nat) (v6 : Value) (wr : World) : Prop where
  h0 : Hold wr w.heap.size #[.slice (some ⟨T.b, T.off, none⟩) T.n T.cap]
  h1 : Hold wr (w.heap.size + 1) #[.slice none 0 0]
  hk : Hold wr bk #[.slice (some ⟨T.b, T.off, none⟩) T.n T.cap, .map (some bs), .map (some br)]
  kn : KnAt T bs br wr
  ev : EvOwn wr (w.heap.size + 1 + 1) v6 (T.toTr.evs.map fun x => evI x.1)
  bl : Ext w wr
theorem OrdB.below {T : TM} {w : World} {bk bs br : Nat} {v6 : Value} {wr w' : World} (h : OrdB T w bk bs br v6 wr) {B : Nat} {W : World} (x : Below B W w') (hB : wr.heap.size ≤ B) (e : Below B wr W) : OrdB T w bk bs br v6 w' := by
  have y : Ext wr w' := Below.mono (Below.trans e x) hB
  exact ⟨h.h0.ext y, h.h1.ext y, h.hk.ext y, h.kn.ext y, h.ev.kept y, h.bl.trans y⟩
theorem OrdB.ext {T : TM} {w : World} {bk bs br : Nat} {v6 : Value} {wr w' : World} (h : OrdB T w bk bs br v6 wr) (y : Ext wr w') : OrdB T w bk bs br v6 w' :=
  ⟨h.h0.ext y, h.h1.ext y, h.hk.ext y, h.kn.ext y, h.ev.kept y, h.bl.trans y⟩
theorem OrdB.fin {T : TM} {w w1 w4 wx : World} {bz bs br base : Nat} {v6 : Value} {c : Array Value} (hs1 : w1.heap.size = w.heap.size + 1 + 1) (x1 : Ext w w1)
    (k0 : Hold w1 w.heap.size #[.slice (some ⟨T.b, T.off, none⟩) T.n T.cap]) (k1 : Hold w1 (w.heap.size + 1) #[.slice none 0 0]) (x4 : Ext w1 w4) (hz : Hold w4 bz c) (hzb : w1.heap.size ≤ bz)
    (kn : KnAt T bs br w4) (ev : EvOwn w4 base v6 (T.toTr.evs.map fun x => evI x.1)) (hb : w1.heap.size ≤ base) (hne : v6.ownBlock ≠ some bz) (ho : Only bz w4 wx)
    (hk : Hold wx bz #[.slice (some ⟨T.b, T.off, none⟩) T.n T.cap, .map (some bs), .map (some br)]) : OrdB T w bz bs br v6 wx := by
  have hmap : ∀ b L, MapAt w4 b L → b ≠ bz := by
    intro b L ⟨es, cl, h1, _⟩ e
    obtain ⟨t, h2⟩ := hz
    rw [e, h2] at h1; cases h1
  refine ⟨ho.hold (k0.ext x4) (by omega), ho.hold (k1.ext x4) (by omega), hk, ⟨kn.s.same (ho.block _ (hmap _ _ kn.s)), kn.r.same (ho.block _ (hmap _ _ kn.r))⟩, ?_, Below.trans (x1.trans x4) (ho.below (by have := x1.le; omega))⟩
  exact World.ownsRow.mono (EvOwn.same ev fun g e => ho.block g (fun e' => hne (e' ▸ e))) (by omega)
theorem own_slice2 {w : World} {base : Nat} {t : TypeId} {v : Value} {n : Nat} {xs : List Value} (h : w.ownsRow base t 2 v (n + 1) xs) : ∃ a c, v = .slice a (n + 1) c := by
  obtain ⟨_, ⟨hv, hn⟩ | ⟨g, cap, cur, hv, _⟩⟩ := h
  · omega
  · exact ⟨_, _, hv⟩
theorem drewd {w : World} {n : Nat} {G : World → Prop} (h : ∀ w', Ext w w' → G w') : G (w.drewN n) := h _ ((Ext.refl _).drewN _)
theorem Box.newD {w W : World} {c : Array Value} {t : TypeId} (h : Ext (w.drew.alloc (.cells c t)) W) : Box W w.heap.size c := Box.ext (Hold.new w.drew c t).box h
theorem Box.newP {w W : World} {c : Array Value} {t : TypeId} (h : Ext (w.alloc (.cells c t)) W) : Box W w.heap.size c := Box.ext (Hold.new w c t).box h
def OrderPost (T : TM) (w : World) (e : Ending) (w' : World) : Prop := Ext w w' ∧ ∃ a g cap S, e = .returned (.tuple #[.agg #[.slice a T.toTr.evs.length cap], .int .i64 0]) ∧ RelAt a g T.toTr.evs.length cap S T.toTr.bef w'

end Go.Proofs.YtdplphoohnnbcaaGreatDoor
