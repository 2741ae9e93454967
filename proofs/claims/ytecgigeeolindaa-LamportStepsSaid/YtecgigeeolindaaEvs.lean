/- Contracts: causality.events, check, exists. -/
import Derived.Test.YtecgigeeolindaaPast
namespace Go.Proofs.Ytecgigeeolindaa
open Go.RowKit Go.Shelf

/-- all events up to a place, as pairs -/
def Tr.evL (T : Tr) (k i : Nat) : List (Int × Int) := (T.evsTo k i).map fun x => evI x.1
theorem Tr.evL_succ (T : Tr) (k i : Nat) (hk : k < T.n) (hi : i < T.en k) : T.evL k (i + 1) = T.evL k i ++ [((k : Int), (i : Int) + 1)] := by
  unfold Tr.evL; rw [Tr.evsTo_succ _ _ _ hk hi, List.map_append]; rfl
theorem Tr.evsTo_tot (T : Tr) : ∀ (k i : Nat), k < T.n → i ≤ T.en k → (T.evsTo k i).length = tot T.en k + i
  | 0, 0, _, _ => rfl
  | k + 1, 0, hk, _ => by rw [← Tr.evsTo_next, Tr.evsTo_tot T k (T.en k) (by omega) (Nat.le_refl _)]; rfl
  | k, i + 1, hk, hi => by rw [Tr.evsTo_succ _ _ _ hk hi, List.length_append, Tr.evsTo_tot T k i hk (by omega)]; rfl
theorem Tr.evs_tot (T : Tr) : T.evs.length = tot T.en T.n := by
  unfold Tr.evs
  cases h : T.n with
  | zero => rfl
  | succ n => rw [← Tr.evsTo_next, Tr.evsTo_tot T n (T.en n) (by omega) (Nat.le_refl _)]; rfl
structure EvsI (T : TM) (w : World) (k i : Nat) (v : Value) (wr : World) : Prop where
  h0 : Hold wr w.heap.size #[.slice (some ⟨T.b, T.off, none⟩) T.n T.cap]
  own : EvOwn wr (w.heap.size + 1) v (T.toTr.evL k i)
  bl : Ext w wr
theorem EvsI.ext {T : TM} {w wr w' : World} {k i : Nat} {v : Value} (h : EvsI T w k i v wr) (x : Ext wr w') : EvsI T w k i v w' := ⟨h.h0.ext x, h.own.kept x, h.bl.trans x⟩
def EvsPost (T : TM) (w : World) (e : Ending) (w' : World) : Prop := Ext w w' ∧ ∃ v, e = .returned v ∧ EvOwn w' w.heap.size v (T.toTr.evs.map fun x => evI x.1)
set_option maxRecDepth 100000 in
set_option maxHeartbeats 1000000 in
theorem cevents_any (w : World) (T : TM) (hT : T.At w) (hV : T.toTr.Valid) :
    Calls Try.prog 64 #[T.val] w (EvsPost T w) := by
  obtain ⟨i0, hi0, hz0, hz1, hz2⟩ := info_parts infoEv
  have hn1 := hV.n1
  have hn8 := hV.n8
  have hE8 : ∀ k, k < T.n → T.en k ≤ 64 := fun k hk => (hV.pr k hk).2.2.2.2
  have pa := hT.P.pa (by omega)
  have pb := hT.P.pb (by omega)
  have p0 := hT.P.p0
  have p1 := hT.P.p1
  have p2 := hT.P.p2
  have HT := Lib.hid hT
  clear hT hV
  go_enter Try.func64, Try.ntmps64
  go_upto_region 1 with fail
  refine boxed1 (w := w) (G := fun x => Code.wp _ _ _ _ x) ?_
  intro w1 hx1 hs1 ⟨l0, c0, _, k0⟩
  have hx11 : Ext w1 w1 := Ext.refl _
  have HI1 := Lib.hid (EvsI.mk (T := T) (w := w) (k := 0) (i := 0) (v := .slice none 0 0) (wr := w1) k0 (EvOwn.nil _ _) hx1)
  clear k0 hs1
  go_wp2_with fail
  go_loopg [10, 3] T.n (fun gg v10 v3 wr => ∃ k : Nat, k ≤ T.n ∧ gg = T.n - k ∧ v10 = .int .i64 k ∧ EvsI T w k 0 v3 wr)
  case atStart => exact ⟨0, by omega, rfl, rfl, HI1.out⟩
  case round =>
    obtain ⟨k, hk, rfl, rfl, hI⟩ := hrel
    have hxr := hI.bl
    have hrr : Ext wr wr := Ext.refl _
    have HI := Lib.hid hI
    clear hI
    by_cases hlt : k < T.n
    · have hlt' : (k : Int) < (T.n : Int) := by omega
      obtain ⟨ea, hea⟩ : ∃ a, a = T.ea k := ⟨_, rfl⟩
      have p2k : ∀ w', Ext w w' → w'.cell? ⟨T.b, T.off + k * 3 + 2, none⟩ = some (.slice ea (T.en k) (T.ec k)) := fun w' h => by rw [hea]; exact p2 w' h k hlt
      have hen := hE8 k hlt
      have htk := tot_small (f := T.en) (n := k) (c := 64) fun j hj => hE8 j (by omega)
      clear p2 hea
      go_upto_region 5 with fail
      refine boxed1 (w := wr) (G := fun x => Code.wp _ _ _ _ x) ?_
      intro w3 hx3 hs3 ⟨l3, c3, _, _⟩
      have hx33 : Ext w3 w3 := Ext.refl _
      have HI3 := Lib.hid (HI.out.ext hx3)
      clear hs3
      go_wp2_with fail
      go_loopg [18, 3] (T.en k) (fun gg v18 v3 wi => ∃ i : Nat, i ≤ T.en k ∧ gg = T.en k - i ∧ v18 = .int .i64 i ∧ EvsI T w k i v3 wi)
      case atStart => exact ⟨0, by omega, rfl, rfl, HI3.out⟩
      case round =>
        obtain ⟨i, hi, rfl, rfl, hI⟩ := hrel
        have HI := Lib.hid hI
        clear hI
        by_cases hli : i < T.en k
        · have hli' : (i : Int) < (T.en k : Int) := by omega
          have hlen : (T.toTr.evL k i).length = tot T.en k + i := by unfold Tr.evL; rw [List.length_map]; exact T.toTr.evsTo_tot k i hlt (by omega)
          have hown := HI.out.own
          unfold EvOwn at hown
          have HO := Lib.hid hown
          have hb : k * 64 ≤ 512 := by omega
          clear hown
          go_wp2_with (at_builtin; refine wpList_append_own _ rfl _ _ 37 rfl (w.heap.size + 1) 31 i0 (.agg #[.int .i64 0, .int .i64 0]) 2 16 Try.underlying37 hi0 hz0 hz1 hz2 rfl (by decide) u3 (T.toTr.evL k i).length (evCells (T.toTr.evL k i)) rfl (by exact HO.out.alloc _) ⟨wr.heap.size, 0, none⟩ 1 1 [.int .i64 k, .int .i64 (i + 1)] rfl rfl (by exact news_ok wr [_, _] _) (by intro u hu; simp at hu; rcases hu with rfl | rfl <;> rfl) (by rw [hlen]; unfold maxLen; omega) (by rw [hlen]; omega) (by have := HI.out.h0.lt; simp; omega) ?_; rintro v6 w6 hown6 hg6 -; have H6 := Lib.hid (And.intro hown6 hg6); clear hown6 hg6)
          go_roundg (T.en k - (i + 1))
          case rel =>
            have hb6 : Below (w.heap.size + 1) wr w6 := ((Below.refl _ _).alloc (by have := HI.out.h0.lt; omega) _).grown H6.out.2 (by have := HI.out.h0.lt; simp; omega) HI.out.own.block
            refine ⟨i + 1, by omega, rfl, by go_num, HI.out.h0.below hb6 (by omega), ?_, Below.trans HI.out.bl (Below.mono hb6 (by omega))⟩
            rw [Tr.evL_succ _ _ _ hlt hli]; exact EvOwn.snoc H6.out.1
          case measure => omega
        · have hie : i = T.en k := by omega
          subst hie
          go_wp2_with fail
          go_roundg (T.n - (k + 1))
          case rel => exact ⟨k + 1, by omega, rfl, by go_num, HI.out.h0, by have := HI.out.own; unfold Tr.evL at this ⊢; rw [← Tr.evsTo_next]; exact this, HI.out.bl⟩
          case measure => omega
    · have hke : k = T.n := by omega
      subst hke
      go_wp2_with fail
      go_ret
      exact ⟨HI.out.bl, _, rfl, World.ownsRow.mono HI.out.own (by omega)⟩

end Go.Proofs.Ytecgigeeolindaa
