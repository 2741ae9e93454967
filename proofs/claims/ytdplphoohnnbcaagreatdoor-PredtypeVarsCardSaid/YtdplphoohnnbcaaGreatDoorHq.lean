/- Contract of predtype.bounds. -/
import Derived.Test.YtdplphoohnnbcaaGreatDoorHp
import Derived.Test.YtdplphoohnnbcaaGreatDoorHa
namespace Go.Proofs.YtdplphoohnnbcaaGreatDoor
open Go.RowKit Go.Shelf

def BndPost (x : (Int × Int) × Bool) (w : World) (e : Ending) (w' : World) : Prop := e = .returned (.tuple #[itv x.1.1 x.1.2, .bool x.2]) ∧ Ext w w'
theorem bnd_results (tmps : Array Value) (W : World) (b : Nat) (x y v : Value) (t4 : tmps[4]? = some (.pointer (some ⟨b, 0, none⟩))) (t5 : tmps[5]? = some v) (c0 : W.cell? ⟨b, 0, none⟩ = some x) (c1 : W.cell? ⟨b, 1, none⟩ = some y) :
    (results Tryz.f24 tmps).run Tryz.prog W = .ok (.tuple #[.agg #[x, y], v]) W := by
  simp [results, Tryz.results24, go_sem, t4, t5, c0, c1]
set_option maxRecDepth 100000 in
set_option maxHeartbeats 4000000 in
theorem bounds0_any (w0 : World) (T : TM) (hT : T.At w0) (hV : T.toTr.Valid) (p : Pr) (hp : p.All T.toTr.IntN) (h0 : p.len = 0) (w : World) (hx : Ext w0 w) :
    Calls Tryz.prog 24 #[T.val, p.val] w (BndPost (T.toTr.bnd p) w) := by
  have hb : T.toTr.bnd p = (T.toTr.leafI p.kind p.num p.proc p.peer p.name, okB (T.toTr.leafI p.kind p.num p.proc p.peer p.name)) := by rw [Tr.bnd_eq]; unfold Tr.nodeX; rw [if_pos h0]
  have hk : 1 ≤ p.kind ∧ p.kind ≤ 4 := by rcases hp.here.parts with h | h | h <;> omega
  have hL := fun W (h : Ext w0 W) => leaf_any W T (hT.ext h) hV p.kind p.num p.proc p.peer p.name (.slice p.a p.len p.cap) hk hp.here.2.1
  rw [hb]
  obtain ⟨⟨lo, hi⟩, hlo⟩ : ∃ x, x = T.toTr.leafI p.kind p.num p.proc p.peer p.name := ⟨_, rfl⟩
  rw [← hlo] at hL ⊢
  have HL := Lib.hid hL
  have hG := fun W => great_any W lo hi (!okB (lo, hi)) (okB_iff (lo, hi) _ rfl)
  have HG := Lib.hid hG
  simp only [Pr.val, TM.val]
  rw [h0] at HL ⊢
  clear hL hb hp hlo hk hG hT hV h0
  generalize okB (lo, hi) = ok at HG ⊢
  go_enter Tryz.func24, Tryz.ntmps24
  go_upto_region 1 with fail
  refine boxed3 (w := w) (G := fun x => Code.wp _ _ _ _ x) ?_
  intro w1 hx1 hs1 ⟨l0, c0, _, k0⟩ ⟨l1, c1, _, k1⟩ ⟨l2, c2, f2, k2⟩
  have hx11 : Ext w1 w1 := Ext.refl _
  have hx01 := hx.trans hx1
  have HK0 := Lib.hid k0
  have HK1 := Lib.hid k1
  have HK2 := Lib.hid k2
  clear k0 k1 k2
  go_wp2_with fail
  go_at_call 54
  refine (HL.out w1 hx01).mono ?_
  rintro e w2 ⟨rfl, hx2⟩
  go_upto_region 3 with fail
  refine boxed1 (w := w2) (G := fun x => Code.wp _ _ _ _ x) ?_
  intro w3 hx3 hs3 ⟨l3, c3, f3, _⟩
  have hx33 : Ext w3 w3 := Ext.refl _
  have hx13 := hx2.trans hx3
  obtain ⟨l4, c4, f4, _⟩ := (Hold.ext' HK2.out.choose_spec hx13).box
  clear hs3
  go_region_with (go_at_call 55; refine (HG.out _).mono ?_; rintro e w5 ⟨rfl, hx5⟩; have hx35 : Ext w3 w5 := Ext.trans (Ext.drew (Ext.refl w3)) hx5)
  all_goals
    go_wp2_with fail
    refine setw2 (w := w5) (G := fun x => bodyPost _ _ _ _ _ x) ?_
    intro w9 hw9
    have hk9 : Hold w9 (w.heap.size + 1 + 1) #[.int .i64 lo, .int .i64 hi] := by rw [hw9]; exact Hold.set2 (Hold.ext HK2.out (hx13.trans hx35)) _ _
    have hx9 : Ext w w9 := by rw [hw9]; exact ((hx1.trans (hx13.trans hx35)).setCell (by show w.heap.size ≤ w.heap.size + 1 + 1; omega) _).setCell (by show w.heap.size ≤ w.heap.size + 1 + 1; omega) _
    refine bodyPost_ret (bnd_results _ _ (w.heap.size + 1 + 1) _ _ (.bool ok) rfl rfl (hk9.cell0 0) (hk9.cell0 1)) rfl ?_
    exact ⟨rfl, hx9⟩

end Go.Proofs.YtdplphoohnnbcaaGreatDoor
