/- Contract of predtype.bounds: nodes with parts. -/
import Derived.Test.YtdplphoohnnbcaaGreatDoorHq
namespace Go.Proofs.YtdplphoohnnbcaaGreatDoor
open Go.RowKit Go.Shelf

set_option maxRecDepth 100000 in
set_option maxHeartbeats 4000000 in
theorem bounds1_any (w0 : World) (T : TM) (hV : T.toTr.Valid) (p : Pr) (hp : p.All T.toTr.IntN) (hpa : p.At w0) (h1 : p.len = 1) (w : World) (hx : Ext w0 w)
    (hB : ∀ i, i < p.len → ∀ W, Ext w0 W → Calls Tryz.prog 24 #[T.val, (p.kid i).val] W (BndPost (T.toTr.bnd (p.kid i)) W)) :
    Calls Tryz.prog 24 #[T.val, p.val] w (BndPost (T.toTr.bnd p) w) := by
  have hk5 : p.kind = 5 := by rcases hp.here.parts with h | h | h <;> omega
  have hb : T.toTr.bnd p = T.toTr.nodeX p.kind p.num p.proc p.peer p.name p.len (T.toTr.bnd (p.kid 0)) (T.toTr.bnd (p.kid 1)) := Tr.bnd_eq _ _
  rw [hb]
  have hB0 := hB 0 (by omega)
  have hok := fun h => Tr.bnd_ok hV (p := p.kid 0) (hp.kid (by omega)) h
  have kb := hpa.here.hb (by omega)
  have ka := hpa.here.ha (by omega)
  have k0 : ∀ w', Ext w0 w' → w'.cell? ⟨p.b, p.off, none⟩ = _ := fun w' h => by have := hpa.here.c0 w' h 0 (by omega); simpa using this
  have k1 : ∀ w', Ext w0 w' → w'.cell? ⟨p.b, p.off + 1, none⟩ = _ := fun w' h => by have := hpa.here.c1 w' h 0 (by omega); simpa using this
  have k2 : ∀ w', Ext w0 w' → w'.cell? ⟨p.b, p.off + 2, none⟩ = _ := fun w' h => by have := hpa.here.c2 w' h 0 (by omega); simpa using this
  have k3 : ∀ w', Ext w0 w' → w'.cell? ⟨p.b, p.off + 3, none⟩ = _ := fun w' h => by have := hpa.here.c3 w' h 0 (by omega); simpa using this
  have k4 : ∀ w', Ext w0 w' → w'.cell? ⟨p.b, p.off + 4, none⟩ = _ := fun w' h => by have := hpa.here.c4 w' h 0 (by omega); simpa using this
  have k5 : ∀ w', Ext w0 w' → w'.cell? ⟨p.b, p.off + 5, none⟩ = _ := fun w' h => by have := hpa.here.c5 w' h 0 (by omega); simpa using this
  obtain ⟨⟨⟨xl, xh⟩, xo⟩, hxx⟩ : ∃ x, x = T.toTr.bnd (p.kid 0) := ⟨_, rfl⟩
  rw [← hxx] at hB0 hok ⊢
  simp only [Pr.val, TM.val] at hB0 ⊢
  rw [h1, hk5, ka]
  have HB0 := Lib.hid hB0
  have HOK := Lib.hid hok
  have hn1 := hV.n1
  clear hB0 hok hxx hb hB hp hpa h1 hk5 ka hV
  go_enter Tryz.func24, Tryz.ntmps24
  go_upto_region 1 with fail
  refine boxed3 (w := w) (G := fun x => Code.wp _ _ _ _ x) ?_
  intro w1 hx1 hs1 ⟨l0, c0, _, k0⟩ ⟨l1, c1, _, k1⟩ ⟨l2, c2, f2, k2⟩
  have hx11 : Ext w1 w1 := Ext.refl _
  have hx01 := hx.trans hx1
  have HK0 := Lib.hid k0
  have HK1 := Lib.hid k1
  have HK2 := Lib.hid k2
  have HS1 := Lib.hid hs1
  clear k0 k1 k2 hs1
  have hx1w0 := hx01
  have q0 : ∀ w', Ext w1 w' → w'.cell? ⟨p.b, p.off, none⟩ = _ := fun w' h => k0 w' (hx01.trans h)
  have q1 : ∀ w', Ext w1 w' → w'.cell? ⟨p.b, p.off + 1, none⟩ = _ := fun w' h => k1 w' (hx01.trans h)
  have q2 : ∀ w', Ext w1 w' → w'.cell? ⟨p.b, p.off + 2, none⟩ = _ := fun w' h => k2 w' (hx01.trans h)
  have q3 : ∀ w', Ext w1 w' → w'.cell? ⟨p.b, p.off + 3, none⟩ = _ := fun w' h => k3 w' (hx01.trans h)
  have q4 : ∀ w', Ext w1 w' → w'.cell? ⟨p.b, p.off + 4, none⟩ = _ := fun w' h => k4 w' (hx01.trans h)
  have q5 : ∀ w', Ext w1 w' → w'.cell? ⟨p.b, p.off + 5, none⟩ = _ := fun w' h => k5 w' (hx01.trans h)
  have qb : ∀ w', Ext w1 w' → p.b < w'.heap.size := fun w' h => kb w' (hx01.trans h)
  clear k0 k1 k2 k3 k4 k5 kb
  go_upto_region 4 with fail
  go_cut [7, 8] (fun s7 s8 wx => ∃ ba, s7 = .pointer (some ⟨ba, 0, none⟩) ∧ s8 = .bool xo ∧ Hold wx ba #[.int .i64 xl, .int .i64 xh] ∧ Ext w1 wx ∧ w1.heap.size ≤ ba)
  case first =>
    refine wp_region_held_drew (S := fun w' => Ext w1 w') (by kernel_rfl) (Ext.refl w1).drew (fun hHeld => ?_)
    refine heldTake 0 (v := ?_) rfl (by kernel_rfl) (by kernel_rfl) (by kernel_rfl) (fun _ _ _ h => h) (Or.inl ⟨by rfl, ?_⟩) (by assumption) ?_
    rotate_left
    · (intro w' hSw; (try dsimp only at hSw); go_simp; try with_reducible rfl)
    simp only [Act.put, List.setIfInBounds_toArray, List.set_cons_zero, List.set_cons_succ]
    refine heldTake 1 (v := ?_) rfl (by kernel_rfl) (by kernel_rfl) (by kernel_rfl) (fun _ _ _ h => h) (Or.inl ⟨by rfl, ?_⟩) (by assumption) ?_
    rotate_left
    · (intro w' hSw; (try dsimp only at hSw); go_simp; try with_reducible rfl)
    simp only [Act.put, List.setIfInBounds_toArray, List.set_cons_zero, List.set_cons_succ]
    refine heldTake 2 (v := ?_) rfl (by kernel_rfl) (by kernel_rfl) (by kernel_rfl) (fun _ _ _ h => h) (Or.inl ⟨by rfl, ?_⟩) (by assumption) ?_
    rotate_left
    · (intro w' hSw; (try dsimp only at hSw); go_simp; try with_reducible rfl)
    simp only [Act.put, List.setIfInBounds_toArray, List.set_cons_zero, List.set_cons_succ]
    refine heldTake 3 (v := ?_) rfl (by kernel_rfl) (by kernel_rfl) (by kernel_rfl) (fun _ _ _ h => h) (Or.inl ⟨by rfl, ?_⟩) (by assumption) ?_
    rotate_left
    · (intro w' hSw; (try dsimp only at hSw); go_simp; try with_reducible rfl)
    simp only [Act.put, List.setIfInBounds_toArray, List.set_cons_zero, List.set_cons_succ]
    refine heldTake 4 (v := ?_) rfl (by kernel_rfl) (by kernel_rfl) (by kernel_rfl) (fun _ _ _ h => h) (Or.inl ⟨by rfl, ?_⟩) (by assumption) ?_
    rotate_left
    · (intro w' hSw; (try dsimp only at hSw); go_simp; try with_reducible rfl)
    simp only [Act.put, List.setIfInBounds_toArray, List.set_cons_zero, List.set_cons_succ]
    refine wpAnyH_ready (rs := [5, 9]) (by kernel_rfl) (by simp) ?_
    refine AllReadyH.cons rfl (fun K hK => ?_) (AllReadyH.cons rfl (fun K hK => ?_) AllReadyH.nil)
    · go_simp
      go_at_call 24
      refine (HB0.out _ (hx01.drew)).mono ?_
      rintro e w5 ⟨rfl, hx5⟩
      have hS5 : Ext w1 w5 := (Ext.refl w1).drew.trans hx5
      refine hK.out _ _ hS5 (fun hHeld2 => ?_)
      clear hK K
      refine heldTake 6 (v := ?_) rfl (by kernel_rfl) (by kernel_rfl) (by kernel_rfl) (fun _ _ _ h => h) (Or.inl ⟨by rfl, ?_⟩) (by assumption) ?_
      rotate_left
      · (intro w' hSw; (try dsimp only at hSw); go_simp; try with_reducible rfl)
      simp only [Act.put, List.setIfInBounds_toArray, List.set_cons_zero, List.set_cons_succ]
      refine heldTake 7 (v := ?_) rfl (by kernel_rfl) (by kernel_rfl) (by kernel_rfl) (fun _ _ _ h => h) (Or.inl ⟨by rfl, ?_⟩) (by assumption) ?_
      rotate_left
      · (intro w' hSw; (try dsimp only at hSw); go_simp; try with_reducible rfl)
      simp only [Act.put, List.setIfInBounds_toArray, List.set_cons_zero, List.set_cons_succ]
      refine heldTake 8 (v := ?_) rfl (by kernel_rfl) (by kernel_rfl) (by kernel_rfl) (fun _ _ _ h => h) (Or.inl ⟨by rfl, ?_⟩) (by assumption) ?_
      rotate_left
      · (intro w' hSw; (try dsimp only at hSw); go_simp; try with_reducible rfl)
      simp only [Act.put, List.setIfInBounds_toArray, List.set_cons_zero, List.set_cons_succ]
      refine wpAnyH_ready (rs := [9]) (by kernel_rfl) (by simp) ?_
      refine AllReadyH.cons rfl (fun K hK => ?_) AllReadyH.nil
      go_simp
      refine boxed1 (w := w5) (G := fun x => K _ x) ?_
      intro w6 hx6 hs6 ⟨l6, c6, f6, h6⟩
      have hS6 : Ext w1 w6 := Ext.trans hS5 hx6
      have hx66 : Ext w6 w6 := Ext.refl _
      have H6 := Lib.hid h6
      clear hs6 h6
      refine hK.out _ _ hS6 (fun hHeld2 => ?_)
      clear hK K
      refine wpAnyH_ready (rs := [10]) (by kernel_rfl) (by simp) ?_
      refine AllReadyH.cons rfl (fun K hK => ?_) AllReadyH.nil
      go_simp
      refine setw2 (w := w6) (G := fun x => K _ x) ?_
      intro w7 hw7
      have h5b : w1.heap.size ≤ w5.heap.size := by first | exact hS5.le | exact Nat.le_refl _
      have hS7 : Ext w1 w7 := by rw [hw7]; exact (hS6.setCell h5b _).setCell h5b _
      have H7 := Lib.hid (show Hold w7 w5.heap.size #[.int .i64 xl, .int .i64 xh] from by rw [hw7]; exact Hold.set2 H6.out _ _)
      clear hw7
      refine hK.out _ _ hS7 (fun hHeld2 => ?_)
      clear hK K
      refine heldTake 11 (v := ?_) rfl (by kernel_rfl) (by kernel_rfl) (by kernel_rfl) (fun _ _ _ h => h) (Or.inl ⟨by rfl, ?_⟩) (by assumption) ?_
      rotate_left
      · (intro w' hSw; (try dsimp only at hSw); go_simp; try with_reducible rfl)
      simp only [Act.put, List.setIfInBounds_toArray, List.set_cons_zero, List.set_cons_succ]
      refine wpAnyH_done (by kernel_rfl) ?_ _
      go_wp2_with fail
      go_meet
      case rel => exact ⟨_, rfl, rfl, H7.out, hS7, h5b⟩
    · go_simp
      refine boxed1 (w := w1.drew) (G := fun x => K _ x) ?_
      intro w4 hx4 hs4 ⟨l6, c6, f6, h6⟩
      have hS4 : Ext w1 w4 := (Ext.refl w1).drew.trans hx4
      have H6 := Lib.hid (show Hold w4 w1.heap.size #[.int .i64 0, .int .i64 0] from h6)
      replace l6 : ∀ w', Ext w4 w' → w1.heap.size < w'.heap.size := l6
      replace c6 : ∀ w', Ext w4 w' → ∀ i, w'.cell? ⟨w1.heap.size, i, none⟩ = (#[.int .i64 0, .int .i64 0] : Array Value)[i]? := c6
      replace f6 : ∀ w', Ext w4 w' → ∀ i, w'.frozen? ⟨w1.heap.size, i, none⟩ = false := f6
      clear hs4 h6
      refine hK.out _ _ hS4 (fun hHeld2 => ?_)
      clear hK K
      refine wpAnyH_ready (rs := [5]) (by kernel_rfl) (by simp) ?_
      refine AllReadyH.cons rfl (fun K hK => ?_) AllReadyH.nil
      go_simp
      go_at_call 24
      refine (HB0.out _ (hx01.trans hS4)).mono ?_
      rintro e w6 ⟨rfl, hx6⟩
      have hS6 : Ext w1 w6 := hS4.trans hx6
      have hx66 : Ext w6 w6 := Ext.refl _
      have H6 := Lib.hid (Hold.ext (b := w1.heap.size) H6.out hx6)
      refine hK.out _ _ hS6 (fun hHeld2 => ?_)
      clear hK K
      refine heldTake 6 (v := ?_) rfl (by kernel_rfl) (by kernel_rfl) (by kernel_rfl) (fun _ _ _ h => h) (Or.inl ⟨by rfl, ?_⟩) (by assumption) ?_
      rotate_left
      · (intro w' hSw; (try dsimp only at hSw); go_simp; try with_reducible rfl)
      simp only [Act.put, List.setIfInBounds_toArray, List.set_cons_zero, List.set_cons_succ]
      refine heldTake 7 (v := ?_) rfl (by kernel_rfl) (by kernel_rfl) (by kernel_rfl) (fun _ _ _ h => h) (Or.inl ⟨by rfl, ?_⟩) (by assumption) ?_
      rotate_left
      · (intro w' hSw; (try dsimp only at hSw); go_simp; try with_reducible rfl)
      simp only [Act.put, List.setIfInBounds_toArray, List.set_cons_zero, List.set_cons_succ]
      refine heldTake 8 (v := ?_) rfl (by kernel_rfl) (by kernel_rfl) (by kernel_rfl) (fun _ _ _ h => h) (Or.inl ⟨by rfl, ?_⟩) (by assumption) ?_
      rotate_left
      · (intro w' hSw; (try dsimp only at hSw); go_simp; try with_reducible rfl)
      simp only [Act.put, List.setIfInBounds_toArray, List.set_cons_zero, List.set_cons_succ]
      refine wpAnyH_ready (rs := [10]) (by kernel_rfl) (by simp) ?_
      refine AllReadyH.cons rfl (fun K hK => ?_) AllReadyH.nil
      go_simp
      refine setw2 (w := w6) (G := fun x => K _ x) ?_
      intro w7 hw7
      have h5b : w1.heap.size ≤ w1.heap.size := by first | exact hS5.le | exact Nat.le_refl _
      have hS7 : Ext w1 w7 := by rw [hw7]; exact (hS6.setCell h5b _).setCell h5b _
      have H7 := Lib.hid (show Hold w7 w1.heap.size #[.int .i64 xl, .int .i64 xh] from by rw [hw7]; exact Hold.set2 H6.out _ _)
      clear hw7
      refine hK.out _ _ hS7 (fun hHeld2 => ?_)
      clear hK K
      refine heldTake 11 (v := ?_) rfl (by kernel_rfl) (by kernel_rfl) (by kernel_rfl) (fun _ _ _ h => h) (Or.inl ⟨by rfl, ?_⟩) (by assumption) ?_
      rotate_left
      · (intro w' hSw; (try dsimp only at hSw); go_simp; try with_reducible rfl)
      simp only [Act.put, List.setIfInBounds_toArray, List.set_cons_zero, List.set_cons_succ]
      refine wpAnyH_done (by kernel_rfl) ?_ _
      go_wp2_with fail
      go_meet
      case rel => exact ⟨_, rfl, rfl, H7.out, hS7, h5b⟩
  case rest =>
    obtain ⟨ba, rfl, rfl, hA, hxc, hba⟩ := hcut
    have HA := Lib.hid hA
    have hcc : Ext wc wc := Ext.refl _
    obtain ⟨la, ca, _, _⟩ := hA.box
    clear hA
    go_upto_region 6 with fail
    refine boxed1 (w := wc) (G := fun x => Code.wp _ _ _ _ x) ?_
    intro w2 hx2 hs2 ⟨lb, cb, fb, kbb⟩
    have hx22 : Ext w2 w2 := Ext.refl _
    have hx12 := hxc.trans hx2
    have HB := Lib.hid (show Hold w2 wc.heap.size #[.int .i64 xl, .int .i64 xh] from kbb)
    have HA2 := Lib.hid (Hold.ext (b := ba) HA.out hx2)
    obtain ⟨l4, c4, f4, _⟩ := (Hold.ext' HK2.out.choose_spec hx12).box
    clear hs2 kbb
    cases xo with
    | false =>
      have HN := Lib.hid (show T.toTr.nodeX 5 p.num p.proc p.peer p.name 1 ((xl, xh), false) (T.toTr.bnd (p.kid 1)) = ((0, 0), false) from by unfold Tr.nodeX; simp)
      go_wp2_with fail
      refine setw2 (w := w2) (G := fun x => bodyPost _ _ _ _ _ x) ?_
      intro w9 hw9
      have hk9 : Hold w9 (w.heap.size + 1 + 1) #[.int .i64 0, .int .i64 0] := by rw [hw9]; exact Hold.set2 (Hold.ext HK2.out hx12) _ _
      have hx9 : Ext w w9 := by rw [hw9]; exact ((hx1.trans hx12).setCell (by show w.heap.size ≤ w.heap.size + 1 + 1; omega) _).setCell (by show w.heap.size ≤ w.heap.size + 1 + 1; omega) _
      refine bodyPost_ret (bnd_results _ _ (w.heap.size + 1 + 1) _ _ (.bool false) rfl rfl (hk9.cell0 0) (hk9.cell0 1)) rfl ?_
      exact ⟨(by rw [HN.out]; rfl), hx9⟩
    | true =>
      have HN := Lib.hid (show T.toTr.nodeX 5 p.num p.proc p.peer p.name 1 ((xl, xh), true) (T.toTr.bnd (p.kid 1)) = ((-xh, -xl), okB (-xh, -xl)) from by unfold Tr.nodeX; simp [combI])
      obtain ⟨o1, o2, o3⟩ := HOK.out rfl
      dsimp only at o1 o2 o3
      obtain ⟨la2, ca2, _, _⟩ := (HA2.out : Hold w2 ba _).box
      go_upto_region 11 with fail
      refine boxed1 (w := w2) (G := fun x => Code.wp _ _ _ _ x) ?_
      intro w10 hx10 hs10 ⟨l10, c10, f10, k10⟩
      have hx1010 : Ext w10 w10 := Ext.refl _
      have hxa := Ext.trans hx12 hx10
      have HK10 := Lib.hid (show Hold w10 w2.heap.size #[.int .i64 0, .int .i64 0] from k10)
      clear hs10 k10
      go_upto_region 19 with fail
      (refine setw2 (w := w10) (G := fun x => Code.wp _ _ _ _ x) ?_; intro w3 hw3)
      have hk3 : Hold w3 w2.heap.size #[.int .i64 ((-xh)), .int .i64 ((-xl))] := by rw [hw3]; exact Hold.set2 HK10.out _ _
      have hx3 : Ext w2 w3 := by rw [hw3]; exact (hx10.setCell (Nat.le_refl _) _).setCell (Nat.le_refl _) _
      obtain ⟨l3, c3, f3, _⟩ := hk3.box
      have hx33 : Ext w3 w3 := Ext.refl _
      have hx13 := Ext.trans hx12 hx3
      obtain ⟨l5, c5, f5, _⟩ := (Hold.ext' HK2.out.choose_spec hx13).box
      clear hk3 hw3 l10 c10 f10
      have hG := fun W => great_any W (-xh) (-xl) (!okB ((-xh), (-xl))) (okB_iff ((-xh), (-xl)) _ rfl)
      have HG := Lib.hid hG
      generalize okB ((-xh), (-xl)) = ok at HG HN
      clear hG
      go_region_with (go_at_call 55; refine (HG.out _).mono ?_; rintro e w5 ⟨rfl, hx5⟩; have hx35 : Ext w3 w5 := Ext.trans (Ext.drew (Ext.refl w3)) hx5)
      all_goals
        go_wp2_with fail
        refine setw2 (w := w5) (G := fun x => bodyPost _ _ _ _ _ x) ?_
        intro w9 hw9
        have hk9 : Hold w9 (w.heap.size + 1 + 1) #[.int .i64 ((-xh)), .int .i64 ((-xl))] := by rw [hw9]; exact Hold.set2 (Hold.ext HK2.out (hx13.trans hx35)) _ _
        have hx9 : Ext w w9 := by rw [hw9]; exact ((hx1.trans (hx13.trans hx35)).setCell (by show w.heap.size ≤ w.heap.size + 1 + 1; omega) _).setCell (by show w.heap.size ≤ w.heap.size + 1 + 1; omega) _
        refine bodyPost_ret (bnd_results _ _ (w.heap.size + 1 + 1) _ _ (.bool ok) rfl rfl (hk9.cell0 0) (hk9.cell0 1)) rfl ?_
        exact ⟨(by rw [HN.out]; rfl), hx9⟩

end Go.Proofs.YtdplphoohnnbcaaGreatDoor
