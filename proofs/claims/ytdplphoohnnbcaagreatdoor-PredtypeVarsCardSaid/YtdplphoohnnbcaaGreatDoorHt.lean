/- Contract of predtype.bounds: products; all expressions. -/
import Derived.Test.YtdplphoohnnbcaaGreatDoorHr
import Derived.Test.YtdplphoohnnbcaaGreatDoorHs
namespace Go.Proofs.YtdplphoohnnbcaaGreatDoor
open Go.RowKit Go.Shelf

set_option maxRecDepth 100000 in
set_option maxHeartbeats 4000000 in
theorem bounds8_any (w0 : World) (T : TM) (hV : T.toTr.Valid) (p : Pr) (hp : p.All T.toTr.IntN) (hpa : p.At w0) (h1 : p.len = 2) (hk5 : p.kind = 8) (w : World) (hx : Ext w0 w)
    (hB : ∀ i, i < p.len → ∀ W, Ext w0 W → Calls Tryz.prog 24 #[T.val, (p.kid i).val] W (BndPost (T.toTr.bnd (p.kid i)) W)) :
    Calls Tryz.prog 24 #[T.val, p.val] w (BndPost (T.toTr.bnd p) w) := by
  have hb : T.toTr.bnd p = T.toTr.nodeX p.kind p.num p.proc p.peer p.name p.len (T.toTr.bnd (p.kid 0)) (T.toTr.bnd (p.kid 1)) := Tr.bnd_eq _ _
  rw [hb]
  have hB0 := hB 0 (by omega)
  have hB1 := hB 1 (by omega)
  have hok := fun h => Tr.bnd_ok hV (p := p.kid 0) (hp.kid (by omega)) h
  have hok1 := fun h => Tr.bnd_ok hV (p := p.kid 1) (hp.kid (by omega)) h
  have kb := hpa.here.hb (by omega)
  have ka := hpa.here.ha (by omega)
  have k0 : ∀ w', Ext w0 w' → w'.cell? ⟨p.b, p.off, none⟩ = _ := fun w' h => by have := hpa.here.c0 w' h 0 (by omega); simpa using this
  have m0 : ∀ w', Ext w0 w' → w'.cell? ⟨p.b, p.off + 6, none⟩ = _ := fun w' h => by have := hpa.here.c0 w' h 1 (by omega); simpa using this
  have k1 : ∀ w', Ext w0 w' → w'.cell? ⟨p.b, p.off + 1, none⟩ = _ := fun w' h => by have := hpa.here.c1 w' h 0 (by omega); simpa using this
  have m1 : ∀ w', Ext w0 w' → w'.cell? ⟨p.b, p.off + 6 + 1, none⟩ = _ := fun w' h => by have := hpa.here.c1 w' h 1 (by omega); simpa using this
  have k2 : ∀ w', Ext w0 w' → w'.cell? ⟨p.b, p.off + 2, none⟩ = _ := fun w' h => by have := hpa.here.c2 w' h 0 (by omega); simpa using this
  have m2 : ∀ w', Ext w0 w' → w'.cell? ⟨p.b, p.off + 6 + 2, none⟩ = _ := fun w' h => by have := hpa.here.c2 w' h 1 (by omega); simpa using this
  have k3 : ∀ w', Ext w0 w' → w'.cell? ⟨p.b, p.off + 3, none⟩ = _ := fun w' h => by have := hpa.here.c3 w' h 0 (by omega); simpa using this
  have m3 : ∀ w', Ext w0 w' → w'.cell? ⟨p.b, p.off + 6 + 3, none⟩ = _ := fun w' h => by have := hpa.here.c3 w' h 1 (by omega); simpa using this
  have k4 : ∀ w', Ext w0 w' → w'.cell? ⟨p.b, p.off + 4, none⟩ = _ := fun w' h => by have := hpa.here.c4 w' h 0 (by omega); simpa using this
  have m4 : ∀ w', Ext w0 w' → w'.cell? ⟨p.b, p.off + 6 + 4, none⟩ = _ := fun w' h => by have := hpa.here.c4 w' h 1 (by omega); simpa using this
  have k5 : ∀ w', Ext w0 w' → w'.cell? ⟨p.b, p.off + 5, none⟩ = _ := fun w' h => by have := hpa.here.c5 w' h 0 (by omega); simpa using this
  have m5 : ∀ w', Ext w0 w' → w'.cell? ⟨p.b, p.off + 6 + 5, none⟩ = _ := fun w' h => by have := hpa.here.c5 w' h 1 (by omega); simpa using this
  obtain ⟨⟨⟨xl, xh⟩, xo⟩, hxx⟩ : ∃ x, x = T.toTr.bnd (p.kid 0) := ⟨_, rfl⟩
  obtain ⟨⟨⟨yl, yh⟩, yo⟩, hyy⟩ : ∃ x, x = T.toTr.bnd (p.kid 1) := ⟨_, rfl⟩
  rw [← hxx] at hB0 hok ⊢
  rw [← hyy] at hB1 hok1 ⊢
  simp only [Pr.val, TM.val] at hB0 hB1 ⊢
  rw [h1, hk5, ka]
  have HB0 := Lib.hid hB0
  have HB1 := Lib.hid hB1
  have HOK := Lib.hid hok
  have HOK1 := Lib.hid hok1
  have hn1 := hV.n1
  clear hB0 hok hxx hb hB hp hpa h1 hk5 ka hV hB1 hok1 hyy
  go_enter Tryz.func24, Tryz.ntmps24
  go_upto_region 1 with fail
  refine boxed3 (w := w) (G := fun x => Code.wp _ _ _ _ x) ?_
  intro w1 hx1 hs1 ⟨l0, c0, _, k0⟩ ⟨l1, c1, _, k1⟩ ⟨l2, c2, f2, k2⟩
  have hx11 : Ext w1 w1 := Ext.refl _
  have hx01 := hx.trans hx1
  have HK0 := Lib.hid k0
  have HK1 := Lib.hid k1
  have HK2 := Lib.hid k2
  have HS1 := Lib.hid hs1
  clear k0 k1 k2 hs1
  have q0 : ∀ w', Ext w1 w' → w'.cell? ⟨p.b, p.off, none⟩ = _ := fun w' h => k0 w' (hx01.trans h)
  have r0 : ∀ w', Ext w1 w' → w'.cell? ⟨p.b, p.off + 6, none⟩ = _ := fun w' h => m0 w' (hx01.trans h)
  have q1 : ∀ w', Ext w1 w' → w'.cell? ⟨p.b, p.off + 1, none⟩ = _ := fun w' h => k1 w' (hx01.trans h)
  have r1 : ∀ w', Ext w1 w' → w'.cell? ⟨p.b, p.off + 6 + 1, none⟩ = _ := fun w' h => m1 w' (hx01.trans h)
  have q2 : ∀ w', Ext w1 w' → w'.cell? ⟨p.b, p.off + 2, none⟩ = _ := fun w' h => k2 w' (hx01.trans h)
  have r2 : ∀ w', Ext w1 w' → w'.cell? ⟨p.b, p.off + 6 + 2, none⟩ = _ := fun w' h => m2 w' (hx01.trans h)
  have q3 : ∀ w', Ext w1 w' → w'.cell? ⟨p.b, p.off + 3, none⟩ = _ := fun w' h => k3 w' (hx01.trans h)
  have r3 : ∀ w', Ext w1 w' → w'.cell? ⟨p.b, p.off + 6 + 3, none⟩ = _ := fun w' h => m3 w' (hx01.trans h)
  have q4 : ∀ w', Ext w1 w' → w'.cell? ⟨p.b, p.off + 4, none⟩ = _ := fun w' h => k4 w' (hx01.trans h)
  have r4 : ∀ w', Ext w1 w' → w'.cell? ⟨p.b, p.off + 6 + 4, none⟩ = _ := fun w' h => m4 w' (hx01.trans h)
  have q5 : ∀ w', Ext w1 w' → w'.cell? ⟨p.b, p.off + 5, none⟩ = _ := fun w' h => k5 w' (hx01.trans h)
  have r5 : ∀ w', Ext w1 w' → w'.cell? ⟨p.b, p.off + 6 + 5, none⟩ = _ := fun w' h => m5 w' (hx01.trans h)
  have qb : ∀ w', Ext w1 w' → p.b < w'.heap.size := fun w' h => kb w' (hx01.trans h)
  clear k0 k1 k2 k3 k4 k5 kb m0 m1 m2 m3 m4 m5
  go_upto_region 4 with fail
  go_cut [7, 8] (fun s7 s8 wx => ∃ ba, s7 = .pointer (some ⟨ba, 0, none⟩) ∧ s8 = .bool xo ∧ Hold wx ba #[.int .i64 xl, .int .i64 xh] ∧ Ext w1 wx ∧ w1.heap.size ≤ ba)
  case first =>
    refine wp_region_held_drew (S := fun w' => Ext w1 w') (by kernel_rfl) (Ext.refl w1).drew (fun hHeld => ?_)
    refine heldTake 0 (v := ?_) rfl (by kernel_rfl) (by kernel_rfl) (by kernel_rfl) (fun _ _ _ h => h) (Or.inl ⟨by rfl, ?_⟩) (by assumption) ?_
    rotate_left
    · (intro w' hSw; (try dsimp only at hSw); go_simp; try with_reducible rfl)
    simp only [Act.put, List.setIfInBounds_toArray, List.set_cons_zero, List.set_cons_succ]
    refine heldTake 1 (v := ?_) rfl (by kernel_rfl) (by kernel_rfl) (by kernel_rfl) (fun _ _ _ h => h) (Or.inl ⟨by rfl, ?_⟩) (by assumption) ?_
    rotate_left
    · (intro w' hSw; (try dsimp only at hSw); go_simp; try with_reducible rfl)
    simp only [Act.put, List.setIfInBounds_toArray, List.set_cons_zero, List.set_cons_succ]
    refine heldTake 2 (v := ?_) rfl (by kernel_rfl) (by kernel_rfl) (by kernel_rfl) (fun _ _ _ h => h) (Or.inl ⟨by rfl, ?_⟩) (by assumption) ?_
    rotate_left
    · (intro w' hSw; (try dsimp only at hSw); go_simp; try with_reducible rfl)
    simp only [Act.put, List.setIfInBounds_toArray, List.set_cons_zero, List.set_cons_succ]
    refine heldTake 3 (v := ?_) rfl (by kernel_rfl) (by kernel_rfl) (by kernel_rfl) (fun _ _ _ h => h) (Or.inl ⟨by rfl, ?_⟩) (by assumption) ?_
    rotate_left
    · (intro w' hSw; (try dsimp only at hSw); go_simp; try with_reducible rfl)
    simp only [Act.put, List.setIfInBounds_toArray, List.set_cons_zero, List.set_cons_succ]
    refine heldTake 4 (v := ?_) rfl (by kernel_rfl) (by kernel_rfl) (by kernel_rfl) (fun _ _ _ h => h) (Or.inl ⟨by rfl, ?_⟩) (by assumption) ?_
    rotate_left
    · (intro w' hSw; (try dsimp only at hSw); go_simp; try with_reducible rfl)
    simp only [Act.put, List.setIfInBounds_toArray, List.set_cons_zero, List.set_cons_succ]
    refine wpAnyH_ready (rs := [5, 9]) (by kernel_rfl) (by simp) ?_
    refine AllReadyH.cons rfl (fun K hK => ?_) (AllReadyH.cons rfl (fun K hK => ?_) AllReadyH.nil)
    · go_simp
      go_at_call 24
      refine (HB0.out _ (hx01.drew)).mono ?_
      rintro e w5 ⟨rfl, hx5⟩
      have hS5 : Ext w1 w5 := (Ext.refl w1).drew.trans hx5
      refine hK.out _ _ hS5 (fun hHeld2 => ?_)
      clear hK K
      refine heldTake 6 (v := ?_) rfl (by kernel_rfl) (by kernel_rfl) (by kernel_rfl) (fun _ _ _ h => h) (Or.inl ⟨by rfl, ?_⟩) (by assumption) ?_
      rotate_left
      · (intro w' hSw; (try dsimp only at hSw); go_simp; try with_reducible rfl)
      simp only [Act.put, List.setIfInBounds_toArray, List.set_cons_zero, List.set_cons_succ]
      refine heldTake 7 (v := ?_) rfl (by kernel_rfl) (by kernel_rfl) (by kernel_rfl) (fun _ _ _ h => h) (Or.inl ⟨by rfl, ?_⟩) (by assumption) ?_
      rotate_left
      · (intro w' hSw; (try dsimp only at hSw); go_simp; try with_reducible rfl)
      simp only [Act.put, List.setIfInBounds_toArray, List.set_cons_zero, List.set_cons_succ]
      refine heldTake 8 (v := ?_) rfl (by kernel_rfl) (by kernel_rfl) (by kernel_rfl) (fun _ _ _ h => h) (Or.inl ⟨by rfl, ?_⟩) (by assumption) ?_
      rotate_left
      · (intro w' hSw; (try dsimp only at hSw); go_simp; try with_reducible rfl)
      simp only [Act.put, List.setIfInBounds_toArray, List.set_cons_zero, List.set_cons_succ]
      refine wpAnyH_ready (rs := [9]) (by kernel_rfl) (by simp) ?_
      refine AllReadyH.cons rfl (fun K hK => ?_) AllReadyH.nil
      go_simp
      refine boxed1 (w := w5) (G := fun x => K _ x) ?_
      intro w6 hx6 hs6 ⟨l6, c6, f6, h6⟩
      have hS6 : Ext w1 w6 := Ext.trans hS5 hx6
      have hx66 : Ext w6 w6 := Ext.refl _
      have H6 := Lib.hid h6
      clear hs6 h6
      refine hK.out _ _ hS6 (fun hHeld2 => ?_)
      clear hK K
      refine wpAnyH_ready (rs := [10]) (by kernel_rfl) (by simp) ?_
      refine AllReadyH.cons rfl (fun K hK => ?_) AllReadyH.nil
      go_simp
      refine setw2 (w := w6) (G := fun x => K _ x) ?_
      intro w7 hw7
      have h5b : w1.heap.size ≤ w5.heap.size := by first | exact hS5.le | exact Nat.le_refl _
      have hS7 : Ext w1 w7 := by rw [hw7]; exact (hS6.setCell h5b _).setCell h5b _
      have H7 := Lib.hid (show Hold w7 w5.heap.size #[.int .i64 xl, .int .i64 xh] from by rw [hw7]; exact Hold.set2 H6.out _ _)
      clear hw7
      refine hK.out _ _ hS7 (fun hHeld2 => ?_)
      clear hK K
      refine heldTake 11 (v := ?_) rfl (by kernel_rfl) (by kernel_rfl) (by kernel_rfl) (fun _ _ _ h => h) (Or.inl ⟨by rfl, ?_⟩) (by assumption) ?_
      rotate_left
      · (intro w' hSw; (try dsimp only at hSw); go_simp; try with_reducible rfl)
      simp only [Act.put, List.setIfInBounds_toArray, List.set_cons_zero, List.set_cons_succ]
      refine wpAnyH_done (by kernel_rfl) ?_ _
      go_wp2_with fail
      go_meet
      case rel => exact ⟨_, rfl, rfl, H7.out, hS7, h5b⟩
    · go_simp
      refine boxed1 (w := w1.drew) (G := fun x => K _ x) ?_
      intro w4 hx4 hs4 ⟨l6, c6, f6, h6⟩
      have hS4 : Ext w1 w4 := (Ext.refl w1).drew.trans hx4
      have H6 := Lib.hid (show Hold w4 w1.heap.size #[.int .i64 0, .int .i64 0] from h6)
      replace l6 : ∀ w', Ext w4 w' → w1.heap.size < w'.heap.size := l6
      replace c6 : ∀ w', Ext w4 w' → ∀ i, w'.cell? ⟨w1.heap.size, i, none⟩ = (#[.int .i64 0, .int .i64 0] : Array Value)[i]? := c6
      replace f6 : ∀ w', Ext w4 w' → ∀ i, w'.frozen? ⟨w1.heap.size, i, none⟩ = false := f6
      clear hs4 h6
      refine hK.out _ _ hS4 (fun hHeld2 => ?_)
      clear hK K
      refine wpAnyH_ready (rs := [5]) (by kernel_rfl) (by simp) ?_
      refine AllReadyH.cons rfl (fun K hK => ?_) AllReadyH.nil
      go_simp
      go_at_call 24
      refine (HB0.out _ (hx01.trans hS4)).mono ?_
      rintro e w6 ⟨rfl, hx6⟩
      have hS6 : Ext w1 w6 := hS4.trans hx6
      have hx66 : Ext w6 w6 := Ext.refl _
      have H6 := Lib.hid (Hold.ext (b := w1.heap.size) H6.out hx6)
      refine hK.out _ _ hS6 (fun hHeld2 => ?_)
      clear hK K
      refine heldTake 6 (v := ?_) rfl (by kernel_rfl) (by kernel_rfl) (by kernel_rfl) (fun _ _ _ h => h) (Or.inl ⟨by rfl, ?_⟩) (by assumption) ?_
      rotate_left
      · (intro w' hSw; (try dsimp only at hSw); go_simp; try with_reducible rfl)
      simp only [Act.put, List.setIfInBounds_toArray, List.set_cons_zero, List.set_cons_succ]
      refine heldTake 7 (v := ?_) rfl (by kernel_rfl) (by kernel_rfl) (by kernel_rfl) (fun _ _ _ h => h) (Or.inl ⟨by rfl, ?_⟩) (by assumption) ?_
      rotate_left
      · (intro w' hSw; (try dsimp only at hSw); go_simp; try with_reducible rfl)
      simp only [Act.put, List.setIfInBounds_toArray, List.set_cons_zero, List.set_cons_succ]
      refine heldTake 8 (v := ?_) rfl (by kernel_rfl) (by kernel_rfl) (by kernel_rfl) (fun _ _ _ h => h) (Or.inl ⟨by rfl, ?_⟩) (by assumption) ?_
      rotate_left
      · (intro w' hSw; (try dsimp only at hSw); go_simp; try with_reducible rfl)
      simp only [Act.put, List.setIfInBounds_toArray, List.set_cons_zero, List.set_cons_succ]
      refine wpAnyH_ready (rs := [10]) (by kernel_rfl) (by simp) ?_
      refine AllReadyH.cons rfl (fun K hK => ?_) AllReadyH.nil
      go_simp
      refine setw2 (w := w6) (G := fun x => K _ x) ?_
      intro w7 hw7
      have h5b : w1.heap.size ≤ w1.heap.size := by first | exact hS5.le | exact Nat.le_refl _
      have hS7 : Ext w1 w7 := by rw [hw7]; exact (hS6.setCell h5b _).setCell h5b _
      have H7 := Lib.hid (show Hold w7 w1.heap.size #[.int .i64 xl, .int .i64 xh] from by rw [hw7]; exact Hold.set2 H6.out _ _)
      clear hw7
      refine hK.out _ _ hS7 (fun hHeld2 => ?_)
      clear hK K
      refine heldTake 11 (v := ?_) rfl (by kernel_rfl) (by kernel_rfl) (by kernel_rfl) (fun _ _ _ h => h) (Or.inl ⟨by rfl, ?_⟩) (by assumption) ?_
      rotate_left
      · (intro w' hSw; (try dsimp only at hSw); go_simp; try with_reducible rfl)
      simp only [Act.put, List.setIfInBounds_toArray, List.set_cons_zero, List.set_cons_succ]
      refine wpAnyH_done (by kernel_rfl) ?_ _
      go_wp2_with fail
      go_meet
      case rel => exact ⟨_, rfl, rfl, H7.out, hS7, h5b⟩
  case rest =>
    obtain ⟨ba, rfl, rfl, hA, hxc, hba⟩ := hcut
    have HA := Lib.hid hA
    have hcc : Ext wc wc := Ext.refl _
    obtain ⟨la, ca, _, _⟩ := hA.box
    clear hA
    go_upto_region 6 with fail
    refine boxed1 (w := wc) (G := fun x => Code.wp _ _ _ _ x) ?_
    intro w2 hx2 hs2 ⟨lb, cb, fb, kbb⟩
    have hx22 : Ext w2 w2 := Ext.refl _
    have hx12 := hxc.trans hx2
    have HB := Lib.hid (show Hold w2 wc.heap.size #[.int .i64 xl, .int .i64 xh] from kbb)
    have HA2 := Lib.hid (Hold.ext (b := ba) HA.out hx2)
    obtain ⟨l4, c4, f4, _⟩ := (Hold.ext' HK2.out.choose_spec hx12).box
    clear hs2 kbb
    go_upto_region 7 with fail
    refine wp_region_held_drew (S := fun w' => Ext w1 w') (by kernel_rfl) hx12.drew (fun hHeld => ?_)
    refine heldTake 0 (v := ?_) rfl (by kernel_rfl) (by kernel_rfl) (by kernel_rfl) (fun _ _ _ h => h) (Or.inl ⟨by rfl, ?_⟩) (by assumption) ?_
    rotate_left
    · (intro w' hSw; (try dsimp only at hSw); go_simp; try with_reducible rfl)
    simp only [Act.put, List.setIfInBounds_toArray, List.set_cons_zero, List.set_cons_succ]
    refine heldTake 1 (v := ?_) rfl (by kernel_rfl) (by kernel_rfl) (by kernel_rfl) (fun _ _ _ h => h) (Or.inl ⟨by rfl, ?_⟩) (by assumption) ?_
    rotate_left
    · (intro w' hSw; (try dsimp only at hSw); go_simp; try with_reducible rfl)
    simp only [Act.put, List.setIfInBounds_toArray, List.set_cons_zero, List.set_cons_succ]
    refine heldTake 2 (v := ?_) rfl (by kernel_rfl) (by kernel_rfl) (by kernel_rfl) (fun _ _ _ h => h) (Or.inl ⟨by rfl, ?_⟩) (by assumption) ?_
    rotate_left
    · (intro w' hSw; (try dsimp only at hSw); go_simp; try with_reducible rfl)
    simp only [Act.put, List.setIfInBounds_toArray, List.set_cons_zero, List.set_cons_succ]
    refine heldTake 3 (v := ?_) rfl (by kernel_rfl) (by kernel_rfl) (by kernel_rfl) (fun _ _ _ h => h) (Or.inl ⟨by rfl, ?_⟩) (by assumption) ?_
    rotate_left
    · (intro w' hSw; (try dsimp only at hSw); go_simp; try with_reducible rfl)
    simp only [Act.put, List.setIfInBounds_toArray, List.set_cons_zero, List.set_cons_succ]
    refine heldTake 4 (v := ?_) rfl (by kernel_rfl) (by kernel_rfl) (by kernel_rfl) (fun _ _ _ h => h) (Or.inl ⟨by rfl, ?_⟩) (by assumption) ?_
    rotate_left
    · (intro w' hSw; (try dsimp only at hSw); go_simp; try with_reducible rfl)
    simp only [Act.put, List.setIfInBounds_toArray, List.set_cons_zero, List.set_cons_succ]
    refine wpAnyH_ready (rs := [5]) (by kernel_rfl) (by simp) ?_
    refine AllReadyH.cons rfl (fun K hK => ?_) AllReadyH.nil
    go_simp
    go_at_call 24
    refine (HB1.out _ ((hx01.trans hx12).drew)).mono ?_
    rintro e w5 ⟨rfl, hx5⟩
    have hx25 : Ext w2 w5 := (Ext.refl w2).drew.trans hx5
    have hS5 : Ext w1 w5 := hx12.trans hx25
    have hx55 : Ext w5 w5 := Ext.refl _
    have HB5 := Lib.hid (Hold.ext (b := wc.heap.size) HB.out hx25)
    obtain ⟨lb5, cb5, fb5, _⟩ := (HB5.out : Hold w5 wc.heap.size _).box
    refine hK.out _ _ hS5 (fun hHeld2 => ?_)
    clear hK K
    refine heldTake 6 (v := ?_) rfl (by kernel_rfl) (by kernel_rfl) (by kernel_rfl) (fun _ _ _ h => h) (Or.inl ⟨by rfl, ?_⟩) (by assumption) ?_
    rotate_left
    · (intro w' hSw; (try dsimp only at hSw); go_simp; try with_reducible rfl)
    simp only [Act.put, List.setIfInBounds_toArray, List.set_cons_zero, List.set_cons_succ]
    refine heldTake 7 (v := ?_) rfl (by kernel_rfl) (by kernel_rfl) (by kernel_rfl) (fun _ _ _ h => h) (Or.inl ⟨by rfl, ?_⟩) (by assumption) ?_
    rotate_left
    · (intro w' hSw; (try dsimp only at hSw); go_simp; try with_reducible rfl)
    simp only [Act.put, List.setIfInBounds_toArray, List.set_cons_zero, List.set_cons_succ]
    refine heldTake 8 (v := ?_) rfl (by kernel_rfl) (by kernel_rfl) (by kernel_rfl) (fun _ _ _ h => h) (Or.inl ⟨by rfl, ?_⟩) (by assumption) ?_
    rotate_left
    · (intro w' hSw; (try dsimp only at hSw); go_simp; try with_reducible rfl)
    simp only [Act.put, List.setIfInBounds_toArray, List.set_cons_zero, List.set_cons_succ]
    refine wpAnyH_ready (rs := [9]) (by kernel_rfl) (by simp) ?_
    refine AllReadyH.cons rfl (fun K hK => ?_) AllReadyH.nil
    go_simp
    refine setw2 (w := w5) (G := fun x => K _ x) ?_
    intro w7 hw7
    have hwc1 : w1.heap.size ≤ wc.heap.size := hxc.le
    have hS7 : Ext w1 w7 := by rw [hw7]; exact (hS5.setCell hwc1 _).setCell hwc1 _
    have HB7 := Lib.hid (show Hold w7 wc.heap.size #[.int .i64 yl, .int .i64 yh] from by rw [hw7]; exact Hold.set2 HB5.out _ _)
    have HA7 := Lib.hid (show Hold w7 ba #[.int .i64 xl, .int .i64 xh] from by
      have hlt : ba < wc.heap.size := Hold.lt HA.out
      rw [hw7]; exact ((Hold.ext HA2.out hx25).other _ _ (by show ba ≠ wc.heap.size; omega)).other _ _ (by show ba ≠ wc.heap.size; omega))
    clear hw7 lb5 cb5 fb5
    refine hK.out _ _ hS7 (fun hHeld2 => ?_)
    clear hK K
    refine heldTake 10 (v := ?_) rfl (by kernel_rfl) (by kernel_rfl) (by kernel_rfl) (fun _ _ _ h => h) (Or.inl ⟨by rfl, ?_⟩) (by assumption) ?_
    rotate_left
    · (intro w' hSw; (try dsimp only at hSw); go_simp; try with_reducible rfl)
    simp only [Act.put, List.setIfInBounds_toArray, List.set_cons_zero, List.set_cons_succ]
    refine wpAnyH_done (by kernel_rfl) ?_ _
    have hx77 : Ext w7 w7 := Ext.refl _
    obtain ⟨la7, ca7, _, _⟩ := (HA7.out : Hold w7 ba _).box
    obtain ⟨lb7, cb7, _, _⟩ := (HB7.out : Hold w7 wc.heap.size _).box
    obtain ⟨l47, c47, f47, _⟩ := (Hold.ext' HK2.out.choose_spec hS7).box
    cases xo with
    | false =>
      have HN := Lib.hid (show T.toTr.nodeX 8 p.num p.proc p.peer p.name 2 ((xl, xh), false) ((yl, yh), yo) = ((0, 0), false) from by unfold Tr.nodeX; simp)
      go_wp2_with fail
      refine setw2 (w := w7) (G := fun x => bodyPost _ _ _ _ _ x) ?_
      intro w9 hw9
      have hk9 : Hold w9 (w.heap.size + 1 + 1) #[.int .i64 0, .int .i64 0] := by rw [hw9]; exact Hold.set2 (Hold.ext HK2.out hS7) _ _
      have hx9 : Ext w w9 := by rw [hw9]; exact ((hx1.trans hS7).setCell (by show w.heap.size ≤ w.heap.size + 1 + 1; omega) _).setCell (by show w.heap.size ≤ w.heap.size + 1 + 1; omega) _
      refine bodyPost_ret (bnd_results _ _ (w.heap.size + 1 + 1) _ _ (.bool false) rfl rfl (hk9.cell0 0) (hk9.cell0 1)) rfl ?_
      exact ⟨(by rw [HN.out]; rfl), hx9⟩
    | true =>
      cases yo with
      | false =>
        have HN := Lib.hid (show T.toTr.nodeX 8 p.num p.proc p.peer p.name 2 ((xl, xh), true) ((yl, yh), false) = ((0, 0), false) from by unfold Tr.nodeX; simp)
        go_wp2_with fail
        refine setw2 (w := w7) (G := fun x => bodyPost _ _ _ _ _ x) ?_
        intro w9 hw9
        have hk9 : Hold w9 (w.heap.size + 1 + 1) #[.int .i64 0, .int .i64 0] := by rw [hw9]; exact Hold.set2 (Hold.ext HK2.out hS7) _ _
        have hx9 : Ext w w9 := by rw [hw9]; exact ((hx1.trans hS7).setCell (by show w.heap.size ≤ w.heap.size + 1 + 1; omega) _).setCell (by show w.heap.size ≤ w.heap.size + 1 + 1; omega) _
        refine bodyPost_ret (bnd_results _ _ (w.heap.size + 1 + 1) _ _ (.bool false) rfl rfl (hk9.cell0 0) (hk9.cell0 1)) rfl ?_
        exact ⟨(by rw [HN.out]; rfl), hx9⟩
      | true =>
        obtain ⟨o1, o2, o3⟩ := HOK.out rfl
        obtain ⟨u1, u2, u3⟩ := HOK1.out rfl
        dsimp only at o1 o2 o3 u1 u2 u3
        have hp1 := fun W => product_any xl yl W (by omega) (by omega) (by omega) (by omega)
        have hp2 := fun W => product_any xl yh W (by omega) (by omega) (by omega) (by omega)
        have hp3 := fun W => product_any xh yl W (by omega) (by omega) (by omega) (by omega)
        have hp4 := fun W => product_any xh yh W (by omega) (by omega) (by omega) (by omega)
        have HN := Lib.hid (show T.toTr.nodeX 8 p.num p.proc p.peer p.name 2 ((xl, xh), true) ((yl, yh), true) = ((min (min (prodV xl yl) (prodV xl yh)) (min (prodV xh yl) (prodV xh yh)), max (max (prodV xl yl) (prodV xl yh)) (max (prodV xh yl) (prodV xh yh))), okB (min (min (prodV xl yl) (prodV xl yh)) (min (prodV xh yl) (prodV xh yh)), max (max (prodV xl yl) (prodV xl yh)) (max (prodV xh yl) (prodV xh yh)))) from by unfold Tr.nodeX; simp [combI])
        generalize prodV xl yl = p1 at hp1 HN
        generalize prodV xl yh = p2 at hp2 HN
        generalize prodV xh yl = p3 at hp3 HN
        generalize prodV xh yh = p4 at hp4 HN
        have HPa := Lib.hid hp1
        have HPb := Lib.hid hp2
        have HPc := Lib.hid hp3
        have HPd := Lib.hid hp4
        obtain ⟨rl, hrl⟩ : ∃ x, x = min (min p1 p2) (min p3 p4) := ⟨_, rfl⟩
        obtain ⟨rh, hrh⟩ : ∃ x, x = max (max p1 p2) (max p3 p4) := ⟨_, rfl⟩
        rw [← hrl, ← hrh] at HN
        have HRL := Lib.hid hrl
        have HRH := Lib.hid hrh
        clear hp1 hp2 hp3 hp4 hrl hrh o1 o2 o3 u1 u2 u3
        go_upto_region 11 with fail
        refine boxed1 (w := w7) (G := fun x => Code.wp _ _ _ _ x) ?_
        intro w10 hx10 hs10 ⟨l10, c10, f10, k10⟩
        have hx1010 : Ext w10 w10 := Ext.refl _
        have hxa := Ext.trans hS7 hx10
        have HK10 := Lib.hid (show Hold w10 w7.heap.size #[.int .i64 0, .int .i64 0] from k10)
        have HSZ10 := Lib.hid hs10
        clear hs10 k10 l10 c10 f10
        have hS10 : Ext w7 w10.drew := hx10.drew
        go_upto_region 12 with fail
        refine wp_region_held_drew (S := fun w' => Ext w7 w') (by kernel_rfl) hS10 (fun hHeld => ?_)
        refine heldTake 0 (v := ?_) rfl (by kernel_rfl) (by kernel_rfl) (by kernel_rfl) (fun _ _ _ h => h) (Or.inl ⟨by rfl, ?_⟩) (by assumption) ?_
        rotate_left
        · (intro w' hSw; (try dsimp only at hSw); go_simp; try with_reducible rfl)
        simp only [Act.put, List.setIfInBounds_toArray, List.set_cons_zero, List.set_cons_succ]
        refine heldTake 1 (v := ?_) rfl (by kernel_rfl) (by kernel_rfl) (by kernel_rfl) (fun _ _ _ h => h) (Or.inl ⟨by rfl, ?_⟩) (by assumption) ?_
        rotate_left
        · (intro w' hSw; (try dsimp only at hSw); go_simp; try with_reducible rfl)
        simp only [Act.put, List.setIfInBounds_toArray, List.set_cons_zero, List.set_cons_succ]
        refine heldTake 2 (v := ?_) rfl (by kernel_rfl) (by kernel_rfl) (by kernel_rfl) (fun _ _ _ h => h) (Or.inl ⟨by rfl, ?_⟩) (by assumption) ?_
        rotate_left
        · (intro w' hSw; (try dsimp only at hSw); go_simp; try with_reducible rfl)
        simp only [Act.put, List.setIfInBounds_toArray, List.set_cons_zero, List.set_cons_succ]
        refine heldTake 3 (v := ?_) rfl (by kernel_rfl) (by kernel_rfl) (by kernel_rfl) (fun _ _ _ h => h) (Or.inl ⟨by rfl, ?_⟩) (by assumption) ?_
        rotate_left
        · (intro w' hSw; (try dsimp only at hSw); go_simp; try with_reducible rfl)
        simp only [Act.put, List.setIfInBounds_toArray, List.set_cons_zero, List.set_cons_succ]
        refine heldTake 5 (v := ?_) rfl (by kernel_rfl) (by kernel_rfl) (by kernel_rfl) (fun _ _ _ h => h) (Or.inl ⟨by rfl, ?_⟩) (by assumption) ?_
        rotate_left
        · (intro w' hSw; (try dsimp only at hSw); go_simp; try with_reducible rfl)
        simp only [Act.put, List.setIfInBounds_toArray, List.set_cons_zero, List.set_cons_succ]
        refine heldTake 6 (v := ?_) rfl (by kernel_rfl) (by kernel_rfl) (by kernel_rfl) (fun _ _ _ h => h) (Or.inl ⟨by rfl, ?_⟩) (by assumption) ?_
        rotate_left
        · (intro w' hSw; (try dsimp only at hSw); go_simp; try with_reducible rfl)
        simp only [Act.put, List.setIfInBounds_toArray, List.set_cons_zero, List.set_cons_succ]
        refine heldTake 7 (v := ?_) rfl (by kernel_rfl) (by kernel_rfl) (by kernel_rfl) (fun _ _ _ h => h) (Or.inl ⟨by rfl, ?_⟩) (by assumption) ?_
        rotate_left
        · (intro w' hSw; (try dsimp only at hSw); go_simp; try with_reducible rfl)
        simp only [Act.put, List.setIfInBounds_toArray, List.set_cons_zero, List.set_cons_succ]
        refine heldTake 8 (v := ?_) rfl (by kernel_rfl) (by kernel_rfl) (by kernel_rfl) (fun _ _ _ h => h) (Or.inl ⟨by rfl, ?_⟩) (by assumption) ?_
        rotate_left
        · (intro w' hSw; (try dsimp only at hSw); go_simp; try with_reducible rfl)
        simp only [Act.put, List.setIfInBounds_toArray, List.set_cons_zero, List.set_cons_succ]
        refine heldTake 10 (v := ?_) rfl (by kernel_rfl) (by kernel_rfl) (by kernel_rfl) (fun _ _ _ h => h) (Or.inl ⟨by rfl, ?_⟩) (by assumption) ?_
        rotate_left
        · (intro w' hSw; (try dsimp only at hSw); go_simp; try with_reducible rfl)
        simp only [Act.put, List.setIfInBounds_toArray, List.set_cons_zero, List.set_cons_succ]
        refine heldTake 11 (v := ?_) rfl (by kernel_rfl) (by kernel_rfl) (by kernel_rfl) (fun _ _ _ h => h) (Or.inl ⟨by rfl, ?_⟩) (by assumption) ?_
        rotate_left
        · (intro w' hSw; (try dsimp only at hSw); go_simp; try with_reducible rfl)
        simp only [Act.put, List.setIfInBounds_toArray, List.set_cons_zero, List.set_cons_succ]
        refine heldTake 12 (v := ?_) rfl (by kernel_rfl) (by kernel_rfl) (by kernel_rfl) (fun _ _ _ h => h) (Or.inl ⟨by rfl, ?_⟩) (by assumption) ?_
        rotate_left
        · (intro w' hSw; (try dsimp only at hSw); go_simp; try with_reducible rfl)
        simp only [Act.put, List.setIfInBounds_toArray, List.set_cons_zero, List.set_cons_succ]
        refine heldTake 13 (v := ?_) rfl (by kernel_rfl) (by kernel_rfl) (by kernel_rfl) (fun _ _ _ h => h) (Or.inl ⟨by rfl, ?_⟩) (by assumption) ?_
        rotate_left
        · (intro w' hSw; (try dsimp only at hSw); go_simp; try with_reducible rfl)
        simp only [Act.put, List.setIfInBounds_toArray, List.set_cons_zero, List.set_cons_succ]
        refine heldTake 15 (v := ?_) rfl (by kernel_rfl) (by kernel_rfl) (by kernel_rfl) (fun _ _ _ h => h) (Or.inl ⟨by rfl, ?_⟩) (by assumption) ?_
        rotate_left
        · (intro w' hSw; (try dsimp only at hSw); go_simp; try with_reducible rfl)
        simp only [Act.put, List.setIfInBounds_toArray, List.set_cons_zero, List.set_cons_succ]
        refine heldTake 16 (v := ?_) rfl (by kernel_rfl) (by kernel_rfl) (by kernel_rfl) (fun _ _ _ h => h) (Or.inl ⟨by rfl, ?_⟩) (by assumption) ?_
        rotate_left
        · (intro w' hSw; (try dsimp only at hSw); go_simp; try with_reducible rfl)
        simp only [Act.put, List.setIfInBounds_toArray, List.set_cons_zero, List.set_cons_succ]
        refine heldTake 17 (v := ?_) rfl (by kernel_rfl) (by kernel_rfl) (by kernel_rfl) (fun _ _ _ h => h) (Or.inl ⟨by rfl, ?_⟩) (by assumption) ?_
        rotate_left
        · (intro w' hSw; (try dsimp only at hSw); go_simp; try with_reducible rfl)
        simp only [Act.put, List.setIfInBounds_toArray, List.set_cons_zero, List.set_cons_succ]
        refine heldTake 18 (v := ?_) rfl (by kernel_rfl) (by kernel_rfl) (by kernel_rfl) (fun _ _ _ h => h) (Or.inl ⟨by rfl, ?_⟩) (by assumption) ?_
        rotate_left
        · (intro w' hSw; (try dsimp only at hSw); go_simp; try with_reducible rfl)
        simp only [Act.put, List.setIfInBounds_toArray, List.set_cons_zero, List.set_cons_succ]
        refine wpAnyH_ready (rs := [4]) (by kernel_rfl) (by simp) ?_
        refine AllReadyH.cons rfl (fun K hK => ?_) AllReadyH.nil
        go_simp
        go_at_call 57
        refine (HPa.out _).mono ?_
        rintro e w' ⟨rfl, rfl⟩
        refine hK.out _ _ (by assumption) (fun hHeld2 => ?_)
        clear hK K
        refine wpAnyH_ready (rs := [9]) (by kernel_rfl) (by simp) ?_
        refine AllReadyH.cons rfl (fun K hK => ?_) AllReadyH.nil
        go_simp
        go_at_call 57
        refine (HPb.out _).mono ?_
        rintro e w' ⟨rfl, rfl⟩
        refine hK.out _ _ (by assumption) (fun hHeld2 => ?_)
        clear hK K
        refine wpAnyH_ready (rs := [14]) (by kernel_rfl) (by simp) ?_
        refine AllReadyH.cons rfl (fun K hK => ?_) AllReadyH.nil
        go_simp
        go_at_call 57
        refine (HPc.out _).mono ?_
        rintro e w' ⟨rfl, rfl⟩
        refine hK.out _ _ (by assumption) (fun hHeld2 => ?_)
        clear hK K
        refine wpAnyH_ready (rs := [19]) (by kernel_rfl) (by simp) ?_
        refine AllReadyH.cons rfl (fun K hK => ?_) AllReadyH.nil
        go_simp
        go_at_call 57
        refine (HPd.out _).mono ?_
        rintro e w' ⟨rfl, rfl⟩
        refine hK.out _ _ (by assumption) (fun hHeld2 => ?_)
        clear hK K
        refine wpAnyH_ready (rs := [20]) (by kernel_rfl) (by simp) ?_
        refine AllReadyH.cons rfl (fun K hK => ?_) AllReadyH.nil
        go_simp
        refine boxed1 (w := w10.drew) (G := fun x => K _ x) ?_
        intro w11 hx11' hs11 ⟨l11, c11, f11, k11⟩
        have hS11 : Ext w7 w11 := hS10.trans hx11'
        have hx1011 : Ext w10 w11 := (Ext.refl w10).drew.trans hx11'
        have hkk : Hold w11 w10.heap.size #[.int .i64 p1, .int .i64 p2, .int .i64 p3, .int .i64 p4] := k11
        have hH := hull_any w11 w10.heap.size 0 4 4 (fun j => [p1, p2, p3, p4].getD j 0) (by omega) (by omega) (fun j hj => by
          rw [Nat.zero_add, hkk.cell0 j]
          have : j = 0 ∨ j = 1 ∨ j = 2 ∨ j = 3 := by omega
          rcases this with rfl | rfl | rfl | rfl <;> rfl)
        have HH := Lib.hid hH
        clear hs11 k11 hkk hH l11 c11 f11
        refine hK.out _ _ hS11 (fun hHeld2 => ?_)
        clear hK K
        refine wpAnyH_ready (rs := [21]) (by kernel_rfl) (by simp) ?_
        refine AllReadyH.cons rfl (fun K hK => ?_) AllReadyH.nil
        go_simp
        go_at_call 56
        refine HH.out.mono ?_
        rintro e w12 ⟨hx12', lo, hi, rfl, e1, e2, e3, e4⟩
        have hS12 : Ext w7 w12 := hS11.trans hx12'
        have hx1012 : Ext w10 w12 := hx1011.trans hx12'
        have hx1212 : Ext w12 w12 := Ext.refl _
        obtain rfl : rl = lo := by
          obtain ⟨j, hj, e⟩ := e1
          have a0 := e2 0 (by omega)
          have a1 := e2 1 (by omega)
          have a2 := e2 2 (by omega)
          have a3 := e2 3 (by omega)
          have : j = 0 ∨ j = 1 ∨ j = 2 ∨ j = 3 := by omega
          rw [HRL.out]
          rcases this with rfl | rfl | rfl | rfl <;> (simp at e a0 a1 a2 a3; omega)
        obtain rfl : rh = hi := by
          obtain ⟨j, hj, e⟩ := e3
          have a0 := e4 0 (by omega)
          have a1 := e4 1 (by omega)
          have a2 := e4 2 (by omega)
          have a3 := e4 3 (by omega)
          have : j = 0 ∨ j = 1 ∨ j = 2 ∨ j = 3 := by omega
          rw [HRH.out]
          rcases this with rfl | rfl | rfl | rfl <;> (simp at e a0 a1 a2 a3; omega)
        clear e1 e2 e3 e4
        have HK12 := Lib.hid (Hold.ext (b := w7.heap.size) HK10.out hx1012)
        obtain ⟨l12, c12, f12, _⟩ := (HK12.out : Hold w12 w7.heap.size _).box
        refine hK.out _ _ hS12 (fun hHeld2 => ?_)
        clear hK K
        refine wpAnyH_ready (rs := [22]) (by kernel_rfl) (by simp) ?_
        refine AllReadyH.cons rfl (fun K hK => ?_) AllReadyH.nil
        go_simp
        refine setw2 (w := w12) (G := fun x => K _ x) ?_
        intro w13 hw13
        have hx713 : Ext w7 w13 := by rw [hw13]; exact (hS12.setCell (Nat.le_refl _) _).setCell (Nat.le_refl _) _
        have HK13 := Lib.hid (show Hold w13 w7.heap.size #[.int .i64 rl, .int .i64 rh] from by rw [hw13]; exact Hold.set2 HK12.out _ _)
        refine hK.out _ _ hx713 (fun hHeld2 => ?_)
        clear hK K
        refine wpAnyH_done (by kernel_rfl) ?_ _
        have hk3 : Hold w13 w7.heap.size #[.int .i64 (rl), .int .i64 (rh)] := HK13.out
        have hx3 := hx713
        clear hw13 l12 c12 f12
        obtain ⟨w3, rfl⟩ : ∃ w3, w3 = w13 := ⟨_, rfl⟩
        go_upto_region 19 with fail
        obtain ⟨l3, c3, f3, _⟩ := hk3.box
        have hx33 : Ext w3 w3 := Ext.refl _
        have hx13 := Ext.trans hS7 hx3
        obtain ⟨l5, c5, f5, _⟩ := (Hold.ext' HK2.out.choose_spec hx13).box
        clear hk3
        have hG := fun W => great_any W rl rh (!okB (rl, rh)) (okB_iff (rl, rh) _ rfl)
        have HG := Lib.hid hG
        generalize okB (rl, rh) = ok at HG HN
        clear hG
        go_region_with (go_at_call 55; refine (HG.out _).mono ?_; rintro e w5 ⟨rfl, hx5⟩; have hx35 : Ext w3 w5 := Ext.trans (Ext.drew (Ext.refl w3)) hx5)
        all_goals
          go_wp2_with fail
          refine setw2 (w := w5) (G := fun x => bodyPost _ _ _ _ _ x) ?_
          intro w9 hw9
          have hk9 : Hold w9 (w.heap.size + 1 + 1) #[.int .i64 (rl), .int .i64 (rh)] := by rw [hw9]; exact Hold.set2 (Hold.ext HK2.out (hx13.trans hx35)) _ _
          have hx9 : Ext w w9 := by rw [hw9]; exact ((hx1.trans (hx13.trans hx35)).setCell (by show w.heap.size ≤ w.heap.size + 1 + 1; omega) _).setCell (by show w.heap.size ≤ w.heap.size + 1 + 1; omega) _
          refine bodyPost_ret (bnd_results _ _ (w.heap.size + 1 + 1) _ _ (.bool ok) rfl rfl (hk9.cell0 0) (hk9.cell0 1)) rfl ?_
          exact ⟨(by rw [HN.out]; rfl), hx9⟩

end Go.Proofs.YtdplphoohnnbcaaGreatDoor
