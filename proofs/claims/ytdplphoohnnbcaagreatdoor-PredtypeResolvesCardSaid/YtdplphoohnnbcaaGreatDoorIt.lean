/- Contract of antecederef28.interval: products; all nodes. -/
import Derived.Test.YtdplphoohnnbcaaGreatDoorIs
namespace Go.Proofs.YtdplphoohnnbcaaGreatDoor
open Go.RowKit Go.Shelf

set_option maxRecDepth 100000 in
set_option maxHeartbeats 4000000 in
theorem rint8_any (w0 : World) (T : TM) (hV : T.toTr.Valid) (p : Pr) (hp : p.All T.toTr.IntN) (hpa : p.At w0) (h2 : p.len = 2) (hk : p.kind = 8) (w : World) (hx : Ext w0 w)
    (hB : ∀ i, i < p.len → ∀ W, Ext w0 W → Calls Tryz.prog 26 #[T.val, (p.kid i).val] W (RivPost (T.toTr.bnd (p.kid i)) W)) :
    Calls Tryz.prog 26 #[T.val, p.val] w (RivPost (T.toTr.bnd p) w) := by
  have hb : T.toTr.bnd p = T.toTr.nodeX p.kind p.num p.proc p.peer p.name p.len (T.toTr.bnd (p.kid 0)) (T.toTr.bnd (p.kid 1)) := Tr.bnd_eq _ _
  rw [hb, h2, hk]
  have hB0 := hB 0 (by omega)
  have hB1 := hB 1 (by omega)
  have hok := fun h => Tr.bnd_ok hV (p := p.kid 0) (hp.kid (by omega)) h
  have hok1 := fun h => Tr.bnd_ok hV (p := p.kid 1) (hp.kid (by omega)) h
  have kb := hpa.here.hb (by omega)
  have ka := hpa.here.ha (by omega)
  have k00 : ∀ w', Ext w0 w' → w'.cell? ⟨p.b, p.off, none⟩ = _ := fun w' h => by have := hpa.here.c0 w' h 0 (by omega); simpa using this
  have k10 : ∀ w', Ext w0 w' → w'.cell? ⟨p.b, p.off + 1, none⟩ = _ := fun w' h => by have := hpa.here.c1 w' h 0 (by omega); simpa using this
  have k20 : ∀ w', Ext w0 w' → w'.cell? ⟨p.b, p.off + 2, none⟩ = _ := fun w' h => by have := hpa.here.c2 w' h 0 (by omega); simpa using this
  have k30 : ∀ w', Ext w0 w' → w'.cell? ⟨p.b, p.off + 3, none⟩ = _ := fun w' h => by have := hpa.here.c3 w' h 0 (by omega); simpa using this
  have k40 : ∀ w', Ext w0 w' → w'.cell? ⟨p.b, p.off + 4, none⟩ = _ := fun w' h => by have := hpa.here.c4 w' h 0 (by omega); simpa using this
  have k50 : ∀ w', Ext w0 w' → w'.cell? ⟨p.b, p.off + 5, none⟩ = _ := fun w' h => by have := hpa.here.c5 w' h 0 (by omega); simpa using this
  have k01 : ∀ w', Ext w0 w' → w'.cell? ⟨p.b, p.off + 6, none⟩ = _ := fun w' h => by have := hpa.here.c0 w' h 1 (by omega); simpa using this
  have k11 : ∀ w', Ext w0 w' → w'.cell? ⟨p.b, p.off + 7, none⟩ = _ := fun w' h => by have := hpa.here.c1 w' h 1 (by omega); simpa using this
  have k21 : ∀ w', Ext w0 w' → w'.cell? ⟨p.b, p.off + 8, none⟩ = _ := fun w' h => by have := hpa.here.c2 w' h 1 (by omega); simpa using this
  have k31 : ∀ w', Ext w0 w' → w'.cell? ⟨p.b, p.off + 9, none⟩ = _ := fun w' h => by have := hpa.here.c3 w' h 1 (by omega); simpa using this
  have k41 : ∀ w', Ext w0 w' → w'.cell? ⟨p.b, p.off + 10, none⟩ = _ := fun w' h => by have := hpa.here.c4 w' h 1 (by omega); simpa using this
  have k51 : ∀ w', Ext w0 w' → w'.cell? ⟨p.b, p.off + 11, none⟩ = _ := fun w' h => by have := hpa.here.c5 w' h 1 (by omega); simpa using this
  obtain ⟨⟨⟨xl, xh⟩, xo⟩, hxx⟩ : ∃ x, x = T.toTr.bnd (p.kid 0) := ⟨_, rfl⟩
  obtain ⟨⟨⟨yl, yh⟩, yo⟩, hyy⟩ : ∃ x, x = T.toTr.bnd (p.kid 1) := ⟨_, rfl⟩
  rw [← hxx] at hB0 hok ⊢
  rw [← hyy] at hB1 hok1 ⊢
  simp only [Pr.val, TM.val] at hB0 hB1 ⊢
  rw [h2, hk, ka]
  have HB0 := Lib.hid hB0
  have HB1 := Lib.hid hB1
  clear hB0 hB1 hxx hyy hb hB hp hpa h2 hk ka hV
  cases xo with
  | false =>
    clear hok hok1
    have HN := Lib.hid (show T.toTr.nodeX 8 p.num p.proc p.peer p.name 2 ((xl, xh), false) ((yl, yh), yo) = ((0, 0), false) from by unfold Tr.nodeX; simp)
    rw [HN.out]
    clear HN
    go_enter Tryz.func26, Tryz.ntmps26
    go_upto_region 1 with fail
    refine boxed2 (w := w) (G := fun x => Code.wp _ _ _ _ x) ?_
    intro w1 hx1 hs1 ⟨l0, c0, _, _⟩ ⟨l1, c1, _, _⟩
    have hx11 : Ext w1 w1 := Ext.refl _
    have hx01 := hx.trans hx1
    clear hs1
    go_wp2_with fail
    go_upto_region 4 with fail
    refine wp_region_reads 5 (by kernel_rfl) (by kernel_rfl) ?_
    simp only [List.take_succ_cons, List.take_zero]
    repeat still_step
    refine wpStill_nil ?_
    refine wpAny_ready (rs := [5]) (by kernel_rfl) (by simp) ?_
    refine AllReady.cons rfl (fun K hK => ?_) AllReady.nil
    go_simp
    go_at_call 26
    refine (HB0.out _ (hx01.trans (hx11).drew)).mono ?_
    rintro e w3 ⟨rfl, hxn⟩
    refine hK _ _ ?_; clear hK K
    have hx13 : Ext w1 w3 := (hx11).drew.trans hxn
    have hzw3 : Ext w0 w3 := hx01.trans hx13
    clear hxn
    refine wpAny_take (i := 6) (v := ?_) rfl (by kernel_rfl) (by kernel_rfl) (by kernel_rfl) (fun _ _ _ h => h) (Or.inl ⟨by rfl, ?_⟩) ?_
    rotate_left
    · intro w; go_simp; try with_reducible rfl
    refine wpAny_take (i := 7) (v := ?_) rfl (by kernel_rfl) (by kernel_rfl) (by kernel_rfl) (fun _ _ _ h => h) (Or.inl ⟨by rfl, ?_⟩) ?_
    rotate_left
    · intro w; go_simp; try with_reducible rfl
    refine wpAny_take (i := 8) (v := ?_) rfl (by kernel_rfl) (by kernel_rfl) (by kernel_rfl) (fun _ _ _ h => h) (Or.inl ⟨by rfl, ?_⟩) ?_
    rotate_left
    · intro w; go_simp; try with_reducible rfl
    refine wpAny_take (i := 9) (v := ?_) rfl (by kernel_rfl) (by kernel_rfl) (by kernel_rfl) (fun _ _ _ h => h) (Or.inl ⟨by rfl, ?_⟩) ?_
    rotate_left
    · intro w; go_simp; try with_reducible rfl
    refine wpAny_take (i := 10) (v := ?_) rfl (by kernel_rfl) (by kernel_rfl) (by kernel_rfl) (fun _ _ _ h => h) (Or.inl ⟨by rfl, ?_⟩) ?_
    rotate_left
    · intro w; go_simp; try with_reducible rfl
    refine wpAny_take (i := 11) (v := ?_) rfl (by kernel_rfl) (by kernel_rfl) (by kernel_rfl) (fun _ _ _ h => h) (Or.inl ⟨by rfl, ?_⟩) ?_
    rotate_left
    · intro w; go_simp; try with_reducible rfl
    refine wpAny_take (i := 12) (v := ?_) rfl (by kernel_rfl) (by kernel_rfl) (by kernel_rfl) (fun _ _ _ h => h) (Or.inl ⟨by rfl, ?_⟩) ?_
    rotate_left
    · intro w; go_simp; try with_reducible rfl
    refine wpAny_done (by kernel_rfl) ?_ _
    go_wp2_with fail
    go_upto_region 6 with fail
    refine wp_region_reads 5 (by kernel_rfl) (by kernel_rfl) ?_
    simp only [List.take_succ_cons, List.take_zero]
    repeat still_step
    refine wpStill_nil ?_
    refine wpAny_ready (rs := [5]) (by kernel_rfl) (by simp) ?_
    refine AllReady.cons rfl (fun K hK => ?_) AllReady.nil
    go_simp
    go_at_call 26
    refine (HB1.out _ (hx01.trans (hx13).drew)).mono ?_
    rintro e w5 ⟨rfl, hxn⟩
    refine hK _ _ ?_; clear hK K
    have hx15 : Ext w1 w5 := (hx13).drew.trans hxn
    have hzw5 : Ext w0 w5 := hx01.trans hx15
    clear hxn
    refine wpAny_take (i := 6) (v := ?_) rfl (by kernel_rfl) (by kernel_rfl) (by kernel_rfl) (fun _ _ _ h => h) (Or.inl ⟨by rfl, ?_⟩) ?_
    rotate_left
    · intro w; go_simp; try with_reducible rfl
    refine wpAny_take (i := 7) (v := ?_) rfl (by kernel_rfl) (by kernel_rfl) (by kernel_rfl) (fun _ _ _ h => h) (Or.inl ⟨by rfl, ?_⟩) ?_
    rotate_left
    · intro w; go_simp; try with_reducible rfl
    refine wpAny_take (i := 8) (v := ?_) rfl (by kernel_rfl) (by kernel_rfl) (by kernel_rfl) (fun _ _ _ h => h) (Or.inl ⟨by rfl, ?_⟩) ?_
    rotate_left
    · intro w; go_simp; try with_reducible rfl
    refine wpAny_take (i := 9) (v := ?_) rfl (by kernel_rfl) (by kernel_rfl) (by kernel_rfl) (fun _ _ _ h => h) (Or.inl ⟨by rfl, ?_⟩) ?_
    rotate_left
    · intro w; go_simp; try with_reducible rfl
    refine wpAny_take (i := 10) (v := ?_) rfl (by kernel_rfl) (by kernel_rfl) (by kernel_rfl) (fun _ _ _ h => h) (Or.inl ⟨by rfl, ?_⟩) ?_
    rotate_left
    · intro w; go_simp; try with_reducible rfl
    refine wpAny_take (i := 11) (v := ?_) rfl (by kernel_rfl) (by kernel_rfl) (by kernel_rfl) (fun _ _ _ h => h) (Or.inl ⟨by rfl, ?_⟩) ?_
    rotate_left
    · intro w; go_simp; try with_reducible rfl
    refine wpAny_take (i := 12) (v := ?_) rfl (by kernel_rfl) (by kernel_rfl) (by kernel_rfl) (fun _ _ _ h => h) (Or.inl ⟨by rfl, ?_⟩) ?_
    rotate_left
    · intro w; go_simp; try with_reducible rfl
    refine wpAny_done (by kernel_rfl) ?_ _
    go_wp2_with fail
    go_ret3
    exact ⟨rfl, hx1.trans hx15⟩
  | true =>
    cases yo with
    | false =>
      clear hok hok1
      have HN := Lib.hid (show T.toTr.nodeX 8 p.num p.proc p.peer p.name 2 ((xl, xh), true) ((yl, yh), false) = ((0, 0), false) from by unfold Tr.nodeX; simp)
      rw [HN.out]
      clear HN
      go_enter Tryz.func26, Tryz.ntmps26
      go_upto_region 1 with fail
      refine boxed2 (w := w) (G := fun x => Code.wp _ _ _ _ x) ?_
      intro w1 hx1 hs1 ⟨l0, c0, _, _⟩ ⟨l1, c1, _, _⟩
      have hx11 : Ext w1 w1 := Ext.refl _
      have hx01 := hx.trans hx1
      clear hs1
      go_wp2_with fail
      go_upto_region 4 with fail
      refine wp_region_reads 5 (by kernel_rfl) (by kernel_rfl) ?_
      simp only [List.take_succ_cons, List.take_zero]
      repeat still_step
      refine wpStill_nil ?_
      refine wpAny_ready (rs := [5]) (by kernel_rfl) (by simp) ?_
      refine AllReady.cons rfl (fun K hK => ?_) AllReady.nil
      go_simp
      go_at_call 26
      refine (HB0.out _ (hx01.trans (hx11).drew)).mono ?_
      rintro e w3 ⟨rfl, hxn⟩
      refine hK _ _ ?_; clear hK K
      have hx13 : Ext w1 w3 := (hx11).drew.trans hxn
      have hzw3 : Ext w0 w3 := hx01.trans hx13
      clear hxn
      refine wpAny_take (i := 6) (v := ?_) rfl (by kernel_rfl) (by kernel_rfl) (by kernel_rfl) (fun _ _ _ h => h) (Or.inl ⟨by rfl, ?_⟩) ?_
      rotate_left
      · intro w; go_simp; try with_reducible rfl
      refine wpAny_take (i := 7) (v := ?_) rfl (by kernel_rfl) (by kernel_rfl) (by kernel_rfl) (fun _ _ _ h => h) (Or.inl ⟨by rfl, ?_⟩) ?_
      rotate_left
      · intro w; go_simp; try with_reducible rfl
      refine wpAny_take (i := 8) (v := ?_) rfl (by kernel_rfl) (by kernel_rfl) (by kernel_rfl) (fun _ _ _ h => h) (Or.inl ⟨by rfl, ?_⟩) ?_
      rotate_left
      · intro w; go_simp; try with_reducible rfl
      refine wpAny_take (i := 9) (v := ?_) rfl (by kernel_rfl) (by kernel_rfl) (by kernel_rfl) (fun _ _ _ h => h) (Or.inl ⟨by rfl, ?_⟩) ?_
      rotate_left
      · intro w; go_simp; try with_reducible rfl
      refine wpAny_take (i := 10) (v := ?_) rfl (by kernel_rfl) (by kernel_rfl) (by kernel_rfl) (fun _ _ _ h => h) (Or.inl ⟨by rfl, ?_⟩) ?_
      rotate_left
      · intro w; go_simp; try with_reducible rfl
      refine wpAny_take (i := 11) (v := ?_) rfl (by kernel_rfl) (by kernel_rfl) (by kernel_rfl) (fun _ _ _ h => h) (Or.inl ⟨by rfl, ?_⟩) ?_
      rotate_left
      · intro w; go_simp; try with_reducible rfl
      refine wpAny_take (i := 12) (v := ?_) rfl (by kernel_rfl) (by kernel_rfl) (by kernel_rfl) (fun _ _ _ h => h) (Or.inl ⟨by rfl, ?_⟩) ?_
      rotate_left
      · intro w; go_simp; try with_reducible rfl
      refine wpAny_done (by kernel_rfl) ?_ _
      go_wp2_with fail
      go_upto_region 6 with fail
      refine wp_region_reads 5 (by kernel_rfl) (by kernel_rfl) ?_
      simp only [List.take_succ_cons, List.take_zero]
      repeat still_step
      refine wpStill_nil ?_
      refine wpAny_ready (rs := [5]) (by kernel_rfl) (by simp) ?_
      refine AllReady.cons rfl (fun K hK => ?_) AllReady.nil
      go_simp
      go_at_call 26
      refine (HB1.out _ (hx01.trans (hx13).drew)).mono ?_
      rintro e w5 ⟨rfl, hxn⟩
      refine hK _ _ ?_; clear hK K
      have hx15 : Ext w1 w5 := (hx13).drew.trans hxn
      have hzw5 : Ext w0 w5 := hx01.trans hx15
      clear hxn
      refine wpAny_take (i := 6) (v := ?_) rfl (by kernel_rfl) (by kernel_rfl) (by kernel_rfl) (fun _ _ _ h => h) (Or.inl ⟨by rfl, ?_⟩) ?_
      rotate_left
      · intro w; go_simp; try with_reducible rfl
      refine wpAny_take (i := 7) (v := ?_) rfl (by kernel_rfl) (by kernel_rfl) (by kernel_rfl) (fun _ _ _ h => h) (Or.inl ⟨by rfl, ?_⟩) ?_
      rotate_left
      · intro w; go_simp; try with_reducible rfl
      refine wpAny_take (i := 8) (v := ?_) rfl (by kernel_rfl) (by kernel_rfl) (by kernel_rfl) (fun _ _ _ h => h) (Or.inl ⟨by rfl, ?_⟩) ?_
      rotate_left
      · intro w; go_simp; try with_reducible rfl
      refine wpAny_take (i := 9) (v := ?_) rfl (by kernel_rfl) (by kernel_rfl) (by kernel_rfl) (fun _ _ _ h => h) (Or.inl ⟨by rfl, ?_⟩) ?_
      rotate_left
      · intro w; go_simp; try with_reducible rfl
      refine wpAny_take (i := 10) (v := ?_) rfl (by kernel_rfl) (by kernel_rfl) (by kernel_rfl) (fun _ _ _ h => h) (Or.inl ⟨by rfl, ?_⟩) ?_
      rotate_left
      · intro w; go_simp; try with_reducible rfl
      refine wpAny_take (i := 11) (v := ?_) rfl (by kernel_rfl) (by kernel_rfl) (by kernel_rfl) (fun _ _ _ h => h) (Or.inl ⟨by rfl, ?_⟩) ?_
      rotate_left
      · intro w; go_simp; try with_reducible rfl
      refine wpAny_take (i := 12) (v := ?_) rfl (by kernel_rfl) (by kernel_rfl) (by kernel_rfl) (fun _ _ _ h => h) (Or.inl ⟨by rfl, ?_⟩) ?_
      rotate_left
      · intro w; go_simp; try with_reducible rfl
      refine wpAny_done (by kernel_rfl) ?_ _
      go_wp2_with fail
      go_ret3
      exact ⟨rfl, hx1.trans hx15⟩
    | true =>
      obtain ⟨o1, o2, o3⟩ := hok rfl
      obtain ⟨o4, o5, o6⟩ := hok1 rfl
      dsimp only at o1 o2 o3 o4 o5 o6
      have HN := Lib.hid (show T.toTr.nodeX 8 p.num p.proc p.peer p.name 2 ((xl, xh), true) ((yl, yh), true) = ((min (min (prodV xl yl) (prodV xl yh)) (min (prodV xh yl) (prodV xh yh)), max (max (prodV xl yl) (prodV xl yh)) (max (prodV xh yl) (prodV xh yh))), okB (min (min (prodV xl yl) (prodV xl yh)) (min (prodV xh yl) (prodV xh yh)), max (max (prodV xl yl) (prodV xl yh)) (max (prodV xh yl) (prodV xh yh)))) from by unfold Tr.nodeX; simp [combI])
      rw [HN.out]
      clear HN hok hok1
      (have hq1 := fun W => rtimes_any xl yl W (by omega) (by omega) (by omega) (by omega); have hq2 := fun W => rtimes_any xl yh W (by omega) (by omega) (by omega) (by omega); have hq3 := fun W => rtimes_any xh yl W (by omega) (by omega) (by omega) (by omega); have hq4 := fun W => rtimes_any xh yh W (by omega) (by omega) (by omega) (by omega); have HQ1 := Lib.hid hq1; have HQ2 := Lib.hid hq2; have HQ3 := Lib.hid hq3; have HQ4 := Lib.hid hq4; clear hq1 hq2 hq3 hq4; generalize prodV xl yl = q1 at HQ1 ⊢; generalize prodV xl yh = q2 at HQ2 ⊢; generalize prodV xh yl = q3 at HQ3 ⊢; generalize prodV xh yh = q4 at HQ4 ⊢; obtain ⟨LL, hLL⟩ : ∃ x, x = min (min q1 q2) (min q3 q4) := ⟨_, rfl⟩; obtain ⟨HH, hHH⟩ : ∃ x, x = max (max q1 q2) (max q3 q4) := ⟨_, rfl⟩; rw [← hLL, ← hHH]; have HLL := Lib.hid hLL; have HHH := Lib.hid hHH; clear hLL hHH)
      go_enter Tryz.func26, Tryz.ntmps26
      go_upto_region 1 with fail
      refine boxed2 (w := w) (G := fun x => Code.wp _ _ _ _ x) ?_
      intro w1 hx1 hs1 ⟨l0, c0, _, _⟩ ⟨l1, c1, _, _⟩
      have hx11 : Ext w1 w1 := Ext.refl _
      have hx01 := hx.trans hx1
      clear hs1
      go_wp2_with fail
      go_upto_region 4 with fail
      refine wp_region_reads 5 (by kernel_rfl) (by kernel_rfl) ?_
      simp only [List.take_succ_cons, List.take_zero]
      repeat still_step
      refine wpStill_nil ?_
      refine wpAny_ready (rs := [5]) (by kernel_rfl) (by simp) ?_
      refine AllReady.cons rfl (fun K hK => ?_) AllReady.nil
      go_simp
      go_at_call 26
      refine (HB0.out _ (hx01.trans (hx11).drew)).mono ?_
      rintro e w3 ⟨rfl, hxn⟩
      refine hK _ _ ?_; clear hK K
      have hx13 : Ext w1 w3 := (hx11).drew.trans hxn
      have hzw3 : Ext w0 w3 := hx01.trans hx13
      clear hxn
      refine wpAny_take (i := 6) (v := ?_) rfl (by kernel_rfl) (by kernel_rfl) (by kernel_rfl) (fun _ _ _ h => h) (Or.inl ⟨by rfl, ?_⟩) ?_
      rotate_left
      · intro w; go_simp; try with_reducible rfl
      refine wpAny_take (i := 7) (v := ?_) rfl (by kernel_rfl) (by kernel_rfl) (by kernel_rfl) (fun _ _ _ h => h) (Or.inl ⟨by rfl, ?_⟩) ?_
      rotate_left
      · intro w; go_simp; try with_reducible rfl
      refine wpAny_take (i := 8) (v := ?_) rfl (by kernel_rfl) (by kernel_rfl) (by kernel_rfl) (fun _ _ _ h => h) (Or.inl ⟨by rfl, ?_⟩) ?_
      rotate_left
      · intro w; go_simp; try with_reducible rfl
      refine wpAny_take (i := 9) (v := ?_) rfl (by kernel_rfl) (by kernel_rfl) (by kernel_rfl) (fun _ _ _ h => h) (Or.inl ⟨by rfl, ?_⟩) ?_
      rotate_left
      · intro w; go_simp; try with_reducible rfl
      refine wpAny_take (i := 10) (v := ?_) rfl (by kernel_rfl) (by kernel_rfl) (by kernel_rfl) (fun _ _ _ h => h) (Or.inl ⟨by rfl, ?_⟩) ?_
      rotate_left
      · intro w; go_simp; try with_reducible rfl
      refine wpAny_take (i := 11) (v := ?_) rfl (by kernel_rfl) (by kernel_rfl) (by kernel_rfl) (fun _ _ _ h => h) (Or.inl ⟨by rfl, ?_⟩) ?_
      rotate_left
      · intro w; go_simp; try with_reducible rfl
      refine wpAny_take (i := 12) (v := ?_) rfl (by kernel_rfl) (by kernel_rfl) (by kernel_rfl) (fun _ _ _ h => h) (Or.inl ⟨by rfl, ?_⟩) ?_
      rotate_left
      · intro w; go_simp; try with_reducible rfl
      refine wpAny_done (by kernel_rfl) ?_ _
      go_wp2_with fail
      go_upto_region 6 with fail
      refine wp_region_reads 5 (by kernel_rfl) (by kernel_rfl) ?_
      simp only [List.take_succ_cons, List.take_zero]
      repeat still_step
      refine wpStill_nil ?_
      refine wpAny_ready (rs := [5]) (by kernel_rfl) (by simp) ?_
      refine AllReady.cons rfl (fun K hK => ?_) AllReady.nil
      go_simp
      go_at_call 26
      refine (HB1.out _ (hx01.trans (hx13).drew)).mono ?_
      rintro e w5 ⟨rfl, hxn⟩
      refine hK _ _ ?_; clear hK K
      have hx15 : Ext w1 w5 := (hx13).drew.trans hxn
      have hzw5 : Ext w0 w5 := hx01.trans hx15
      clear hxn
      refine wpAny_take (i := 6) (v := ?_) rfl (by kernel_rfl) (by kernel_rfl) (by kernel_rfl) (fun _ _ _ h => h) (Or.inl ⟨by rfl, ?_⟩) ?_
      rotate_left
      · intro w; go_simp; try with_reducible rfl
      refine wpAny_take (i := 7) (v := ?_) rfl (by kernel_rfl) (by kernel_rfl) (by kernel_rfl) (fun _ _ _ h => h) (Or.inl ⟨by rfl, ?_⟩) ?_
      rotate_left
      · intro w; go_simp; try with_reducible rfl
      refine wpAny_take (i := 8) (v := ?_) rfl (by kernel_rfl) (by kernel_rfl) (by kernel_rfl) (fun _ _ _ h => h) (Or.inl ⟨by rfl, ?_⟩) ?_
      rotate_left
      · intro w; go_simp; try with_reducible rfl
      refine wpAny_take (i := 9) (v := ?_) rfl (by kernel_rfl) (by kernel_rfl) (by kernel_rfl) (fun _ _ _ h => h) (Or.inl ⟨by rfl, ?_⟩) ?_
      rotate_left
      · intro w; go_simp; try with_reducible rfl
      refine wpAny_take (i := 10) (v := ?_) rfl (by kernel_rfl) (by kernel_rfl) (by kernel_rfl) (fun _ _ _ h => h) (Or.inl ⟨by rfl, ?_⟩) ?_
      rotate_left
      · intro w; go_simp; try with_reducible rfl
      refine wpAny_take (i := 11) (v := ?_) rfl (by kernel_rfl) (by kernel_rfl) (by kernel_rfl) (fun _ _ _ h => h) (Or.inl ⟨by rfl, ?_⟩) ?_
      rotate_left
      · intro w; go_simp; try with_reducible rfl
      refine wpAny_take (i := 12) (v := ?_) rfl (by kernel_rfl) (by kernel_rfl) (by kernel_rfl) (fun _ _ _ h => h) (Or.inl ⟨by rfl, ?_⟩) ?_
      rotate_left
      · intro w; go_simp; try with_reducible rfl
      refine wpAny_done (by kernel_rfl) ?_ _
      go_upto_region 24 with fail
      go_cut [13] (fun s13 wx => s13 = .int .i64 LL ∧ w5 = wx)
      case first =>
        go_wp2_with fail
        go_at_call 61
        refine (HQ1.out _).mono ?_
        rintro e w' ⟨rfl, rfl⟩
        go_wp2_with fail
        go_at_call 61
        refine (HQ2.out _).mono ?_
        rintro e w' ⟨rfl, rfl⟩
        go_wp2_with fail
        all_goals
          go_at_call 61
          refine (HQ3.out _).mono ?_
          rintro e w' ⟨rfl, rfl⟩
          go_wp2_with fail
          go_at_call 61
          refine (HQ4.out _).mono ?_
          rintro e w' ⟨rfl, rfl⟩
          go_wp2_with fail
          all_goals
            go_meet
            case rel =>
              refine ⟨congrArg (Value.int .i64) ?_, rfl⟩
              have h9 := HLL.out
              omega
      case rest =>
        obtain ⟨rfl, rfl⟩ := hcut
        go_upto_region 25 with fail
        go_cut [14] (fun s14 wx => s14 = .int .i64 HH ∧ w5 = wx)
        case first =>
          go_wp2_with fail
          go_at_call 61
          refine (HQ1.out _).mono ?_
          rintro e w' ⟨rfl, rfl⟩
          go_wp2_with fail
          go_at_call 61
          refine (HQ2.out _).mono ?_
          rintro e w' ⟨rfl, rfl⟩
          go_wp2_with fail
          all_goals
            go_at_call 61
            refine (HQ3.out _).mono ?_
            rintro e w' ⟨rfl, rfl⟩
            go_wp2_with fail
            go_at_call 61
            refine (HQ4.out _).mono ?_
            rintro e w' ⟨rfl, rfl⟩
            go_wp2_with fail
            all_goals
              go_meet
              case rel =>
                refine ⟨congrArg (Value.int .i64) ?_, rfl⟩
                have h9 := HHH.out
                omega
        case rest =>
          obtain ⟨rfl, rfl⟩ := hcut
          go_wp2_with fail
          all_goals go_ret3
          all_goals refine ⟨ret_riv rfl rfl ?_, hx1.trans hx15⟩
          all_goals (unfold okB; simp; try omega)
theorem rinterval_any (w0 : World) (T : TM) (hT : T.At w0) (hV : T.toTr.Valid) : ∀ p : Pr, p.All T.toTr.IntN → p.At w0 → ∀ w, Ext w0 w → Calls Tryz.prog 26 #[T.val, p.val] w (RivPost (T.toTr.bnd p) w) := by
  intro p
  induction p using Pr.ind with
  | h p ih =>
    intro hp hpa w hx
    have hB := fun i hi W (h : Ext w0 W) => ih i hi (hp.kid hi) (hpa.kid hi) W h
    rcases hp.here.parts with h | ⟨h, _⟩ | ⟨h, h6, h8⟩
    · exact rint0_any w0 T hT hV p hp h.1 w hx
    · exact rint1_any w0 T hV p hp hpa h w hx hB
    · have : p.kind = 6 ∨ p.kind = 7 ∨ p.kind = 8 := by omega
      rcases this with hk | hk | hk
      · exact rint6_any w0 T hV p hp hpa h hk w hx hB
      · exact rint7_any w0 T hV p hp hpa h hk w hx hB
      · exact rint8_any w0 T hV p hp hpa h hk w hx hB

end Go.Proofs.YtdplphoohnnbcaaGreatDoor
