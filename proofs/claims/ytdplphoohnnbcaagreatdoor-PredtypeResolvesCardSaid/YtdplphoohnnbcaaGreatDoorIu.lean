/- Contracts of antecederef28: fits, Check, Bound. -/
import Derived.Test.YtdplphoohnnbcaaGreatDoorIt
import Derived.Test.YtdplphoohnnbcaaGreatDoorHu
import Derived.Test.YtdplphoohnnbcaaGreatDoorIq
namespace Go.Proofs.YtdplphoohnnbcaaGreatDoor
open Go.RowKit Go.Shelf

set_option maxRecDepth 100000 in
set_option maxHeartbeats 2000000 in
theorem rfitsP_any (w0 : World) (T : TM) (hT : T.At w0) (hV : T.toTr.Valid) : ∀ p : Pr, p.All T.toTr.TreeN → p.At w0 → ∀ w, Ext w0 w → Calls Tryz.prog 35 #[T.val, p.val] w (BoolPost (T.toTr.SmallP p) w) := by
  intro p
  induction p using Pr.ind with
  | h p ih =>
    intro hp hpa w hx
    have hK := fun W => rkind_any W p.kind (.int .i64 p.num) (.int .i64 p.proc) (.int .i64 p.peer) (.string p.name) (.slice p.a p.len p.cap)
    by_cases h8 : p.kind ≤ 8
    · have hB := fun W (h : Ext w0 W) => rinterval_any w0 T hT hV p (Tr.TreeN.int hp h8) hpa W h
      simp only [Pr.val, TM.val] at hB
      have HB := Lib.hid hB
      rw [show resT p.kind = 1 from if_pos h8] at hK
      have HK := Lib.hid hK
      have HS := Lib.hid (show T.toTr.SmallP p ↔ (T.toTr.bnd p).2 = true from by
        rw [Tr.SmallP_eq, Tr.ival_bnd]
        constructor
        · intro h; have := h.1 h8; by_cases e : (T.toTr.bnd p).2 = true
          · exact e
          · rw [if_neg e] at this; exact absurd rfl this
        · intro h; exact ⟨fun _ => by rw [if_pos h]; simp, fun h => absurd h8 h⟩)
      obtain ⟨⟨⟨xl, xh⟩, xo⟩, hxx⟩ : ∃ x, x = T.toTr.bnd p := ⟨_, rfl⟩
      rw [← hxx] at HB HS
      clear hB hK hp hpa hxx ih h8 hT hV
      try simp only [Pr.val, TM.val]
      go_enter Tryz.func35, Tryz.ntmps35
      go_upto_region 1 with fail
      refine boxed2 (w := w) (G := fun x => Code.wp _ _ _ _ x) ?_
      intro w1 hx1 hs1 ⟨l0, c0, _, k0⟩ ⟨l1, c1, _, k1⟩
      have hx11 : Ext w1 w1 := Ext.refl _
      clear hs1 k0 k1
      go_wp2_with fail
      go_at_call 25
      refine (HK.out _).mono ?_
      rintro e w2 ⟨rfl, hx2⟩
      have hx12 : Ext w1 w2 := hx2
      go_wp2_with fail
      go_at_call 26
      refine (HB.out _ (hx.trans (hx1.trans hx12))).mono ?_
      rintro e w3 ⟨rfl, hx3⟩
      go_wp2_with fail
      go_ret
      exact BoolPost.mk0 HS.out.symm (hx1.trans (hx12.trans hx3))
    · rw [show resT p.kind = 2 from if_neg h8] at hK
      have HK := Lib.hid hK
      have HIH := Lib.hid fun i hi W (h : Ext w0 W) => ih i hi (hp.kid hi) (hpa.kid hi) W h
      have HS := Lib.hid (show T.toTr.SmallP p ↔ ∀ i, i < p.len → T.toTr.SmallP (p.kid i) from by
        rw [Tr.SmallP_eq]; exact ⟨fun h => h.2 h8, fun h => ⟨fun h' => absurd h' h8, fun _ => h⟩⟩)
      have HP := Lib.hid hpa
      have hn := hpa.here.hn
      clear hK hp hpa ih h8 hT hV
      simp only [Pr.val, TM.val]
      obtain ⟨pa, hpa⟩ : ∃ a, a = p.a := ⟨_, rfl⟩
      rw [← hpa] at HK ⊢
      have HA := Lib.hid hpa
      clear hpa
      try simp only [Pr.val, TM.val]
      go_enter Tryz.func35, Tryz.ntmps35
      go_upto_region 1 with fail
      refine boxed2 (w := w) (G := fun x => Code.wp _ _ _ _ x) ?_
      intro w1 hx1 hs1 ⟨l0, c0, _, k0⟩ ⟨l1, c1, _, k1⟩
      have hx11 : Ext w1 w1 := Ext.refl _
      clear hs1 k0 k1
      have hx01 := hx.trans hx1
      go_wp2_with fail
      go_at_call 25
      refine (HK.out _).mono ?_
      rintro e w2 ⟨rfl, hx2⟩
      have hx12 : Ext w1 w2 := hx2
      go_wp2_with fail
      go_loopg [8] p.len (fun gg v wr => ∃ i : Nat, i ≤ p.len ∧ gg = p.len - i ∧ v = .int .i64 i ∧ (∀ j, j < i → T.toTr.SmallP (p.kid j)) ∧ Ext w1 wr)
      case atStart => exact ⟨0, by omega, rfl, rfl, fun j hj => absurd hj (Nat.not_lt_zero _), hx12⟩
      case round =>
        obtain ⟨i, hi, rfl, rfl, hall, hxr⟩ := hrel
        have HALL := Lib.hid hall
        have hx0r := hx01.trans hxr
        clear hall
        by_cases hlt : i < p.len
        · have hlt' : (i : Int) < (p.len : Int) := by omega
          obtain rfl : pa = some ⟨p.b, p.off, none⟩ := by rw [HA.out]; exact HP.out.here.ha (by omega)
          have kb : ∀ w', Ext w0 w' → p.b < w'.heap.size := HP.out.here.hb (by omega)
          have k0 := fun w' h => HP.out.here.c0 w' h i hlt
          have k1 := fun w' h => HP.out.here.c1 w' h i hlt
          have k2 := fun w' h => HP.out.here.c2 w' h i hlt
          have k3 := fun w' h => HP.out.here.c3 w' h i hlt
          have k4 := fun w' h => HP.out.here.c4 w' h i hlt
          have k5 := fun w' h => HP.out.here.c5 w' h i hlt
          have hc := HIH.out i hlt wr.drew hx0r.drew
          simp only [Pr.val, TM.val] at hc
          have hxd := hxr.drew
          go_upto_region 7 with fail
          refine wp_region_reads 6 (by kernel_rfl) (by kernel_rfl) ?_
          simp only [List.take_succ_cons, List.take_zero]
          repeat still_step
          refine wpStill_nil ?_
          refine wpAny_ready (rs := [6]) (by kernel_rfl) (by simp) ?_
          refine AllReady.cons rfl (fun K hK => ?_) AllReady.nil
          go_simp
          go_at_call 35
          refine hc.mono ?_
          rintro e w9 ⟨b, rfl, hb, hx9⟩
          refine hK _ _ ?_; clear hK K
          have hx19 := hxd.trans hx9
          refine wpAny_take (i := 7) (v := ?_) rfl (by kernel_rfl) (by kernel_rfl) (by kernel_rfl) (fun _ _ _ h => h) (Or.inl ⟨by rfl, ?_⟩) ?_
          rotate_left
          · intro w; go_simp; try with_reducible rfl
          refine wpAny_done (by kernel_rfl) ?_ _
          have HB := Lib.hid hb
          clear hc k0 k1 k2 k3 k4 k5 kb hb
          cases b with
          | false =>
            go_wp2_with fail
            go_ret
            exact BoolPost.n (fun h => by have := HB.out.2 (HS.out.1 h i hlt); cases this) (hx1.trans hx19)
          | true =>
            have HB1 := Lib.hid (HB.out.1 rfl)
            clear HB
            go_wp2_with fail
            go_roundg (p.len - (i + 1))
            case rel => exact ⟨i + 1, by omega, rfl, by go_num, fun j hj => by
              by_cases e : j = i
              · subst e; exact HB1.out
              · exact HALL.out j (by omega), hx19⟩
            case measure => omega
        · have hie : i = p.len := by omega
          subst hie
          go_wp2_with fail
          go_ret
          exact BoolPost.y (HS.out.2 HALL.out) (hx1.trans hxr)
set_option maxRecDepth 100000 in
set_option maxHeartbeats 2000000 in
theorem rCheck_any (w : World) (T : TM) (hT : T.At w) (p : Pr) (hpa : p.At w) : Calls Tryz.prog 12 #[T.val, p.val] w (CheckPost T.toTr p w) := by
  have hV := fun W (h : Ext w W) => rvalid_any W T (hT.ext h)
  have hF := fun W (h : Ext w W) => rFormed_any W p (hpa.ext h)
  have hR := fun W (h : Ext w W) => rResolved_any w T hT p hpa W h
  have hTy := fun W (h : Ext w W) => rtyped_any w p hpa W h
  have hS := fun hv ht W (h : Ext w W) => rfitsP_any w T hT hv p ht hpa W h
  simp only [Pr.val, TM.val] at hV hF hR hTy hS
  have HV := Lib.hid hV
  have HF := Lib.hid hF
  have HR := Lib.hid hR
  have HTy := Lib.hid hTy
  have HS := Lib.hid hS
  clear hV hF hR hTy hS hT hpa
  try simp only [Pr.val, TM.val]
  go_enter Tryz.func12, Tryz.ntmps12
  go_upto_region 1 with fail
  refine boxed2 (w := w) (G := fun x => Code.wp _ _ _ _ x) ?_
  intro w1 hx1 hs1 ⟨l0, c0, _, k0⟩ ⟨l1, c1, _, k1⟩
  have hx11 : Ext w1 w1 := Ext.refl _
  clear hs1 k0 k1
  go_wp2_with fail
  go_at_call 32
  refine (HV.out _ hx1).mono ?_
  rintro e w2 ⟨b, rfl, hb, hxn⟩
  have HB := Lib.hid hb
  have hx2 := Ext.trans hx11 hxn
  clear hb hxn
  cases b with
  | false =>
    have HN := Lib.hid (show ¬ T.toTr.Valid from fun h => by have := HB.out.2 h; cases this)
    clear HB
    go_wp2_with fail
    go_ret
    exact ⟨hx1.trans hx2, 1, rfl, .inl ⟨fun h => HN.out h.1, rfl⟩⟩
  | true =>
    have HVV := Lib.hid (HB.out.1 rfl)
    clear HB
    go_wp2_with fail
    go_at_call 17
    refine (HF.out _ (hx1.trans hx2)).mono ?_
    rintro e w3 ⟨b, rfl, hb, hxn⟩
    have HB := Lib.hid hb
    have hx3 := Ext.trans hx2 hxn
    clear hb hxn
    cases b with
    | false =>
      have HN := Lib.hid (show ¬ p.Formed from fun h => by have := HB.out.2 h; cases this)
      clear HB
      go_wp2_with fail
      go_ret
      exact ⟨hx1.trans hx3, 1, rfl, .inl ⟨fun h => HN.out h.2, rfl⟩⟩
    | true =>
      have HFF := Lib.hid (HB.out.1 rfl)
      clear HB
      go_wp2_with fail
      go_at_call 33
      refine (HR.out _ (hx1.trans hx3)).mono ?_
      rintro e w4 ⟨b, rfl, hb, hxn⟩
      have HB := Lib.hid hb
      have hx4 := Ext.trans hx3 hxn
      clear hb hxn
      cases b with
      | false =>
        have HN := Lib.hid (show ¬ p.All T.toTr.ResN from fun h => by have := HB.out.2 h; cases this)
        clear HB
        go_wp2_with fail
        go_ret
        exact ⟨hx1.trans hx4, 13, rfl, .inr (.inl ⟨HVV.out, HFF.out, HN.out, rfl⟩)⟩
      | true =>
        have HRR := Lib.hid (HB.out.1 rfl)
        clear HB
        go_wp2_with fail
        go_at_call 34
        refine (HTy.out _ (hx1.trans hx4)).mono ?_
        rintro e w5 ⟨b, rfl, hb, hxn⟩
        have HB := Lib.hid hb
        have hx5 := Ext.trans hx4 hxn
        clear hb hxn
        cases b with
        | false =>
          have HN := Lib.hid (show ¬ p.Typed from fun h => by have := HB.out.2 (HFF.out.rtyped.2 h); cases this)
          clear HB
          go_wp2_with fail
          go_ret
          exact ⟨hx1.trans hx5, 14, rfl, .inr (.inr (.inl ⟨HVV.out, HFF.out, HRR.out, HN.out, rfl⟩))⟩
        | true =>
          have HTT := Lib.hid (HFF.out.rtyped.1 (HB.out.1 rfl))
          clear HB
          go_wp2_with fail
          go_at_call 35
          refine (HS.out HVV.out (Pr.All.and3 HFF.out.2.2 HRR.out HTT.out) _ (hx1.trans hx5)).mono ?_
          rintro e w6 ⟨b, rfl, hb, hxn⟩
          have HB := Lib.hid hb
          have hx6 := Ext.trans hx5 hxn
          clear hb hxn
          cases b with
          | false =>
            have HN := Lib.hid (show ¬ T.toTr.SmallP p from fun h => by have := HB.out.2 h; cases this)
            clear HB
            go_wp2_with fail
            go_ret
            exact ⟨hx1.trans hx6, 9, rfl, .inr (.inr (.inr (.inl ⟨HVV.out, HFF.out, HRR.out, HTT.out, HN.out, rfl⟩)))⟩
          | true =>
            have HSS := Lib.hid (HB.out.1 rfl)
            clear HB
            go_wp2_with fail
            go_ret
            exact ⟨hx1.trans hx6, 0, rfl, .inr (.inr (.inr (.inr ⟨HVV.out, HFF.out, HRR.out, HTT.out, HSS.out, rfl⟩)))⟩
set_option maxRecDepth 100000 in
set_option maxHeartbeats 2000000 in
theorem rBound_any (w : World) (T : TM) (hT : T.At w) (p : Pr) (hpa : p.At w) : Calls Tryz.prog 10 #[T.val, p.val] w (BoundPost T.toTr p w) := by
  have hC := fun W (h : Ext w W) => rCheck_any W T (hT.ext h) p (hpa.ext h)
  have hB := fun hv hp W (h : Ext w W) => rinterval_any w T hT hv p hp hpa W h
  have hK := fun W => rkind_any W p.kind (.int .i64 p.num) (.int .i64 p.proc) (.int .i64 p.peer) (.string p.name) (.slice p.a p.len p.cap)
  simp only [Pr.val, TM.val] at hC hB
  have HC := Lib.hid hC
  have HB := Lib.hid hB
  clear hC hB hT hpa
  by_cases h8 : p.kind ≤ 8
  · rw [show resT p.kind = 1 from if_pos h8] at hK
    have HK := Lib.hid hK
    have H8 := Lib.hid h8
    clear hK h8
    try simp only [Pr.val, TM.val]
    go_enter Tryz.func10, Tryz.ntmps10
    go_upto_region 1 with fail
    refine boxed2 (w := w) (G := fun x => Code.wp _ _ _ _ x) ?_
    intro w1 hx1 hs1 ⟨l0, c0, _, k0⟩ ⟨l1, c1, _, k1⟩
    have hx11 : Ext w1 w1 := Ext.refl _
    clear hs1 k0 k1
    go_wp2_with fail
    go_at_call 12
    refine (HC.out _ hx1).mono ?_
    rintro e w2 ⟨hx2, c, rfl, hc⟩
    have hx12 : Ext w1 w2 := hx2
    have HCI := Lib.hid hc
    by_cases hz : c = 0
    · subst hz
      obtain ⟨o1, o2, o3, o4, o5⟩ := hc.ok
      have hbb := fun W (h : Ext w W) => HB.out o1 (Tr.TreeN.int (Pr.All.and3 o2.2.2 o3 o4) H8.out) W h
      have HIV := Lib.hid (show T.toTr.ival p = some (T.toTr.bnd p).1 from by
        have h1 := ((Tr.SmallP_eq _ _).1 o5).1 H8.out
        have h2 := T.toTr.ival_bnd p
        rw [h2] at h1 ⊢
        split at h1
        · rw [if_pos ‹_›]
        · exact absurd rfl h1)
      obtain ⟨⟨⟨xl, xh⟩, xo⟩, hxx⟩ : ∃ x, x = T.toTr.bnd p := ⟨_, rfl⟩
      rw [← hxx] at hbb HIV
      have HBB := Lib.hid hbb
      clear o1 o2 o3 o4 o5 hc hxx hbb
      go_wp2_with fail
      go_at_call 25
      refine (HK.out _).mono ?_
      rintro e w3 ⟨rfl, hx3⟩
      have hx13 := hx12.trans hx3
      go_wp2_with fail
      go_at_call 26
      refine (HBB.out _ (hx1.trans hx13)).mono ?_
      rintro e w4 ⟨rfl, hx4⟩
      go_wp2_with fail
      go_ret3
      exact ⟨hx1.trans (hx13.trans hx4), xl, xh, 0, rfl, 0, HCI.out, .inr (.inr ⟨rfl, H8.out, HIV.out, rfl⟩)⟩
    · have d0 : (c != 0) = true := by simp [hz]
      have HZ := Lib.hid hz
      clear hc hz
      go_wp2_with fail
      go_ret3
      exact ⟨hx1.trans hx12, 0, 0, c, rfl, c, HCI.out, .inl ⟨HZ.out, rfl, rfl, rfl⟩⟩
  · rw [show resT p.kind = 2 from if_neg h8] at hK
    have HK := Lib.hid hK
    have H8 := Lib.hid h8
    clear hK h8
    try simp only [Pr.val, TM.val]
    go_enter Tryz.func10, Tryz.ntmps10
    go_upto_region 1 with fail
    refine boxed2 (w := w) (G := fun x => Code.wp _ _ _ _ x) ?_
    intro w1 hx1 hs1 ⟨l0, c0, _, k0⟩ ⟨l1, c1, _, k1⟩
    have hx11 : Ext w1 w1 := Ext.refl _
    clear hs1 k0 k1
    go_wp2_with fail
    go_at_call 12
    refine (HC.out _ hx1).mono ?_
    rintro e w2 ⟨hx2, c, rfl, hc⟩
    have hx12 : Ext w1 w2 := hx2
    have HCI := Lib.hid hc
    by_cases hz : c = 0
    · subst hz
      clear hc
      go_wp2_with fail
      go_at_call 25
      refine (HK.out _).mono ?_
      rintro e w3 ⟨rfl, hx3⟩
      go_wp2_with fail
      go_ret3
      exact ⟨hx1.trans (hx12.trans hx3), 0, 0, 14, rfl, 0, HCI.out, .inr (.inl ⟨rfl, (by have := H8.out; omega), rfl, rfl, rfl⟩)⟩
    · have d0 : (c != 0) = true := by simp [hz]
      have HZ := Lib.hid hz
      clear hc hz
      go_wp2_with fail
      go_ret3
      exact ⟨hx1.trans hx12, 0, 0, c, rfl, c, HCI.out, .inl ⟨HZ.out, rfl, rfl, rfl⟩⟩

end Go.Proofs.YtdplphoohnnbcaaGreatDoor
