/- Contracts of predtype: bounds, small, Check, Bound. -/
import Derived.Test.YtdplphoohnnbcaaGreatDoorHt
namespace Go.Proofs.YtdplphoohnnbcaaGreatDoor
open Go.RowKit Go.Shelf

theorem bounds_any (w0 : World) (T : TM) (hT : T.At w0) (hV : T.toTr.Valid) : ∀ p : Pr, p.All T.toTr.IntN → p.At w0 → ∀ w, Ext w0 w → Calls Tryz.prog 24 #[T.val, p.val] w (BndPost (T.toTr.bnd p) w) := by
  intro p
  induction p using Pr.ind with
  | h p ih =>
    intro hp hpa w hx
    have hB := fun i hi W (h : Ext w0 W) => ih i hi (hp.kid hi) (hpa.kid hi) W h
    rcases hp.here.parts with h | ⟨h, _⟩ | ⟨h, h6, h8⟩
    · exact bounds0_any w0 T hT hV p hp h.1 w hx
    · exact bounds1_any w0 T hV p hp hpa h w hx hB
    · have : p.kind = 6 ∨ p.kind = 7 ∨ p.kind = 8 := by omega
      rcases this with hk | hk | hk
      · exact bounds6_any w0 T hV p hp hpa h hk w hx hB
      · exact bounds7_any w0 T hV p hp hpa h hk w hx hB
      · exact bounds8_any w0 T hV p hp hpa h hk w hx hB
/-- a typed, resolved tree -/
def Tr.TreeN (T : Tr) (q : Pr) : Prop := q.NodeOk ∧ T.ResN q ∧ q.TypedN
theorem Tr.TreeN.int {T : Tr} {p : Pr} (h : p.All T.TreeN) (h8 : p.kind ≤ 8) : p.All T.IntN := Tr.intTree (Pr.All.mono (fun _ h => h.1) h) (Pr.All.mono (fun _ h => h.2.1) h) (Pr.All.mono (fun _ h => h.2.2) h) h8
set_option maxRecDepth 100000 in
set_option maxHeartbeats 1000000 in
theorem small1_any (w : World) (T : TM) (q : Pr) (bt : Nat) (hb : Hold w bt #[.slice T.a T.n T.cap]) {R : Bool → World → Prop}
    (hc : ∀ w', Ext w w' → Calls Tryz.prog 31 #[T.val, q.val] w' (BoolR R)) :
    Calls Tryz.prog 72 #[q.val, .pointer (some ⟨bt, 0, none⟩)] w (BoolR fun b w' => R (!b) w') := by
  obtain ⟨lt, ct, _, _⟩ := hb.box
  simp only [Pr.val, TM.val] at hc ⊢
  have HC := Lib.hid hc
  clear hc hb
  go_enter Tryz.func72, Tryz.ntmps72
  go_upto_region 1 with fail
  refine boxed1 (w := w) (G := fun x => Code.wp _ _ _ _ x) ?_
  intro w1 hx1 hs1 ⟨l0, c0, _, _⟩
  have hx11 : Ext w1 w1 := Ext.refl _
  clear hs1
  go_wp2_with fail
  go_at_call 31
  refine (HC.out w1 hx1).mono ?_
  rintro e w2 ⟨b, rfl, hb⟩
  have HB := Lib.hid hb
  clear hb
  go_wp2_with fail
  go_ret
  exact boolR_not HB.out
set_option maxRecDepth 100000 in
set_option maxHeartbeats 2000000 in
theorem psmall_any (w0 : World) (T : TM) (hT : T.At w0) (hV : T.toTr.Valid) : ∀ p : Pr, p.All T.toTr.TreeN → p.At w0 → ∀ w, Ext w0 w → Calls Tryz.prog 31 #[T.val, p.val] w (BoolPost (T.toTr.SmallP p) w) := by
  intro p
  induction p using Pr.ind with
  | h p ih =>
    intro hp hpa w hx
    have HPA := Lib.hid hpa
    by_cases h8 : p.kind ≤ 8
    · have hB := fun W (h : Ext w0 W) => bounds_any w0 T hT hV p (Tr.TreeN.int hp h8) hpa W h
      simp only [Pr.val, TM.val] at hB
      have HB := Lib.hid hB
      have hr : resT p.kind = 1 := if_pos h8
      have hR := fun W => result_any p.kind W
      rw [hr] at hR
      have HR := Lib.hid hR
      have HS := Lib.hid (show T.toTr.SmallP p ↔ (T.toTr.bnd p).2 = true from by
        rw [Tr.SmallP_eq, Tr.ival_bnd]
        constructor
        · intro h; have := h.1 h8; by_cases e : (T.toTr.bnd p).2 = true
          · exact e
          · rw [if_neg e] at this; exact absurd rfl this
        · intro h; exact ⟨fun _ => by rw [if_pos h]; simp, fun h => absurd h8 h⟩)
      obtain ⟨⟨⟨xl, xh⟩, xo⟩, hxx⟩ : ∃ x, x = T.toTr.bnd p := ⟨_, rfl⟩
      rw [← hxx] at HB HS
      clear hB hR hr hp hpa hxx ih h8 hT hV
      simp only [Pr.val, TM.val]
      go_enter Tryz.func31, Tryz.ntmps31
      go_upto_region 1 with fail
      refine boxed2 (w := w) (G := fun x => Code.wp _ _ _ _ x) ?_
      intro w1 hx1 hs1 ⟨l0, c0, _, k0⟩ ⟨l1, c1, _, k1⟩
      have hx11 : Ext w1 w1 := Ext.refl _
      have HK0 := Lib.hid k0
      clear hs1 k0 k1
      go_wp2_with fail
      go_at_call 23
      refine (HR.out _).mono ?_
      rintro e w' ⟨rfl, rfl⟩
      go_wp2_with fail
      go_at_call 24
      refine (HB.out _ (hx.trans hx1)).mono ?_
      rintro e w2 ⟨rfl, hx2⟩
      go_wp2_with fail
      go_ret
      exact BoolPost.mk0 HS.out.symm ((hx1.trans hx2).alloc' _)
    · have hr : resT p.kind = 2 := if_neg h8
      have hR := fun W => result_any p.kind W
      rw [hr] at hR
      have HR := Lib.hid hR
      have HIH := Lib.hid fun i hi W (h : Ext w0 W) => ih i hi (hp.kid hi) (hpa.kid hi) W h
      have HS := Lib.hid (show T.toTr.SmallP p ↔ ∀ i, i < p.len → T.toTr.SmallP (p.kid i) from by
        rw [Tr.SmallP_eq]; exact ⟨fun h => h.2 h8, fun h => ⟨fun h' => absurd h' h8, fun _ => h⟩⟩)
      clear hR hr hp hpa ih h8 hT hV
      simp only [Pr.val, TM.val]
      go_enter Tryz.func31, Tryz.ntmps31
      go_upto_region 1 with fail
      refine boxed2 (w := w) (G := fun x => Code.wp _ _ _ _ x) ?_
      intro w1 hx1 hs1 ⟨l0, c0, _, k0⟩ ⟨l1, c1, _, k1⟩
      have hx11 : Ext w1 w1 := Ext.refl _
      have HK0 := Lib.hid k0
      clear hs1 k0 k1
      go_wp2_with fail
      go_at_call 23
      refine (HR.out _).mono ?_
      rintro e w' ⟨rfl, rfl⟩
      have hH := has_Pred w0 w1 p HPA.out.here 72 #[.pointer (some ⟨w.heap.size, 0, none⟩)] (fun i w' => Ext w1 w' ∧ ∀ j, j < i → T.toTr.SmallP (p.kid j)) (fun i w' => Ext w1 w' ∧ ¬ T.toTr.SmallP (p.kid i))
        (fun i w' h => (hx.trans hx1).trans h.1) ⟨hx11, fun j hj => absurd hj (Nat.not_lt_zero _)⟩ (enters_of Tryz.func72 (by kernel_rfl) rfl)
        (fun i hi w' hI => by
          refine (small1_any w' T (p.kid i) w.heap.size (Hold.ext HK0.out hI.1) (R := fun b w'' => (b = true ↔ T.toTr.SmallP (p.kid i)) ∧ Ext w' w'') (fun w2 h2 => (HIH.out i hi w2 (((hx.trans hx1).trans hI.1).trans h2)).mono fun e w3 ⟨b, he, hb, hx3⟩ => ⟨b, he, hb, h2.trans hx3⟩)).mono ?_
          rintro e w2 ⟨b, rfl, hb, hx2⟩
          refine ⟨b, rfl, fun e => ⟨hI.1.trans hx2, fun j hj => ?_⟩, fun e => ⟨hI.1.trans hx2, fun h => ?_⟩⟩
          · subst e
            by_cases ej : j = i
            · subst ej; exact hb.1 rfl
            · exact hI.2 j (by omega)
          · subst e
            have := hb.2 h
            cases this)
      go_wp2_with fail
      go_at_call 51
      refine hH.mono ?_
      rintro e w4 ⟨b, rfl, q0, q1⟩
      have H0 := Lib.hid q0
      have H1 := Lib.hid q1
      clear q0 q1 hH
      cases b with
      | false =>
        have H := Lib.hid (H0.out rfl)
        clear H0 H1
        go_wp2_with fail
        go_ret
        exact BoolPost.y (HS.out.2 H.out.2) (hx1.trans H.out.1)
      | true =>
        obtain ⟨i, hi, h⟩ := H1.out rfl
        have H := Lib.hid h
        clear H0 H1 h
        go_wp2_with fail
        go_ret
        exact BoolPost.n (fun h => H.out.2 (HS.out.1 h i hi)) (hx1.trans H.out.1)
def CheckPost (T : Tr) (p : Pr) (w : World) (e : Ending) (w' : World) : Prop := Ext w w' ∧ ∃ c : Int, e = .returned (.int .i64 c) ∧ T.CheckIs p c
theorem Pr.All.and3 {P Q R : Pr → Prop} {p : Pr} (a : p.All P) (b : p.All Q) (c : p.All R) : p.All fun q => P q ∧ Q q ∧ R q := Pr.All.and a (Pr.All.and b c)
set_option maxRecDepth 100000 in
set_option maxHeartbeats 2000000 in
theorem pCheck_any (w : World) (hTab : TabAt w) (T : TM) (hT : T.At w) (p : Pr) (hpa : p.At w) : Calls Tryz.prog 11 #[T.val, p.val] w (CheckPost T.toTr p w) := by
  have hV := fun W (h : Ext w W) => valid_any W T (hT.ext h)
  have hF := fun W (h : Ext w W) => formed_any' W (hTab.ext h) p (hpa.ext h)
  have hR := fun W (h : Ext w W) => resolved_any W T (hT.ext h) p (hpa.ext h)
  have hTy := fun W (h : Ext w W) => ptyped_any W p (hpa.ext h)
  have hS := fun hv ht W (h : Ext w W) => psmall_any w T hT hv p ht hpa W h
  simp only [Pr.val, TM.val] at hV hF hR hTy hS
  have HV := Lib.hid hV
  have HF := Lib.hid hF
  have HR := Lib.hid hR
  have HTy := Lib.hid hTy
  have HS := Lib.hid hS
  clear hV hF hR hTy hS hT hpa hTab
  simp only [Pr.val, TM.val]
  go_enter Tryz.func11, Tryz.ntmps11
  go_upto_region 1 with fail
  refine boxed2 (w := w) (G := fun x => Code.wp _ _ _ _ x) ?_
  intro w1 hx1 hs1 ⟨l0, c0, _, k0⟩ ⟨l1, c1, _, k1⟩
  have hx11 : Ext w1 w1 := Ext.refl _
  have HK0 := Lib.hid k0
  clear hs1 k0 k1
  go_wp2_with fail
  go_at_call 27
  refine (HV.out _ hx1).mono ?_
  rintro e w2 ⟨b, rfl, hb, hxn⟩
  have HB := Lib.hid hb
  have hx2 := Ext.trans hx11 hxn
  clear hb hxn
  cases b with
  | false =>
    have HN := Lib.hid (show ¬ T.toTr.Valid from fun h => by have := HB.out.2 h; cases this)
    clear HB
    go_wp2_with fail
    go_ret
    exact ⟨hx1.trans hx2, 1, rfl, .inl ⟨fun h => HN.out h.1, rfl⟩⟩
  | true =>
    have HVV := Lib.hid (HB.out.1 rfl)
    clear HB
    go_wp2_with fail
    go_at_call 28
    refine (HF.out _ (hx1.trans hx2)).mono ?_
    rintro e w3 ⟨b, rfl, hb, hxn⟩
    have HB := Lib.hid hb
    have hx3 := Ext.trans hx2 hxn
    clear hb hxn
    cases b with
    | false =>
      have HN := Lib.hid (show ¬ p.Formed from fun h => by have := HB.out.2 h; cases this)
      clear HB
      go_wp2_with fail
      go_ret
      exact ⟨hx1.trans hx3, 1, rfl, .inl ⟨fun h => HN.out h.2, rfl⟩⟩
    | true =>
      have HFF := Lib.hid (HB.out.1 rfl)
      clear HB
      go_wp2_with fail
      go_at_call 29
      refine (HR.out _ (hx1.trans hx3)).mono ?_
      rintro e w4 ⟨b, rfl, hb, hxn⟩
      have HB := Lib.hid hb
      have hx4 := Ext.trans hx3 hxn
      clear hb hxn
      cases b with
      | false =>
        have HN := Lib.hid (show ¬ p.All T.toTr.ResN from fun h => by have := HB.out.2 h; cases this)
        clear HB
        go_wp2_with fail
        go_ret
        exact ⟨hx1.trans hx4, 13, rfl, .inr (.inl ⟨HVV.out, HFF.out, HN.out, rfl⟩)⟩
      | true =>
        have HRR := Lib.hid (HB.out.1 rfl)
        clear HB
        go_wp2_with fail
        go_at_call 30
        refine (HTy.out _ (hx1.trans hx4)).mono ?_
        rintro e w5 ⟨b, rfl, hb, hxn⟩
        have HB := Lib.hid hb
        have hx5 := Ext.trans hx4 hxn
        clear hb hxn
        cases b with
        | false =>
          have HN := Lib.hid (show ¬ p.Typed from fun h => by have := HB.out.2 h; cases this)
          clear HB
          go_wp2_with fail
          go_ret
          exact ⟨hx1.trans hx5, 14, rfl, .inr (.inr (.inl ⟨HVV.out, HFF.out, HRR.out, HN.out, rfl⟩))⟩
        | true =>
          have HTT := Lib.hid (HB.out.1 rfl)
          clear HB
          go_wp2_with fail
          go_at_call 31
          refine (HS.out HVV.out (Pr.All.and3 HFF.out.2.2 HRR.out HTT.out) _ (hx1.trans hx5)).mono ?_
          rintro e w6 ⟨b, rfl, hb, hxn⟩
          have HB := Lib.hid hb
          have hx6 := Ext.trans hx5 hxn
          clear hb hxn
          cases b with
          | false =>
            have HN := Lib.hid (show ¬ T.toTr.SmallP p from fun h => by have := HB.out.2 h; cases this)
            clear HB
            go_wp2_with fail
            go_ret
            exact ⟨hx1.trans hx6, 9, rfl, .inr (.inr (.inr (.inl ⟨HVV.out, HFF.out, HRR.out, HTT.out, HN.out, rfl⟩)))⟩
          | true =>
            have HSS := Lib.hid (HB.out.1 rfl)
            clear HB
            go_wp2_with fail
            go_ret
            exact ⟨hx1.trans hx6, 0, rfl, .inr (.inr (.inr (.inr ⟨HVV.out, HFF.out, HRR.out, HTT.out, HSS.out, rfl⟩)))⟩
def BoundPost (T : Tr) (p : Pr) (w : World) (e : Ending) (w' : World) : Prop := Ext w w' ∧ ∃ l h c : Int, e = .returned (.tuple #[.int .i64 l, .int .i64 h, .int .i64 c]) ∧ T.BoundIs p l h c
theorem Tr.CheckIs.ok {T : Tr} {p : Pr} (h : T.CheckIs p 0) : T.Valid ∧ p.Formed ∧ p.All T.ResN ∧ p.Typed ∧ T.SmallP p := by
  rcases h with ⟨_, h⟩ | ⟨_, _, _, h⟩ | ⟨_, _, _, _, h⟩ | ⟨_, _, _, _, _, h⟩ | ⟨a, b, c, d, e, _⟩
  · omega
  · omega
  · omega
  · omega
  · exact ⟨a, b, c, d, e⟩
set_option maxRecDepth 100000 in
set_option maxHeartbeats 2000000 in
theorem pBound_any (w : World) (hTab : TabAt w) (T : TM) (hT : T.At w) (p : Pr) (hpa : p.At w) : Calls Tryz.prog 9 #[T.val, p.val] w (BoundPost T.toTr p w) := by
  have hC := fun W (h : Ext w W) => pCheck_any W (hTab.ext h) T (hT.ext h) p (hpa.ext h)
  have hB := fun hv hp W (h : Ext w W) => bounds_any w T hT hv p hp hpa W h
  have hR := fun W => result_any p.kind W
  simp only [Pr.val, TM.val] at hC hB
  have HC := Lib.hid hC
  have HB := Lib.hid hB
  clear hC hB hT hpa hTab
  by_cases h8 : p.kind ≤ 8
  · rw [show resT p.kind = 1 from if_pos h8] at hR
    have HR := Lib.hid hR
    have H8 := Lib.hid h8
    clear hR h8
    simp only [Pr.val, TM.val]
    go_enter Tryz.func9, Tryz.ntmps9
    go_upto_region 1 with fail
    refine boxed2 (w := w) (G := fun x => Code.wp _ _ _ _ x) ?_
    intro w1 hx1 hs1 ⟨l0, c0, _, k0⟩ ⟨l1, c1, _, k1⟩
    have hx11 : Ext w1 w1 := Ext.refl _
    have HK0 := Lib.hid k0
    clear hs1 k0 k1
    go_wp2_with fail
    go_at_call 11
    refine (HC.out _ hx1).mono ?_
    rintro e w2 ⟨hx2, c, rfl, hc⟩
    have HCI := Lib.hid hc
    by_cases hz : c = 0
    · subst hz
      obtain ⟨o1, o2, o3, o4, o5⟩ := hc.ok
      have hbb := HB.out o1 (Tr.TreeN.int (Pr.All.and3 o2.2.2 o3 o4) H8.out) w2 (hx1.trans hx2)
      have HIV := Lib.hid (show T.toTr.ival p = some (T.toTr.bnd p).1 from by
        have h1 := ((Tr.SmallP_eq _ _).1 o5).1 H8.out
        have h2 := T.toTr.ival_bnd p
        rw [h2] at h1 ⊢
        split at h1
        · rw [if_pos ‹_›]
        · exact absurd rfl h1)
      obtain ⟨⟨⟨xl, xh⟩, xo⟩, hxx⟩ : ∃ x, x = T.toTr.bnd p := ⟨_, rfl⟩
      rw [← hxx] at hbb HIV
      clear o1 o2 o3 o4 o5 hc hxx
      go_wp2_with fail
      go_at_call 23
      refine (HR.out _).mono ?_
      rintro e w' ⟨rfl, rfl⟩
      go_wp2_with fail
      go_at_call 24
      refine hbb.mono ?_
      rintro e w3 ⟨rfl, hx3⟩
      have hx13 := hx2.trans hx3
      clear hbb
      go_upto_region 7 with fail
      refine boxed1 (w := w3) (G := fun x => Code.wp _ _ _ _ x) ?_
      intro w4 hx4 hs4 ⟨l4, c4, _, _⟩
      have hx44 : Ext w4 w4 := Ext.refl _
      clear hs4
      go_quiet (fail)
      go_wp2_with fail
      go_ret3
      exact ⟨((hx1.trans hx13).trans hx4).drewN _, xl, xh, 0, rfl, 0, HCI.out, .inr (.inr ⟨rfl, H8.out, HIV.out, rfl⟩)⟩
    · have d0 : (c != 0) = true := by simp [hz]
      have HZ := Lib.hid hz
      clear hc hz
      go_wp2_with fail
      go_ret3
      exact ⟨hx1.trans hx2, 0, 0, c, rfl, c, HCI.out, .inl ⟨HZ.out, rfl, rfl, rfl⟩⟩
  · rw [show resT p.kind = 2 from if_neg h8] at hR
    have HR := Lib.hid hR
    have H8 := Lib.hid h8
    clear hR h8
    simp only [Pr.val, TM.val]
    go_enter Tryz.func9, Tryz.ntmps9
    go_upto_region 1 with fail
    refine boxed2 (w := w) (G := fun x => Code.wp _ _ _ _ x) ?_
    intro w1 hx1 hs1 ⟨l0, c0, _, k0⟩ ⟨l1, c1, _, k1⟩
    have hx11 : Ext w1 w1 := Ext.refl _
    have HK0 := Lib.hid k0
    clear hs1 k0 k1
    go_wp2_with fail
    go_at_call 11
    refine (HC.out _ hx1).mono ?_
    rintro e w2 ⟨hx2, c, rfl, hc⟩
    have HCI := Lib.hid hc
    by_cases hz : c = 0
    · subst hz
      clear hc
      go_wp2_with fail
      go_at_call 23
      refine (HR.out _).mono ?_
      rintro e w' ⟨rfl, rfl⟩
      go_wp2_with fail
      go_ret3
      exact ⟨hx1.trans hx2, 0, 0, 14, rfl, 0, HCI.out, .inr (.inl ⟨rfl, (by have := H8.out; omega), rfl, rfl, rfl⟩)⟩
    · have d0 : (c != 0) = true := by simp [hz]
      have HZ := Lib.hid hz
      clear hc hz
      go_wp2_with fail
      go_ret3
      exact ⟨hx1.trans hx2, 0, 0, c, rfl, c, HCI.out, .inl ⟨HZ.out, rfl, rfl, rfl⟩⟩

end Go.Proofs.YtdplphoohnnbcaaGreatDoor
