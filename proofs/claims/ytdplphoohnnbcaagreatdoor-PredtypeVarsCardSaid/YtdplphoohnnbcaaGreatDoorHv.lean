/- Contracts of antecederef28: Formed, kind, typed, Type, temporal, Temporal. -/
import Derived.Test.YtdplphoohnnbcaaGreatDoorHo
namespace Go.Proofs.YtdplphoohnnbcaaGreatDoor
open Go.RowKit Go.Shelf


set_option maxRecDepth 100000 in
set_option maxHeartbeats 1000000 in
theorem rFormed_any (w : World) (p : Pr) (hp : p.At w) : Calls Tryz.prog 17 #[p.val] w (BoolPost p.Formed w) := by
  have hS := fun w1 h => rSize_any w p hp w1 h
  have hD := fun w1 h => rDepth_any w p hp 21 w1 h (by omega) (by omega)
  have hN := fun w1 h => rnodes_any w p hp w1 h
  have q1 := p.cntL_pos (l := 200) (by omega)
  have q2 := p.cntL_le 200
  have q3 := p.depL_pos (l := 21) (by omega)
  have q4 := p.depL_le 21
  have HC := Lib.hid (show p.cntL 200 ≤ 200 ↔ p.cnt ≤ 200 from by unfold Pr.cntL; split <;> omega)
  have HD := Lib.hid (show p.depL 21 ≤ 20 ↔ p.dep ≤ 20 from by unfold Pr.depL; split <;> omega)
  generalize p.cntL 200 = c at hS q1 q2 HC
  generalize p.depL 21 = d at hD q3 q4 HD
  simp only [Pr.val] at hS hD hN ⊢
  have HS := Lib.hid hS
  have HDD := Lib.hid hD
  have HN := Lib.hid hN
  clear hS hD hN hp
  go_enter Tryz.func17, Tryz.ntmps17
  go_upto_region 1 with fail
  refine boxed1 (w := w) (G := fun x => Code.wp _ _ _ _ x) ?_
  intro w1 hx1 hs1 ⟨l0, c0, _, _⟩
  have hx11 : Ext w1 w1 := Ext.refl _
  clear hs1
  go_wp2_with fail
  go_at_call 47
  refine (HS.out w1 hx1).mono ?_
  rintro e w2 ⟨rfl, hx2⟩
  by_cases h1 : c ≤ 200
  · have d1 : decide (c ≤ 200) = true := decide_eq_true h1
    go_wp2_with fail
    go_at_call 48
    refine (HDD.out w2 (hx1.trans hx2)).mono ?_
    rintro e w3 ⟨rfl, hx3⟩
    have hx13 := hx2.trans hx3
    by_cases h2 : d ≤ 20
    · have d2 : decide (d ≤ 20) = true := decide_eq_true h2
      go_wp2_with fail
      go_at_call 49
      refine (HN.out w3 (hx1.trans hx13)).mono ?_
      rintro e w4 ⟨b, rfl, hb, hx4⟩
      have HB := Lib.hid hb
      clear hb
      go_wp2_with fail
      go_ret
      exact BoolPost.mk0 ⟨fun h => ⟨HC.out.1 h1, HD.out.1 h2, HB.out.1 h⟩, fun h => HB.out.2 h.2.2⟩ (hx1.trans (hx13.trans hx4))
    · have d2 : decide (d ≤ 20) = false := decide_eq_false h2
      go_wp2_with fail
      go_ret
      exact BoolPost.n (fun h => by have := HD.out.2 h.2.1; omega) (hx1.trans hx13)
  · have d1 : decide (c ≤ 200) = false := decide_eq_false h1
    go_wp2_with fail
    go_ret
    exact BoolPost.n (fun h => by have := HC.out.2 h.1; omega) (hx1.trans hx2)
theorem rkind_any (w : World) (k : Int) (v1 v2 v3 v4 v5 : Value) : Calls Tryz.prog 25 #[.agg #[.int .i64 k, v1, v2, v3, v4, v5]] w (IntPost (resT k) w) := by
  by_cases h : k ≤ 8
  · have HR := Lib.hid (show resT k = 1 from if_pos h)
    go_enter Tryz.func25, Tryz.ntmps25
    go_wp2
    go_ret
    exact ⟨ret_int HR.out.symm, Ext.alloc _ _⟩
  · have HR := Lib.hid (show resT k = 2 from if_neg h)
    go_enter Tryz.func25, Tryz.ntmps25
    go_wp2
    go_ret
    exact ⟨ret_int HR.out.symm, Ext.alloc _ _⟩
def rneed (k : Int) : Int := if 15 ≤ k then 2 else 1
def Pr.RTypedN (p : Pr) : Prop := ∀ i, i < p.len → resT (p.kid i).kind = rneed p.kind
theorem Pr.NodeOk.rtyped {p : Pr} (h : p.NodeOk) : p.RTypedN ↔ p.TypedN := by
  unfold Pr.RTypedN Pr.TypedN
  by_cases h0 : 0 < p.len
  · have h1 : (p.len : Int) = partsI p.kind := h.2.2.1
    have h2 : ¬ (p.kind = 13 ∨ p.kind = 14) := fun e => by rw [partsI_0 (.inr e)] at h1; omega
    have : rneed p.kind = needT p.kind := by
      unfold rneed needT
      by_cases e : 15 ≤ p.kind
      · rw [if_pos e, if_neg (by omega)]
      · rw [if_neg e, if_pos (by omega)]
    rw [this]
  · constructor <;> intro _ i hi <;> omega
theorem Pr.All.iff {P Q : Pr → Prop} : ∀ {p : Pr}, p.All (fun q => P q ↔ Q q) → (p.All P ↔ p.All Q) := by
  intro p
  induction p using Pr.ind with
  | h p ih =>
    intro h
    rw [Pr.All_eq, Pr.All_eq, h.here]
    constructor
    · exact fun ⟨h1, h2⟩ => ⟨h1, fun i hi => (ih i hi (h.kid hi)).1 (h2 i hi)⟩
    · exact fun ⟨h1, h2⟩ => ⟨h1, fun i hi => (ih i hi (h.kid hi)).2 (h2 i hi)⟩
theorem Pr.Formed.rtyped {p : Pr} (h : p.Formed) : p.All Pr.RTypedN ↔ p.Typed := Pr.All.iff (Pr.All.mono (fun _ hq => hq.rtyped) h.2.2)
set_option maxRecDepth 100000 in
set_option maxHeartbeats 4000000 in
theorem rtyped_any (w0 : World) : ∀ p : Pr, p.At w0 → ∀ (w : World), Ext w0 w → Calls Tryz.prog 34 #[p.val] w (BoolPost (p.All Pr.RTypedN) w) := by
  intro p
  induction p using Pr.ind with
  | h p ih =>
    intro hp w hx
    have HP := Lib.hid hp
    have HIH := Lib.hid ih
    have hn := hp.here.hn
    clear hp ih
    by_cases h15 : 15 ≤ p.kind
    · have d0 : decide (15 ≤ p.kind) = true := decide_eq_true h15
      have HR := Lib.hid (show 2 = rneed p.kind from (if_pos h15).symm)
      clear h15
      simp only [Pr.val]
      obtain ⟨pa, hpa⟩ : ∃ a, a = p.a := ⟨_, rfl⟩
      rw [← hpa]
      have HA := Lib.hid hpa
      clear hpa
      go_enter Tryz.func34, Tryz.ntmps34
      go_upto_region 1 with fail
      refine boxed1 (w := w) (G := fun x => Code.wp _ _ _ _ x) ?_
      intro w1 hx1 hs1 ⟨l0, c0, _, _⟩
      have hx11 : Ext w1 w1 := Ext.refl _
      have hx01 := hx.trans hx1
      clear hs1
      go_wp2_with fail
      go_loopg [3, 4] p.len (fun gg v3 v4 wr => ∃ i : Nat, i ≤ p.len ∧ gg = p.len - i ∧ v3 = .int .i64 i ∧ (∃ u, v4 = u) ∧ (∀ j, j < i → resT (p.kid j).kind = rneed p.kind ∧ (p.kid j).All Pr.RTypedN) ∧ Ext w1 wr)
      case atStart => exact ⟨0, by omega, rfl, rfl, ⟨_, rfl⟩, fun j hj => absurd hj (Nat.not_lt_zero _), hx11⟩
      case round =>
        obtain ⟨i, hi, rfl, rfl, ⟨u, rfl⟩, hall, hxr⟩ := hrel
        have HALL := Lib.hid hall
        have hx0r := hx01.trans hxr
        clear hall
        by_cases hlt : i < p.len
        · skip
          have hlt' : (i : Int) < (p.len : Int) := by omega
          obtain rfl : pa = some ⟨p.b, p.off, none⟩ := by rw [HA.out]; exact HP.out.here.ha (by omega)
          have kb : ∀ w', Ext w0 w' → p.b < w'.heap.size := HP.out.here.hb (by omega)
          have k0 := fun w' h => HP.out.here.c0 w' h i hlt
          have k1 := fun w' h => HP.out.here.c1 w' h i hlt
          have k2 := fun w' h => HP.out.here.c2 w' h i hlt
          have k3 := fun w' h => HP.out.here.c3 w' h i hlt
          have k4 := fun w' h => HP.out.here.c4 w' h i hlt
          have k5 := fun w' h => HP.out.here.c5 w' h i hlt
          have hk := fun W => rkind_any W (p.kid i).kind (.int .i64 (p.kid i).num) (.int .i64 (p.kid i).proc) (.int .i64 (p.kid i).peer) (.string (p.kid i).name) (.slice (p.kid i).a (p.kid i).len (p.kid i).cap)
          obtain ⟨x, hxd⟩ : ∃ x, x = resT (p.kid i).kind := ⟨_, rfl⟩
          rw [← hxd] at hk
          have HX := Lib.hid hxd
          have HK := Lib.hid hk
          clear hxd hk
          go_wp2_with fail
          go_at_call 25
          refine (HK.out _).mono ?_
          rintro e w2 ⟨rfl, hx2⟩
          have hx12 := hxr.trans hx2
          have hx02 := hx01.trans hx12
          by_cases hxn : x = 2
          · have d3 : (x != 2) = false := by simp [hxn]
            have HXN := Lib.hid hxn
            have hc := HIH.out i hlt (HP.out.kid hlt) w2 hx02
            simp only [Pr.val] at hc
            clear hxn
            go_wp2_with fail
            go_at_call 34
            refine hc.mono ?_
            rintro e w4 ⟨b, rfl, hb, hx4⟩
            have hx14 := hx12.trans hx4
            have HB := Lib.hid hb
            clear hc k0 k1 k2 k3 k4 k5 kb hb
            cases b with
            | false =>
              have HB1 := Lib.hid (show ¬ (p.kid i).All Pr.RTypedN from fun h => by have := HB.out.2 h; cases this)
              clear HB
              go_wp2_with fail
              go_ret
              exact BoolPost.n (fun h => HB1.out (h.kid hlt)) (hx1.trans hx14)
            | true =>
              have HB1 := Lib.hid (HB.out.1 rfl)
              clear HB
              go_wp2_with fail
              go_roundg (p.len - (i + 1))
              case rel => exact ⟨i + 1, by omega, rfl, by go_num, ⟨_, rfl⟩, fun j hj => by
                by_cases e : j = i
                · subst e; exact ⟨HX.out.symm.trans (HXN.out.trans HR.out), HB1.out⟩
                · exact HALL.out j (by omega), hx14⟩
              case measure => omega
          · have d3 : (x != 2) = true := by simp [hxn]
            have HXN := Lib.hid hxn
            clear hxn
            go_wp2_with fail
            go_ret
            exact BoolPost.n (fun h => HXN.out (HX.out.trans ((h.here i hlt).trans HR.out.symm))) (hx1.trans hx12)
        · have hie : i = p.len := by omega
          subst hie
          go_wp2_with fail
          go_ret
          exact BoolPost.y ((Pr.All_eq _ _).2 ⟨fun j hj => (HALL.out j hj).1, fun j hj => (HALL.out j hj).2⟩) (hx1.trans hxr)
    · have d0 : decide (15 ≤ p.kind) = false := decide_eq_false h15
      have HR := Lib.hid (show 1 = rneed p.kind from (if_neg h15).symm)
      clear h15
      simp only [Pr.val]
      obtain ⟨pa, hpa⟩ : ∃ a, a = p.a := ⟨_, rfl⟩
      rw [← hpa]
      have HA := Lib.hid hpa
      clear hpa
      go_enter Tryz.func34, Tryz.ntmps34
      go_upto_region 1 with fail
      refine boxed1 (w := w) (G := fun x => Code.wp _ _ _ _ x) ?_
      intro w1 hx1 hs1 ⟨l0, c0, _, _⟩
      have hx11 : Ext w1 w1 := Ext.refl _
      have hx01 := hx.trans hx1
      clear hs1
      go_wp2_with fail
      go_loopg [3, 4] p.len (fun gg v3 v4 wr => ∃ i : Nat, i ≤ p.len ∧ gg = p.len - i ∧ v3 = .int .i64 i ∧ (∃ u, v4 = u) ∧ (∀ j, j < i → resT (p.kid j).kind = rneed p.kind ∧ (p.kid j).All Pr.RTypedN) ∧ Ext w1 wr)
      case atStart => exact ⟨0, by omega, rfl, rfl, ⟨_, rfl⟩, fun j hj => absurd hj (Nat.not_lt_zero _), hx11⟩
      case round =>
        obtain ⟨i, hi, rfl, rfl, ⟨u, rfl⟩, hall, hxr⟩ := hrel
        have HALL := Lib.hid hall
        have hx0r := hx01.trans hxr
        clear hall
        by_cases hlt : i < p.len
        · skip
          have hlt' : (i : Int) < (p.len : Int) := by omega
          obtain rfl : pa = some ⟨p.b, p.off, none⟩ := by rw [HA.out]; exact HP.out.here.ha (by omega)
          have kb : ∀ w', Ext w0 w' → p.b < w'.heap.size := HP.out.here.hb (by omega)
          have k0 := fun w' h => HP.out.here.c0 w' h i hlt
          have k1 := fun w' h => HP.out.here.c1 w' h i hlt
          have k2 := fun w' h => HP.out.here.c2 w' h i hlt
          have k3 := fun w' h => HP.out.here.c3 w' h i hlt
          have k4 := fun w' h => HP.out.here.c4 w' h i hlt
          have k5 := fun w' h => HP.out.here.c5 w' h i hlt
          have hk := fun W => rkind_any W (p.kid i).kind (.int .i64 (p.kid i).num) (.int .i64 (p.kid i).proc) (.int .i64 (p.kid i).peer) (.string (p.kid i).name) (.slice (p.kid i).a (p.kid i).len (p.kid i).cap)
          obtain ⟨x, hxd⟩ : ∃ x, x = resT (p.kid i).kind := ⟨_, rfl⟩
          rw [← hxd] at hk
          have HX := Lib.hid hxd
          have HK := Lib.hid hk
          clear hxd hk
          go_wp2_with fail
          go_at_call 25
          refine (HK.out _).mono ?_
          rintro e w2 ⟨rfl, hx2⟩
          have hx12 := hxr.trans hx2
          have hx02 := hx01.trans hx12
          by_cases hxn : x = 1
          · have d3 : (x != 1) = false := by simp [hxn]
            have HXN := Lib.hid hxn
            have hc := HIH.out i hlt (HP.out.kid hlt) w2 hx02
            simp only [Pr.val] at hc
            clear hxn
            go_wp2_with fail
            go_at_call 34
            refine hc.mono ?_
            rintro e w4 ⟨b, rfl, hb, hx4⟩
            have hx14 := hx12.trans hx4
            have HB := Lib.hid hb
            clear hc k0 k1 k2 k3 k4 k5 kb hb
            cases b with
            | false =>
              have HB1 := Lib.hid (show ¬ (p.kid i).All Pr.RTypedN from fun h => by have := HB.out.2 h; cases this)
              clear HB
              go_wp2_with fail
              go_ret
              exact BoolPost.n (fun h => HB1.out (h.kid hlt)) (hx1.trans hx14)
            | true =>
              have HB1 := Lib.hid (HB.out.1 rfl)
              clear HB
              go_wp2_with fail
              go_roundg (p.len - (i + 1))
              case rel => exact ⟨i + 1, by omega, rfl, by go_num, ⟨_, rfl⟩, fun j hj => by
                by_cases e : j = i
                · subst e; exact ⟨HX.out.symm.trans (HXN.out.trans HR.out), HB1.out⟩
                · exact HALL.out j (by omega), hx14⟩
              case measure => omega
          · have d3 : (x != 1) = true := by simp [hxn]
            have HXN := Lib.hid hxn
            clear hxn
            go_wp2_with fail
            go_ret
            exact BoolPost.n (fun h => HXN.out (HX.out.trans ((h.here i hlt).trans HR.out.symm))) (hx1.trans hx12)
        · have hie : i = p.len := by omega
          subst hie
          go_wp2_with fail
          go_ret
          exact BoolPost.y ((Pr.All_eq _ _).2 ⟨fun j hj => (HALL.out j hj).1, fun j hj => (HALL.out j hj).2⟩) (hx1.trans hxr)


end Go.Proofs.YtdplphoohnnbcaaGreatDoor
