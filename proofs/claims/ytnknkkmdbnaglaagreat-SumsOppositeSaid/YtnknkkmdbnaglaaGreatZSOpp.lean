/-
  PROVED HERE: 'SumsOpposite' returns true for every trace, list of numbers, two lists of terms and number, in every memory: no condition.
  (The row's step follows the shell that the kit's program wrote for 'LamportSteps'.)
-/
import Derived.Test.YtnknkkmdbnaglaaGreatRows
import Derived.WalkKit
import Derived.Lib.MinMax
import Derived.Test.YtnknkkmdbnaglaaGreatLm
import Derived.Test.YtnknkkmdbnaglaaGreatLk
import Derived.Test.YtnknkkmdbnaglaaGreatLl
import Derived.Test.YtnknkkmdbnaglaaGreatLn
namespace Go.Proofs.YtnknkkmdbnaglaaGreat.sumsOpposite
open Go.ChangeShapes Go.WideShapes Go.ChangeAt Go.RowKit Go.Proofs.YtnknkkmdbnaglaaGreat
set_option linter.unusedVariables false

def TruePost (w : World) (e : Ending) (w' : World) : Prop := e = .returned (.bool true) ∧ Ext w w'
theorem nofault {T : Tr} {ts : List Trm} {c : Int} (h : T.SumOk ts) (hc : T.SumFault ts c) : c = 0 := hc.uniq (.inr (.inr (.inr (.inr (.inr ⟨h, rfl⟩)))))
theorem cut_ok {T : Tr} {n : Nat} {v : Nat → Int} (h : T.IsCut n v) : T.CutOk fun p => (v p).toNat := by
  refine ⟨fun p hp => ?_, fun x hx hl h3 => ?_⟩
  · have := h.2.1 p hp
    show (v p).toNat ≤ T.en p
    omega
  · have hl' : x.2 < (v x.1).toNat := hl
    have h1 := h.2.2 x hx (by omega) h3
    show (T.sndN x).2 < (v (T.sndN x).1).toNat
    omega
theorem i8_range {v : Int} (h : (Lit.int .i8 v).wf = true) : -128 ≤ v ∧ v ≤ 127 := by
  have e1 : IntKind.i8.min = -128 := by decide
  have e2 : IntKind.i8.max = 127 := by decide
  simp only [Lit.wf, Bool.and_eq_true, decide_eq_true_eq, e1, e2] at h
  exact h
/-- the contract of Value, for a list of terms at a cut -/
def ValsP (T : TM) (l : List Trm) (x : Int) (w : World) (e : Ending) (w' : World) : Prop := Ext w w' ∧ ∃ y c : Int, e = .returned (.tuple #[.int .i64 y, .int .i64 c]) ∧ (T.SumOk l → c = 0) ∧ (c = 0 → T.SumOk l ∧ y = x)
set_option maxRecDepth 100000 in
set_option maxHeartbeats 16000000 in
theorem walk (T : TM) (C : IntD) (D1 D2 : TmD) (k : Int) (w : World) (hT : T.At w) (hC : C.At w) (hD1 : D1.At w) (hD2 : D2.At w) (hk : -128 ≤ k ∧ k ≤ 127) :
    Calls Tryz.prog 6 #[T.val, .slice C.s.a C.s.n C.s.c, .slice D1.s.a D1.s.n D1.s.c, .slice D2.s.a D2.s.n D2.s.c, .int .i8 k] w (TruePost w) := by
  obtain ⟨i1, hi1, hz0, hz1, hz2⟩ := info_parts infoTerm
  have hCN : NumAt w C.s.n C.s.a C.s.b C.s.o C.z := ⟨hC.s.hn, hC.s.ha, hC.s.hb, fun k hk => (hC.c k hk).1⟩
  have HT := Lib.hid hT
  have HD1 := Lib.hid (fun W (h : Ext w W) => hD1.ext h)
  have HD2 := Lib.hid (fun W (h : Ext w W) => hD2.ext h)
  have HFEW := Lib.hid (fun W (h : Ext w W) => few39_any W T (hT.ext h))
  have HFLT := Lib.hid (fun W (h : Ext w W) => rflt39_any W T (hT.ext h) D1 (hD1.ext h))
  have HMIN := Lib.hid (fun W (h : Ext w W) => smin_any W T (hT.ext h) D1 (hD1.ext h))
  have HMAX := Lib.hid (fun W (h : Ext w W) D (hD : TmD.At D W) => smax_any W T (hT.ext h) D hD)
  have HOPP := Lib.hid (fun W (h : Ext w W) hc hl => ropp_any W D1 (hD1.ext h) hc hl)
  have HRC := Lib.hid (fun W (h : Ext w W) (hV : T.toTr.Valid) => rcut39_any W T (hT.ext h) hV C.s.a C.s.b C.s.o C.s.n C.s.c C.z (hCN.ext h))
  have HVL := Lib.hid (fun W (h : Ext w W) (hI : T.toTr.IsCut C.s.n C.z) D (hD : TmD.At D W) => (show Calls Tryz.prog 24 #[T.val, .slice C.s.a C.s.n C.s.c, .slice D.s.a D.s.n D.s.c] W (ValsP T D.l (T.sumAt D.l fun p => (C.z p).toNat) W) from
    (sval_any W T (hT.ext h) D hD C.s.a C.s.n C.s.c C.s.b C.s.o C.z (hCN.ext h)).mono fun e w' ⟨hx, h⟩ => ⟨hx, by
      rcases h with ⟨c, hf, h0, he⟩ | ⟨_, hn, _⟩ | ⟨ho, _, he⟩
      · exact ⟨0, c, he, fun ho => nofault ho hf, fun h => absurd h h0⟩
      · exact absurd hI hn
      · exact ⟨_, 0, he, fun _ => rfl, fun _ => ⟨ho, rfl⟩⟩⟩))
  have hcn := hC.s.hn
  have hd1 := hD1.hn
  have hd2 := hD2.hn
  have HO1 := Lib.hid hD1.ok
  have HO2 := Lib.hid hD2.ok
  obtain ⟨ta, hta⟩ : ∃ z, z = T.a := ⟨_, rfl⟩
  have HTA := Lib.hid hta
  obtain ⟨da, hda⟩ : ∃ z, z = D1.s.a := ⟨_, rfl⟩
  have HDA := Lib.hid hda
  obtain ⟨n, hn⟩ : ∃ n, n = D1.s.n := ⟨_, rfl⟩
  have HN := Lib.hid hn
  have HLN := Lib.hid (show D1.l.length = n from by rw [D1.len, hn])
  obtain ⟨n2, hn2⟩ : ∃ n, n = D2.s.n := ⟨_, rfl⟩
  have HN2 := Lib.hid hn2
  obtain ⟨cn, hcn'⟩ : ∃ n, n = C.s.n := ⟨_, rfl⟩
  simp only [TM.val] at HFEW HFLT HMIN HMAX HRC HVL ⊢
  rw [← hta] at HFEW HFLT HMIN HMAX HRC HVL
  rw [← hda, ← hn] at HFLT HMIN HOPP
  rw [← hcn'] at HRC HVL
  rw [← hta, ← hda, ← hn, ← hn2, ← hcn']
  rw [← hn] at hd1
  rw [← hn2] at hd2
  rw [← hcn'] at hcn
  clear hT hC hD1 hD2 hCN hta hda hn hn2 hcn'
  go_enter Tryz.func6, Tryz.ntmps6
  go_upto_region 1 with fail
  refine boxed1 (w := w) (G := fun x => Code.wp _ _ _ _ x) ?_
  intro w1 hx1 hs1 ⟨l0, c0, _, _⟩
  have hx11 : Ext w1 w1 := Ext.refl _
  clear hs1
  go_wp2_with fail
  go_at_call 15
  refine (awake39_any w1).mono ?_
  rintro e w2 ⟨rfl, hx2⟩
  have hxw2 := hx1.trans hx2
  go_wp2_with fail
  go_at_call 16
  refine (HFEW.out w2 hxw2).mono ?_
  rintro e w3 ⟨hx3, bf, rfl, -⟩
  have hxw3 := hxw2.trans hx3
  have hx13 := hx2.trans hx3
  cases bf with
  | false =>
    go_wp2_with fail
    go_ret
    exact ⟨rfl, hxw3⟩
  | true =>
  by_cases h30 : 30 < n
  · have d1 : decide ((30 : Int) < (n : Int)) = true := decide_eq_true (by omega)
    have d1' : decide (30 < n) = true := decide_eq_true h30
    go_wp2_with fail
    go_ret
    exact ⟨rfl, hxw3⟩
  have d1 : decide ((30 : Int) < (n : Int)) = false := decide_eq_false (by omega)
  have d1' : decide (30 < n) = false := decide_eq_false h30
  by_cases h31 : 30 < n2
  · have d2 : decide ((30 : Int) < (n2 : Int)) = true := decide_eq_true (by omega)
    have d2' : decide (30 < n2) = true := decide_eq_true h31
    go_wp2_with fail
    go_ret
    exact ⟨rfl, hxw3⟩
  have d2 : decide ((30 : Int) < (n2 : Int)) = false := decide_eq_false (by omega)
  have d2' : decide (30 < n2) = false := decide_eq_false h31
  by_cases h40 : 40 < cn
  · have d3 : decide ((40 : Int) < (cn : Int)) = true := decide_eq_true (by omega)
    have d3' : decide (40 < cn) = true := decide_eq_true h40
    go_wp2_with fail
    go_ret
    exact ⟨rfl, hxw3⟩
  have d3 : decide ((40 : Int) < (cn : Int)) = false := decide_eq_false (by omega)
  have d3' : decide (40 < cn) = false := decide_eq_false h40
  go_wp2_with fail
  go_at_call 19
  refine (HFLT.out w3 hxw3).mono ?_
  rintro e w4 ⟨hx4, cf, hcf, rfl⟩
  have hxw4 := hxw3.trans hx4
  have hx14 := hx13.trans hx4
  have HCF := Lib.hid hcf
  clear hcf
  by_cases hz : cf = 0
  case neg =>
    have d4 : (cf == 0) = false := by simpa using hz
    go_wp2_with fail
    go_ret
    exact ⟨rfl, hxw4⟩
  subst hz
  have HOK := Lib.hid HCF.out.ok
  have HV := Lib.hid HOK.out.v
  have hn8 := HV.out.n8
  clear hx2 hx3 hx4 hx13 hxw2 hxw3 d1 d1' d2 d2' d3 d3'
  go_wp2_with fail
  go_at_call 18
  refine (HMIN.out w4 hxw4).mono ?_
  rintro e w5 ⟨hx5, ⟨c, hc, h0, _⟩ | ⟨_, v, c1, g1, rfl, hrow1, _, hb1⟩⟩
  · exact absurd (nofault HOK.out hc) h0
  have hxw5 := hxw4.trans hx5
  have hx15 := hx14.trans hx5
  have HR1 := Lib.hid hrow1
  have HB1 := Lib.hid hb1
  have hvb := (Tr.wfn_ok HOK.out).neg.best hb1
  clear hrow1 hb1
  have hxwh := hxw5
  have hx1h := hx15
  go_upto_region 6 with fail
  refine wp_region_held_drew (S := fun w' => Ext w5 w') (by kernel_rfl) (Ext.refl _).drew (fun hHeld => ?_)
  refine heldTake 0 (v := ?_) rfl (by kernel_rfl) (by kernel_rfl) (by kernel_rfl) (fun _ _ _ h => h) (Or.inl ⟨by rfl, ?_⟩) (by assumption) ?_
  rotate_left
  · (intro w' hSw; (try dsimp only at hSw); have hS1 := hx1h.trans hSw; have hS0 := hxwh.trans hSw; go_simp; try with_reducible rfl)
  try simp only [Act.put, List.setIfInBounds_toArray, List.set_cons_zero, List.set_cons_succ]
  refine heldTake 1 (v := ?_) rfl (by kernel_rfl) (by kernel_rfl) (by kernel_rfl) (fun _ _ _ h => h) (Or.inl ⟨by rfl, ?_⟩) (by assumption) ?_
  rotate_left
  · (intro w' hSw; (try dsimp only at hSw); have hS1 := hx1h.trans hSw; have hS0 := hxwh.trans hSw; go_simp; try with_reducible rfl)
  try simp only [Act.put, List.setIfInBounds_toArray, List.set_cons_zero, List.set_cons_succ]
  refine wpAnyH_ready (rs := [2]) (by kernel_rfl) (by simp) ?_
  refine AllReadyH.cons rfl (fun K hK => ?_) AllReadyH.nil
  go_simp
  go_at_call 35
  refine (HOPP.out _ hxw5.drew HOK.out.coef HOK.out.len).mono ?_
  rintro e w6 ⟨hx6, vo, rfl, hqo⟩
  obtain ⟨D3, rfl, hD3l, hD3⟩ := hqo.tmd (by unfold oppL; rw [List.length_map]; have := HOK.out.len; omega) (trmOk_opp HO1.out HOK.out.coef)
  have hx56 : Ext w5 w6 := (Ext.refl w5).drew.trans hx6
  refine hK.out _ _ ?_ (fun hHeld2 => ?_)
  · exact hx56
  clear hK K
  try simp only [Act.put, List.setIfInBounds_toArray, List.set_cons_zero, List.set_cons_succ]
  have hmx := HMAX.out w6 (hxw5.trans hx56) D3 hD3
  refine wpAnyH_ready (rs := [3]) (by kernel_rfl) (by simp) ?_
  refine AllReadyH.cons rfl (fun K hK => ?_) AllReadyH.nil
  go_simp
  go_at_call 17
  refine hmx.mono ?_
  rintro e w7 ⟨hx7, ⟨c, hc, h0, _⟩ | ⟨_, v2, c2, g2, rfl, hrow2, _, hb2⟩⟩
  · rw [hD3l] at hc
    exact absurd (nofault HOK.out.opp hc) h0
  have hx57 := hx56.trans hx7
  have hun := (show v = v2 ∧ ∀ p, p < T.n → c1 p = c2 p from by
    rw [hD3l, Tr.sumAt_opp, Tr.wfn_opp] at hb2
    exact HB1.out.uniq hb2)
  have HR2 := Lib.hid hrow2
  obtain rfl := hun.1
  have HUN := Lib.hid hun.2
  clear hun hrow2 hb2 hmx hqo
  refine hK.out _ _ ?_ (fun hHeld3 => ?_)
  · exact hx57
  clear hK K
  try simp only [Act.put, List.setIfInBounds_toArray, List.set_cons_zero, List.set_cons_succ]
  refine heldTake 4 (v := ?_) rfl (by kernel_rfl) (by kernel_rfl) (by kernel_rfl) (fun _ _ _ h => h) (Or.inl ⟨by rfl, ?_⟩) (by assumption) ?_
  rotate_left
  · (intro w' hSw; (try dsimp only at hSw); have hS1 := hx1h.trans hSw; have hS0 := hxwh.trans hSw; go_simp; try with_reducible rfl)
  try simp only [Act.put, List.setIfInBounds_toArray, List.set_cons_zero, List.set_cons_succ]
  refine heldTake 5 (v := ?_) rfl (by kernel_rfl) (by kernel_rfl) (by kernel_rfl) (fun _ _ _ h => h) (Or.inl ⟨by rfl, ?_⟩) (by assumption) ?_
  rotate_left
  · (intro w' hSw; (try dsimp only at hSw); have hS1 := hx1h.trans hSw; have hS0 := hxwh.trans hSw; go_simp; try with_reducible rfl)
  try simp only [Act.put, List.setIfInBounds_toArray, List.set_cons_zero, List.set_cons_succ]
  refine heldTake 6 (v := ?_) rfl (by kernel_rfl) (by kernel_rfl) (by kernel_rfl) (fun _ _ _ h => h) (Or.inl ⟨by rfl, ?_⟩) (by assumption) ?_
  rotate_left
  · (intro w' hSw; (try dsimp only at hSw); have hS1 := hx1h.trans hSw; have hS0 := hxwh.trans hSw; go_simp; try with_reducible rfl)
  try simp only [Act.put, List.setIfInBounds_toArray, List.set_cons_zero, List.set_cons_succ]
  refine heldTake 7 (v := ?_) rfl (by kernel_rfl) (by kernel_rfl) (by kernel_rfl) (fun _ _ _ h => h) (Or.inl ⟨by rfl, ?_⟩) (by assumption) ?_
  rotate_left
  · (intro w' hSw; (try dsimp only at hSw); have hS1 := hx1h.trans hSw; have hS0 := hxwh.trans hSw; go_simp; try with_reducible rfl)
  try simp only [Act.put, List.setIfInBounds_toArray, List.set_cons_zero, List.set_cons_succ]
  refine wpAnyH_ready (rs := [8]) (by kernel_rfl) (by simp) ?_
  refine AllReadyH.cons rfl (fun K hK => ?_) AllReadyH.nil
  go_simp
  refine hK.out _ _ ?_ (fun hHeld4 => ?_)
  · exact hx57
  clear hK K
  try simp only [Act.put, List.setIfInBounds_toArray, List.set_cons_zero, List.set_cons_succ]
  refine wpAnyH_ready (rs := [9]) (by kernel_rfl) (by simp) ?_
  refine AllReadyH.cons rfl (fun K hK => ?_) AllReadyH.nil
  go_simp
  refine hK.out _ _ ?_ (fun hHeld5 => ?_)
  · exact hx57
  clear hK K
  try simp only [Act.put, List.setIfInBounds_toArray, List.set_cons_zero, List.set_cons_succ]
  refine wpAnyH_ready (rs := [10]) (by kernel_rfl) (by simp) ?_
  refine AllReadyH.cons rfl (fun K hK => ?_) AllReadyH.nil
  go_simp
  refine hK.out _ _ ?_ (fun hHeld6 => ?_)
  · exact hx57
  clear hK K
  try simp only [Act.put, List.setIfInBounds_toArray, List.set_cons_zero, List.set_cons_succ]
  refine wpAnyH_done (by kernel_rfl) ?_ _
  clear hHeld hHeld2 hHeld3 hHeld4 hHeld5 hHeld6
  have hxw7 := hxw5.trans hx57
  have hx17 := hx15.trans hx57
  have hwv : IntKind.i64.wrap (- v) = - v := IntWalk.i64_in _ (by omega)
  have heq := eqi_any w7 (some ⟨g1, 0, none⟩) (some ⟨g2, 0, none⟩) g1 0 g2 0 T.n T.n T.n T.n (fun p => (c1 p : Int)) (fun p => (c2 p : Int))
    ⟨by omega, fun _ => rfl, fun _ => (HR1.out.ext hx57).lt, fun k hk => by rw [Nat.zero_add]; exact (HR1.out.ext hx57).c k hk⟩
    ⟨by omega, fun _ => rfl, fun _ => HR2.out.lt, fun k hk => by rw [Nat.zero_add]; exact HR2.out.c k hk⟩
  go_wp2_with fail
  go_at_call 23
  refine heq.mono ?_
  rintro e w8 ⟨be, rfl, hbe, hx8⟩
  obtain rfl : be = true := hbe.2 ⟨rfl, fun i hi => by show (c1 i : Int) = (c2 i : Int); rw [HUN.out i hi]⟩
  have hxw8 := hxw7.trans hx8
  have hx18 := hx17.trans hx8
  clear heq hbe hx8 hx57 hx56 hx6 hx7 hxw7 hx17 hx5 hxw5 hx15 hx14 hxw4 hxwh hx1h
  go_wp2_with fail
  go_at_call 30
  refine (HRC.out w8 hxw8 HV.out).mono ?_
  rintro e w9 ⟨bc, rfl, hbc, hx9⟩
  have hxw9 := hxw8.trans hx9
  have hx19 := hx18.trans hx9
  have HBC := Lib.hid hbc
  clear hbc
  cases bc with
  | false =>
    go_wp2_with fail
    go_ret
    exact ⟨rfl, hxw9⟩
  | true =>
  have HIC := Lib.hid (HBC.out.1 (by first | rfl | trivial))
  have HCU := Lib.hid (cut_ok HIC.out)
  obtain ⟨xa, hxa⟩ : ∃ z, z = T.toTr.sumAt D1.l (fun p => (C.z p).toNat) := ⟨_, rfl⟩
  have HXA := Lib.hid hxa
  have hxab := HOK.out.small HCU.out.le
  rw [← hxa] at hxab
  have hge : - v ≤ xa := by
    have h1 := HB1.out.most _ HCU.out
    have h2 := HB1.out.val
    rw [Tr.atC_neg, Tr.atC_neg] at h1
    rw [Tr.atC_neg] at h2
    have h3 := Tr.sumAt_atC HOK.out.known HCU.out.le
    rw [← hxa] at h3
    omega
  have hva := HVL.out w9 hxw9 HIC.out D1 (HD1.out w9 hxw9)
  rw [← hxa, ← HDA.out, ← HN.out] at hva
  clear hxa
  go_wp2_with fail
  go_at_call 24
  refine hva.mono ?_
  rintro e w10 ⟨hx10, y0, e0, rfl, h0, h1⟩
  obtain rfl : e0 = 0 := h0 HOK.out
  obtain ⟨_, rfl⟩ := h1 rfl
  have hxw10 := hxw9.trans hx10
  have hx110 := hx19.trans hx10
  have hvb' := HVL.out w10 hxw10 HIC.out D2 (HD2.out w10 hxw10)
  rw [← HN2.out] at hvb'
  clear hva h0 h1
  go_wp2_with fail
  go_at_call 24
  refine hvb'.mono ?_
  rintro e w11 ⟨hx11', yb, eb, rfl, -, hyb⟩
  have hxw11 := hxw10.trans hx11'
  have hx111 := hx110.trans hx11'
  have HYB := Lib.hid hyb
  have hxwh := hxw11
  have hx1h := hx111
  clear hvb' hyb hxw9 hx19 hxw8 hx18 hx9 hx10 hx110 hxw10
  go_upto_region 12 with fail
  refine wp_region_held_drew (S := fun w' => Ext w11 w') (by kernel_rfl) (Ext.refl _).drew (fun hHeld => ?_)
  refine heldTake 0 (v := ?_) rfl (by kernel_rfl) (by kernel_rfl) (by kernel_rfl) (fun _ _ _ h => h) (Or.inl ⟨by rfl, ?_⟩) (by assumption) ?_
  rotate_left
  · (intro w' hSw; (try dsimp only at hSw); have hS1 := hx1h.trans hSw; have hS0 := hxwh.trans hSw; go_simp; try with_reducible rfl)
  try simp only [Act.put, List.setIfInBounds_toArray, List.set_cons_zero, List.set_cons_succ]
  refine heldTake 1 (v := ?_) rfl (by kernel_rfl) (by kernel_rfl) (by kernel_rfl) (fun _ _ _ h => h) (Or.inl ⟨by rfl, ?_⟩) (by assumption) ?_
  rotate_left
  · (intro w' hSw; (try dsimp only at hSw); have hS1 := hx1h.trans hSw; have hS0 := hxwh.trans hSw; go_simp; try with_reducible rfl)
  try simp only [Act.put, List.setIfInBounds_toArray, List.set_cons_zero, List.set_cons_succ]
  refine heldTake 2 (v := ?_) rfl (by kernel_rfl) (by kernel_rfl) (by kernel_rfl) (fun _ _ _ h => h) (Or.inl ⟨by rfl, ?_⟩) (by assumption) ?_
  rotate_left
  · (intro w' hSw; (try dsimp only at hSw); have hS1 := hx1h.trans hSw; have hS0 := hxwh.trans hSw; go_simp; try with_reducible rfl)
  try simp only [Act.put, List.setIfInBounds_toArray, List.set_cons_zero, List.set_cons_succ]
  refine heldTake 3 (v := ?_) rfl (by kernel_rfl) (by kernel_rfl) (by kernel_rfl) (fun _ _ _ h => h) (Or.inl ⟨by rfl, ?_⟩) (by assumption) ?_
  rotate_left
  · (intro w' hSw; (try dsimp only at hSw); have hS1 := hx1h.trans hSw; have hS0 := hxwh.trans hSw; go_simp; try with_reducible rfl)
  try simp only [Act.put, List.setIfInBounds_toArray, List.set_cons_zero, List.set_cons_succ]
  refine wpAnyH_ready (rs := [4]) (by kernel_rfl) (by simp) ?_
  refine AllReadyH.cons rfl (fun K hK => ?_) AllReadyH.nil
  go_simp
  refine hK.out _ _ ?_ (fun hHeld2 => ?_)
  · exact (Ext.refl w11).drew.alloc' _
  clear hK K
  try simp only [Act.put, List.setIfInBounds_toArray, List.set_cons_zero, List.set_cons_succ]
  have hcat := catT_any (w11.drew.alloc (.cells #[.slice da n D1.s.c, .slice D2.s.a n2 D2.s.c] 25)) D1 D2 (HD1.out _ ((hxw11.drew).alloc' _)) (HD2.out _ ((hxw11.drew).alloc' _)) (by rw [← HN.out]; omega) (by rw [← HN2.out]; omega) w11.drew.heap.size (by rw [← HDA.out, ← HN.out, ← HN2.out]; exact Hold.new _ _ _)
  refine wpAnyH_ready (rs := [5]) (by kernel_rfl) (by simp) ?_
  refine AllReadyH.cons rfl (fun K hK => ?_) AllReadyH.nil
  go_simp
  go_at_call 36
  refine hcat.mono ?_
  rintro e w12 ⟨hx12, vc, rfl, hqc⟩
  obtain ⟨D4, rfl, hD4l, hD4⟩ := hqc.tmd (by rw [List.length_append, D1.len, D2.len, ← HN.out, ← HN2.out]; omega) (trmOk_append HO1.out HO2.out)
  have hx1112 : Ext w11 w12 := ((Ext.refl w11).drew.alloc' _).trans hx12
  refine hK.out _ _ ?_ (fun hHeld3 => ?_)
  · exact hx1112
  clear hK K
  try simp only [Act.put, List.setIfInBounds_toArray, List.set_cons_zero, List.set_cons_succ]
  have hvz := HVL.out w12 (hxw11.trans hx1112) HIC.out D4 hD4
  rw [hD4l] at hvz
  refine wpAnyH_ready (rs := [6]) (by kernel_rfl) (by simp) ?_
  refine AllReadyH.cons rfl (fun K hK => ?_) AllReadyH.nil
  go_simp
  go_at_call 24
  refine hvz.mono ?_
  rintro e w13 ⟨hx13', yz, ez, rfl, -, hyz⟩
  have hx1113 : Ext w11 w13 := hx1112.trans hx13'
  have HYZ := Lib.hid hyz
  refine hK.out _ _ ?_ (fun hHeld4 => ?_)
  · exact hx1113
  clear hK K
  try simp only [Act.put, List.setIfInBounds_toArray, List.set_cons_zero, List.set_cons_succ]
  refine heldTake 7 (v := ?_) rfl (by kernel_rfl) (by kernel_rfl) (by kernel_rfl) (fun _ _ _ h => h) (Or.inl ⟨by rfl, ?_⟩) (by assumption) ?_
  rotate_left
  · (intro w' hSw; (try dsimp only at hSw); have hS1 := hx1h.trans hSw; have hS0 := hxwh.trans hSw; go_simp; try with_reducible rfl)
  try simp only [Act.put, List.setIfInBounds_toArray, List.set_cons_zero, List.set_cons_succ]
  refine heldTake 8 (v := ?_) rfl (by kernel_rfl) (by kernel_rfl) (by kernel_rfl) (fun _ _ _ h => h) (Or.inl ⟨by rfl, ?_⟩) (by assumption) ?_
  rotate_left
  · (intro w' hSw; (try dsimp only at hSw); have hS1 := hx1h.trans hSw; have hS0 := hxwh.trans hSw; go_simp; try with_reducible rfl)
  try simp only [Act.put, List.setIfInBounds_toArray, List.set_cons_zero, List.set_cons_succ]
  refine heldTake 9 (v := ?_) rfl (by kernel_rfl) (by kernel_rfl) (by kernel_rfl) (fun _ _ _ h => h) (Or.inl ⟨by rfl, ?_⟩) (by assumption) ?_
  rotate_left
  · (intro w' hSw; (try dsimp only at hSw); have hS1 := hx1h.trans hSw; have hS0 := hxwh.trans hSw; go_simp; try with_reducible rfl)
  try simp only [Act.put, List.setIfInBounds_toArray, List.set_cons_zero, List.set_cons_succ]
  refine wpAnyH_ready (rs := [10]) (by kernel_rfl) (by simp) ?_
  refine AllReadyH.cons rfl (fun K hK => ?_) AllReadyH.nil
  go_simp
  refine hK.out _ _ ?_ (fun hHeld5 => ?_)
  · exact hx1113
  clear hK K
  try simp only [Act.put, List.setIfInBounds_toArray, List.set_cons_zero, List.set_cons_succ]
  refine wpAnyH_ready (rs := [11]) (by kernel_rfl) (by simp) ?_
  refine AllReadyH.cons rfl (fun K hK => ?_) AllReadyH.nil
  go_simp
  refine hK.out _ _ ?_ (fun hHeld6 => ?_)
  · exact hx1113
  clear hK K
  try simp only [Act.put, List.setIfInBounds_toArray, List.set_cons_zero, List.set_cons_succ]
  refine wpAnyH_done (by kernel_rfl) ?_ _
  clear hHeld hHeld2 hHeld3 hHeld4 hHeld5 hHeld6 hvz hyz hcat hqc hD4 hx12 hx1112 hx13'
  have hxw13 := hxw11.trans hx1113
  have hx113 := hx111.trans hx1113
  clear hx1113 hxw11 hx111 hxwh hx1h hx11'
  have d5 : decide (y0 < - v) = false := decide_eq_false (by omega)
  have hx1313 : Ext w13 w13 := Ext.refl _
  have HX := Lib.hid (And.intro hxw13 hx113)
  have hwk : IntKind.i64.wrap k = k := IntWalk.i64_in _ (by omega)
  by_cases hb0 : eb = 0
  case neg =>
    have d6 : (eb == 0) = false := by simpa using hb0
    go_wp2_with fail
    go_loopg [23, 138] n (fun gg v23 v138 wr => ∃ j : Nat, j ≤ n ∧ gg = n - j ∧ v138 = .int .i64 j ∧ Que wr w13.heap.size 3 v23 j (trmCells (timL k (D1.l.take j))) ∧ Ext w13 wr)
    case atStart => exact ⟨0, by omega, rfl, rfl, Que.nil _ _ _, hx1313⟩
    case round =>
      obtain ⟨j, hj, rfl, rfl, hq, hxr⟩ := hrel
      obtain ⟨a5, c5, rfl⟩ := hq.slice
      have HQ := Lib.hid hq
      have hxwr := HX.out.1.trans hxr
      have hx1r := HX.out.2.trans hxr
      clear hq
      by_cases hlt : j < n
      · have hlt' : (j : Int) < (n : Int) := by omega
        have hjs : j < D1.s.n := by rw [← HN.out]; exact hlt
        obtain rfl : da = some ⟨D1.s.b, D1.s.o, none⟩ := by rw [HDA.out]; exact (HD1.out wr hxwr).ha (by omega)
        have hdb : ∀ w', Ext w w' → D1.s.b < w'.heap.size := fun w' x => (HD1.out w' x).hb (by omega)
        obtain ⟨pp, hpp⟩ : ∃ z, z = D1.p j := ⟨_, rfl⟩
        obtain ⟨nm, hnm⟩ : ∃ z, z = D1.nm j := ⟨_, rfl⟩
        obtain ⟨cc, hcc⟩ : ∃ z, z = D1.c j := ⟨_, rfl⟩
        have q0 : ∀ w', Ext w w' → w'.cell? ⟨D1.s.b, D1.s.o + j * 3, none⟩ = some (.int .i64 pp) := fun w' x => by rw [hpp]; exact (HD1.out w' x).c0 j hjs
        have q1 : ∀ w', Ext w w' → w'.cell? ⟨D1.s.b, D1.s.o + j * 3 + 1, none⟩ = some (.string nm) := fun w' x => by rw [hnm]; exact (HD1.out w' x).c1 j hjs
        have q2 : ∀ w', Ext w w' → w'.cell? ⟨D1.s.b, D1.s.o + j * 3 + 2, none⟩ = some (.int .i64 cc) := fun w' x => by rw [hcc]; exact (HD1.out w' x).c2 j hjs
        have hcb := HOK.out.coef (D1.at j) (TmD.mem.2 ⟨j, hjs, rfl⟩)
        have e22 : (D1.at j).2.2 = cc := hcc.symm
        rw [e22] at hcb
        have hmb := mul_abs (a := cc) (b := k) (A := 1048576) (B := 128) (by omega) (by omega)
        have hw1 : IntKind.i64.wrap (cc * k) = cc * k := IntWalk.i64_in _ (by omega)
        have HNX := Lib.hid (show trmCells (timL k (D1.l.take (j + 1))) = trmCells (timL k (D1.l.take j)) ++ [.int .i64 pp, .string nm, .int .i64 (cc * k)] from by
          rw [List.take_add_one, D1.get hjs]
          show trmCells (timL k (D1.l.take j ++ [D1.at j])) = _
          have : timL k (D1.l.take j ++ [D1.at j]) = timL k (D1.l.take j) ++ [(pp, nm, cc * k)] := by simp [timL, TmD.at, hpp, hnm, hcc]
          rw [this, trmCells_snoc])
        clear hpp hnm hcc e22 hmb
        go_upto_region 19 with fail
        refine boxed1 (w := wr) (G := fun x => Code.wp _ _ _ _ x) ?_
        intro w14 hx14a hs14 ⟨l14, c14, _, _⟩
        have hx1414 : Ext w14 w14 := Ext.refl _
        have hx1314 := hxr.trans hx14a
        have HQ14 := Lib.hid (HQ.out.ext hx14a)
        clear hs14 q0 q1 q2 hdb
        have hmn : min (1048576 : Int) cc = cc := by omega
        have hmx : max (-1048576 : Int) cc = cc := by omega
        have hw1' : wrap64 (cc * k) = cc * k := (IntWalk.i64_left _).symm.trans hw1
        go_upto_region 20 with (at_builtin; refine wpList_append_que _ rfl _ _ 25 25 rfl (base := w13.heap.size) (e := 62) (size := 3) i1 (.agg #[.int .i64 0, .string ⟨#[]⟩, .int .i64 0]) 32 Tryz.underlying25 hi1 hz0 hz1 hz2 rfl (v := .slice a5 j c5) (n := j) (xs := trmCells (timL k (D1.l.take j))) rfl (by exact HQ14.out.ext (Ext.alloc _ _)) (by rw [World.size_alloc]; have := hx1314.le; omega) (.slice (some ⟨w14.heap.size, 0, none⟩) 1 1) 1 [.int .i64 pp, .string nm, .int .i64 (cc * k)] rfl (by exact Src.ofSlice (size := 3) _ Tryz.underlying25 ⟨w14.heap.size, 0, none⟩ 1 1 _ rfl (news_ok w14 _ _) (trm_one _ _ _)) (by unfold maxLen; omega) (by omega) ?_; rintro v7 w15 hq7 hg7 -; obtain ⟨a9, c9, rfl⟩ := hq7.slice)
        have hx1315 : Ext w13 w15 := (hx1314.alloc' _).below.grown hg7 (by rw [World.size_alloc]; have := hx1314.le; omega) (fun g e => by have := HQ14.out.block g e; omega)
        have HQ7 := Lib.hid (show Que w15 w13.heap.size 3 (.slice a9 (j + 1) c9) (j + 1) (trmCells (timL k (D1.l.take (j + 1)))) from by rw [HNX.out]; exact hq7)
        clear hq7 hg7 l14 c14 hx1414
        go_wp2_with fail
        go_roundg (n - (j + 1))
        case rel => exact ⟨j + 1, by omega, rfl, by go_num, HQ7.out, hx1315⟩
        case measure => omega
      · obtain rfl : j = n := by omega
        have HTO := Lib.hid (show TmOwn wr w13.heap.size (.slice a5 j c5) (timL k D1.l) from by
          have h1 := HQ.out
          rw [List.take_of_length_le (by rw [HLN.out]; exact Nat.le_refl _)] at h1
          have e : (timL k D1.l).length = j := by rw [← HLN.out]; simp [timL]
          unfold TmOwn
          rw [e]; exact h1)
        obtain ⟨D5, hD5v, hD5l, hD5⟩ := HTO.out.tmd (by unfold timL; rw [List.length_map]; have := HOK.out.len; omega) (trmOk_tim HO1.out HOK.out.coef hk.1 hk.2)
        have hvt := HVL.out wr hxwr HIC.out D5 hD5
        rw [← hD5v, hD5l, Tr.sumAt_tim, ← HXA.out] at hvt
        have hmb := mul_abs (a := k) (b := y0) (A := 128) (B := 562949953421312) (by omega) (by omega)
        have hw1 : IntKind.i64.wrap (k * y0) = k * y0 := IntWalk.i64_in _ (by omega)
        have hw1' : wrap64 (k * y0) = k * y0 := (IntWalk.i64_left _).symm.trans hw1
        clear hD5v hD5l hD5 hmb
        go_wp2_with fail
        go_at_call 24
        refine hvt.mono ?_
        rintro e w16 ⟨hx16, yt, et, rfl, -, hyt⟩
        have hxw16 := hxwr.trans hx16
        clear hvt
        by_cases ht0 : et = 0
        · obtain ⟨_, rfl⟩ := hyt ht0
          have d8 : (et == 0) = true := by simpa using ht0
          have d9 : (k * y0 == k * y0) = true := by simp
          clear ht0 hyt
          go_wp2_with fail
          go_ret
          exact ⟨rfl, hxw16⟩
        · have d8 : (et == 0) = false := by simpa using ht0
          clear hyt
          go_wp2_with fail
          go_ret
          exact ⟨rfl, hxw16⟩
  have d6 : (eb == 0) = true := by simpa using hb0
  by_cases hc0 : ez = 0
  case neg =>
    have d7 : (ez == 0) = false := by simpa using hc0
    clear hb0
    go_wp2_with fail
    go_loopg [23, 138] n (fun gg v23 v138 wr => ∃ j : Nat, j ≤ n ∧ gg = n - j ∧ v138 = .int .i64 j ∧ Que wr w13.heap.size 3 v23 j (trmCells (timL k (D1.l.take j))) ∧ Ext w13 wr)
    case atStart => exact ⟨0, by omega, rfl, rfl, Que.nil _ _ _, hx1313⟩
    case round =>
      obtain ⟨j, hj, rfl, rfl, hq, hxr⟩ := hrel
      obtain ⟨a5, c5, rfl⟩ := hq.slice
      have HQ := Lib.hid hq
      have hxwr := HX.out.1.trans hxr
      have hx1r := HX.out.2.trans hxr
      clear hq
      by_cases hlt : j < n
      · have hlt' : (j : Int) < (n : Int) := by omega
        have hjs : j < D1.s.n := by rw [← HN.out]; exact hlt
        obtain rfl : da = some ⟨D1.s.b, D1.s.o, none⟩ := by rw [HDA.out]; exact (HD1.out wr hxwr).ha (by omega)
        have hdb : ∀ w', Ext w w' → D1.s.b < w'.heap.size := fun w' x => (HD1.out w' x).hb (by omega)
        obtain ⟨pp, hpp⟩ : ∃ z, z = D1.p j := ⟨_, rfl⟩
        obtain ⟨nm, hnm⟩ : ∃ z, z = D1.nm j := ⟨_, rfl⟩
        obtain ⟨cc, hcc⟩ : ∃ z, z = D1.c j := ⟨_, rfl⟩
        have q0 : ∀ w', Ext w w' → w'.cell? ⟨D1.s.b, D1.s.o + j * 3, none⟩ = some (.int .i64 pp) := fun w' x => by rw [hpp]; exact (HD1.out w' x).c0 j hjs
        have q1 : ∀ w', Ext w w' → w'.cell? ⟨D1.s.b, D1.s.o + j * 3 + 1, none⟩ = some (.string nm) := fun w' x => by rw [hnm]; exact (HD1.out w' x).c1 j hjs
        have q2 : ∀ w', Ext w w' → w'.cell? ⟨D1.s.b, D1.s.o + j * 3 + 2, none⟩ = some (.int .i64 cc) := fun w' x => by rw [hcc]; exact (HD1.out w' x).c2 j hjs
        have hcb := HOK.out.coef (D1.at j) (TmD.mem.2 ⟨j, hjs, rfl⟩)
        have e22 : (D1.at j).2.2 = cc := hcc.symm
        rw [e22] at hcb
        have hmb := mul_abs (a := cc) (b := k) (A := 1048576) (B := 128) (by omega) (by omega)
        have hw1 : IntKind.i64.wrap (cc * k) = cc * k := IntWalk.i64_in _ (by omega)
        have HNX := Lib.hid (show trmCells (timL k (D1.l.take (j + 1))) = trmCells (timL k (D1.l.take j)) ++ [.int .i64 pp, .string nm, .int .i64 (cc * k)] from by
          rw [List.take_add_one, D1.get hjs]
          show trmCells (timL k (D1.l.take j ++ [D1.at j])) = _
          have : timL k (D1.l.take j ++ [D1.at j]) = timL k (D1.l.take j) ++ [(pp, nm, cc * k)] := by simp [timL, TmD.at, hpp, hnm, hcc]
          rw [this, trmCells_snoc])
        clear hpp hnm hcc e22 hmb
        go_upto_region 19 with fail
        refine boxed1 (w := wr) (G := fun x => Code.wp _ _ _ _ x) ?_
        intro w14 hx14a hs14 ⟨l14, c14, _, _⟩
        have hx1414 : Ext w14 w14 := Ext.refl _
        have hx1314 := hxr.trans hx14a
        have HQ14 := Lib.hid (HQ.out.ext hx14a)
        clear hs14 q0 q1 q2 hdb
        have hmn : min (1048576 : Int) cc = cc := by omega
        have hmx : max (-1048576 : Int) cc = cc := by omega
        have hw1' : wrap64 (cc * k) = cc * k := (IntWalk.i64_left _).symm.trans hw1
        go_upto_region 20 with (at_builtin; refine wpList_append_que _ rfl _ _ 25 25 rfl (base := w13.heap.size) (e := 62) (size := 3) i1 (.agg #[.int .i64 0, .string ⟨#[]⟩, .int .i64 0]) 32 Tryz.underlying25 hi1 hz0 hz1 hz2 rfl (v := .slice a5 j c5) (n := j) (xs := trmCells (timL k (D1.l.take j))) rfl (by exact HQ14.out.ext (Ext.alloc _ _)) (by rw [World.size_alloc]; have := hx1314.le; omega) (.slice (some ⟨w14.heap.size, 0, none⟩) 1 1) 1 [.int .i64 pp, .string nm, .int .i64 (cc * k)] rfl (by exact Src.ofSlice (size := 3) _ Tryz.underlying25 ⟨w14.heap.size, 0, none⟩ 1 1 _ rfl (news_ok w14 _ _) (trm_one _ _ _)) (by unfold maxLen; omega) (by omega) ?_; rintro v7 w15 hq7 hg7 -; obtain ⟨a9, c9, rfl⟩ := hq7.slice)
        have hx1315 : Ext w13 w15 := (hx1314.alloc' _).below.grown hg7 (by rw [World.size_alloc]; have := hx1314.le; omega) (fun g e => by have := HQ14.out.block g e; omega)
        have HQ7 := Lib.hid (show Que w15 w13.heap.size 3 (.slice a9 (j + 1) c9) (j + 1) (trmCells (timL k (D1.l.take (j + 1)))) from by rw [HNX.out]; exact hq7)
        clear hq7 hg7 l14 c14 hx1414
        go_wp2_with fail
        go_roundg (n - (j + 1))
        case rel => exact ⟨j + 1, by omega, rfl, by go_num, HQ7.out, hx1315⟩
        case measure => omega
      · obtain rfl : j = n := by omega
        have HTO := Lib.hid (show TmOwn wr w13.heap.size (.slice a5 j c5) (timL k D1.l) from by
          have h1 := HQ.out
          rw [List.take_of_length_le (by rw [HLN.out]; exact Nat.le_refl _)] at h1
          have e : (timL k D1.l).length = j := by rw [← HLN.out]; simp [timL]
          unfold TmOwn
          rw [e]; exact h1)
        obtain ⟨D5, hD5v, hD5l, hD5⟩ := HTO.out.tmd (by unfold timL; rw [List.length_map]; have := HOK.out.len; omega) (trmOk_tim HO1.out HOK.out.coef hk.1 hk.2)
        have hvt := HVL.out wr hxwr HIC.out D5 hD5
        rw [← hD5v, hD5l, Tr.sumAt_tim, ← HXA.out] at hvt
        have hmb := mul_abs (a := k) (b := y0) (A := 128) (B := 562949953421312) (by omega) (by omega)
        have hw1 : IntKind.i64.wrap (k * y0) = k * y0 := IntWalk.i64_in _ (by omega)
        have hw1' : wrap64 (k * y0) = k * y0 := (IntWalk.i64_left _).symm.trans hw1
        clear hD5v hD5l hD5 hmb
        go_wp2_with fail
        go_at_call 24
        refine hvt.mono ?_
        rintro e w16 ⟨hx16, yt, et, rfl, -, hyt⟩
        have hxw16 := hxwr.trans hx16
        clear hvt
        by_cases ht0 : et = 0
        · obtain ⟨_, rfl⟩ := hyt ht0
          have d8 : (et == 0) = true := by simpa using ht0
          have d9 : (k * y0 == k * y0) = true := by simp
          clear ht0 hyt
          go_wp2_with fail
          go_ret
          exact ⟨rfl, hxw16⟩
        · have d8 : (et == 0) = false := by simpa using ht0
          clear hyt
          go_wp2_with fail
          go_ret
          exact ⟨rfl, hxw16⟩
  have d7 : (ez == 0) = true := by simpa using hc0
  obtain ⟨HKB, hyb2⟩ := HYB.out hb0
  obtain ⟨_, hyz2⟩ := HYZ.out hc0
  have hsb := HKB.small HCU.out.le
  rw [← hyb2] at hsb
  have hzz : yz = y0 + yb := by rw [hyz2, Tr.sumAt_append, ← HXA.out, hyb2]
  have hwz : IntKind.i64.wrap (y0 + yb) = yz := by rw [hzz]; exact IntWalk.i64_in _ (by omega)
  have d10 : (yz == yz) = true := by simp
  clear hb0 hc0 HKB hyb2 hyz2 hzz
  go_wp2_with fail
  go_loopg [23, 138] n (fun gg v23 v138 wr => ∃ j : Nat, j ≤ n ∧ gg = n - j ∧ v138 = .int .i64 j ∧ Que wr w13.heap.size 3 v23 j (trmCells (timL k (D1.l.take j))) ∧ Ext w13 wr)
  case atStart => exact ⟨0, by omega, rfl, rfl, Que.nil _ _ _, hx1313⟩
  case round =>
    obtain ⟨j, hj, rfl, rfl, hq, hxr⟩ := hrel
    obtain ⟨a5, c5, rfl⟩ := hq.slice
    have HQ := Lib.hid hq
    have hxwr := HX.out.1.trans hxr
    have hx1r := HX.out.2.trans hxr
    clear hq
    by_cases hlt : j < n
    · have hlt' : (j : Int) < (n : Int) := by omega
      have hjs : j < D1.s.n := by rw [← HN.out]; exact hlt
      obtain rfl : da = some ⟨D1.s.b, D1.s.o, none⟩ := by rw [HDA.out]; exact (HD1.out wr hxwr).ha (by omega)
      have hdb : ∀ w', Ext w w' → D1.s.b < w'.heap.size := fun w' x => (HD1.out w' x).hb (by omega)
      obtain ⟨pp, hpp⟩ : ∃ z, z = D1.p j := ⟨_, rfl⟩
      obtain ⟨nm, hnm⟩ : ∃ z, z = D1.nm j := ⟨_, rfl⟩
      obtain ⟨cc, hcc⟩ : ∃ z, z = D1.c j := ⟨_, rfl⟩
      have q0 : ∀ w', Ext w w' → w'.cell? ⟨D1.s.b, D1.s.o + j * 3, none⟩ = some (.int .i64 pp) := fun w' x => by rw [hpp]; exact (HD1.out w' x).c0 j hjs
      have q1 : ∀ w', Ext w w' → w'.cell? ⟨D1.s.b, D1.s.o + j * 3 + 1, none⟩ = some (.string nm) := fun w' x => by rw [hnm]; exact (HD1.out w' x).c1 j hjs
      have q2 : ∀ w', Ext w w' → w'.cell? ⟨D1.s.b, D1.s.o + j * 3 + 2, none⟩ = some (.int .i64 cc) := fun w' x => by rw [hcc]; exact (HD1.out w' x).c2 j hjs
      have hcb := HOK.out.coef (D1.at j) (TmD.mem.2 ⟨j, hjs, rfl⟩)
      have e22 : (D1.at j).2.2 = cc := hcc.symm
      rw [e22] at hcb
      have hmb := mul_abs (a := cc) (b := k) (A := 1048576) (B := 128) (by omega) (by omega)
      have hw1 : IntKind.i64.wrap (cc * k) = cc * k := IntWalk.i64_in _ (by omega)
      have HNX := Lib.hid (show trmCells (timL k (D1.l.take (j + 1))) = trmCells (timL k (D1.l.take j)) ++ [.int .i64 pp, .string nm, .int .i64 (cc * k)] from by
        rw [List.take_add_one, D1.get hjs]
        show trmCells (timL k (D1.l.take j ++ [D1.at j])) = _
        have : timL k (D1.l.take j ++ [D1.at j]) = timL k (D1.l.take j) ++ [(pp, nm, cc * k)] := by simp [timL, TmD.at, hpp, hnm, hcc]
        rw [this, trmCells_snoc])
      clear hpp hnm hcc e22 hmb
      go_upto_region 19 with fail
      refine boxed1 (w := wr) (G := fun x => Code.wp _ _ _ _ x) ?_
      intro w14 hx14a hs14 ⟨l14, c14, _, _⟩
      have hx1414 : Ext w14 w14 := Ext.refl _
      have hx1314 := hxr.trans hx14a
      have HQ14 := Lib.hid (HQ.out.ext hx14a)
      clear hs14 q0 q1 q2 hdb
      have hmn : min (1048576 : Int) cc = cc := by omega
      have hmx : max (-1048576 : Int) cc = cc := by omega
      have hw1' : wrap64 (cc * k) = cc * k := (IntWalk.i64_left _).symm.trans hw1
      go_upto_region 20 with (at_builtin; refine wpList_append_que _ rfl _ _ 25 25 rfl (base := w13.heap.size) (e := 62) (size := 3) i1 (.agg #[.int .i64 0, .string ⟨#[]⟩, .int .i64 0]) 32 Tryz.underlying25 hi1 hz0 hz1 hz2 rfl (v := .slice a5 j c5) (n := j) (xs := trmCells (timL k (D1.l.take j))) rfl (by exact HQ14.out.ext (Ext.alloc _ _)) (by rw [World.size_alloc]; have := hx1314.le; omega) (.slice (some ⟨w14.heap.size, 0, none⟩) 1 1) 1 [.int .i64 pp, .string nm, .int .i64 (cc * k)] rfl (by exact Src.ofSlice (size := 3) _ Tryz.underlying25 ⟨w14.heap.size, 0, none⟩ 1 1 _ rfl (news_ok w14 _ _) (trm_one _ _ _)) (by unfold maxLen; omega) (by omega) ?_; rintro v7 w15 hq7 hg7 -; obtain ⟨a9, c9, rfl⟩ := hq7.slice)
      have hx1315 : Ext w13 w15 := (hx1314.alloc' _).below.grown hg7 (by rw [World.size_alloc]; have := hx1314.le; omega) (fun g e => by have := HQ14.out.block g e; omega)
      have HQ7 := Lib.hid (show Que w15 w13.heap.size 3 (.slice a9 (j + 1) c9) (j + 1) (trmCells (timL k (D1.l.take (j + 1)))) from by rw [HNX.out]; exact hq7)
      clear hq7 hg7 l14 c14 hx1414
      go_wp2_with fail
      go_roundg (n - (j + 1))
      case rel => exact ⟨j + 1, by omega, rfl, by go_num, HQ7.out, hx1315⟩
      case measure => omega
    · obtain rfl : j = n := by omega
      have HTO := Lib.hid (show TmOwn wr w13.heap.size (.slice a5 j c5) (timL k D1.l) from by
        have h1 := HQ.out
        rw [List.take_of_length_le (by rw [HLN.out]; exact Nat.le_refl _)] at h1
        have e : (timL k D1.l).length = j := by rw [← HLN.out]; simp [timL]
        unfold TmOwn
        rw [e]; exact h1)
      obtain ⟨D5, hD5v, hD5l, hD5⟩ := HTO.out.tmd (by unfold timL; rw [List.length_map]; have := HOK.out.len; omega) (trmOk_tim HO1.out HOK.out.coef hk.1 hk.2)
      have hvt := HVL.out wr hxwr HIC.out D5 hD5
      rw [← hD5v, hD5l, Tr.sumAt_tim, ← HXA.out] at hvt
      have hmb := mul_abs (a := k) (b := y0) (A := 128) (B := 562949953421312) (by omega) (by omega)
      have hw1 : IntKind.i64.wrap (k * y0) = k * y0 := IntWalk.i64_in _ (by omega)
      have hw1' : wrap64 (k * y0) = k * y0 := (IntWalk.i64_left _).symm.trans hw1
      clear hD5v hD5l hD5 hmb
      go_wp2_with fail
      go_at_call 24
      refine hvt.mono ?_
      rintro e w16 ⟨hx16, yt, et, rfl, -, hyt⟩
      have hxw16 := hxwr.trans hx16
      clear hvt
      by_cases ht0 : et = 0
      · obtain ⟨_, rfl⟩ := hyt ht0
        have d8 : (et == 0) = true := by simpa using ht0
        have d9 : (k * y0 == k * y0) = true := by simp
        clear ht0 hyt
        go_wp2_with fail
        go_ret
        exact ⟨rfl, hxw16⟩
      · have d8 : (et == 0) = false := by simpa using ht0
        clear hyt
        go_wp2_with fail
        go_ret
        exact ⟨rfl, hxw16⟩
set_option maxRecDepth 100000 in
theorem lifted (os : Os) (started : os.Started) (H : Type) (enc : TypeId × Value → H) :
    ReturnsInHanded {} Tryz.checked os 6 .any (Rows.sumsOppositeSpec.pre6 enc Tryz.prog Tryz.f6 Rows.sumsOppositeRow.domain false) (Rows.sumsOppositeSpec.post enc Tryz.prog Tryz.f6 false true false false) := by
  refine returnsInHanded_of_change_sized (C := Tryz.checked) own14 started (by kernel_rfl) Tryz.func6
    (ChangeSpec.witness6 (enc := enc) (C := Tryz.checked) false ⟨#[], #[.agg #[.slice none 0 0], .slice none 0 0, .slice none 0 0, .slice none 0 0, .int .i8 0], []⟩ 8 (by kernel_rfl) (by kernel_rfl) (by kernel_rfl) (by kernel_rfl)) ?_
  intro W base args ds gs before hval0 hW _ hsz0 _
  have hsz1 : (DataW.weightsEach Tryz.prog (Tryz.f6.params.toList ++ Rows.sumsOppositeSpec.plain.varTypes Tryz.prog) (ds ++ gs)).all (· ≤ reachBytes) = true := hsz0
  clear hsz0
  have hval : ∀ (j : Nat) t v, Tryz.f6.params[j]? = some t → args[j]? = some v → Value.okWide Tryz.prog W .any base t v := hval0
  have hW' := hW
  obtain ⟨p, q, hA0, hV, rfl, hfz, hnd⟩ := hW
  have hA : DataW.TrodAll enc Tryz.prog W 0 (fun _ => true) true Tryz.f6.params.toList args.toList ds p := hA0
  rw [Tryz.params6] at hA hval hsz1
  obtain ⟨v0, vs0, d0, ds0, p0, q0, hargs, rfl, rfl, h0, r0⟩ := trodAll_cons hA
  obtain ⟨v1, vs1, d1, ds1, p1, q1, rfl, rfl, rfl, h1, r1⟩ := trodAll_cons r0
  obtain ⟨v2, vs2, d2, ds2, p2, q2, rfl, rfl, rfl, h2, r2⟩ := trodAll_cons r1
  obtain ⟨v3, vs3, d3, ds3, p3, q3, rfl, rfl, rfl, h3, r3⟩ := trodAll_cons r2
  obtain ⟨v4, vs4, d4, ds4, p4, q4, rfl, rfl, rfl, h4, r4⟩ := trodAll_cons r3
  obtain ⟨rfl, rfl, rfl⟩ := trodAll_nil r4
  obtain rfl : args = #[v0, v1, v2, v3, v4] := by cases args; simp_all
  obtain ⟨rfl, rfl⟩ := trodVars_none hV
  obtain ⟨T0, rfl, hT0⟩ := arg_trace (hval 0 24 v0 rfl rfl) h0 (small_of hsz1 (j := 0) rfl rfl)
  obtain ⟨C1, rfl, hC1⟩ := arg_nums (hval 1 28 v1 rfl rfl) h1 (small_of hsz1 (j := 1) rfl rfl)
  obtain ⟨D2, rfl, hD2⟩ := arg_terms (hval 2 25 v2 rfl rfl) h2 (small_of hsz1 (j := 2) rfl rfl)
  obtain ⟨D3, rfl, hD3⟩ := arg_terms (hval 3 25 v3 rfl rfl) h3 (small_of hsz1 (j := 3) rfl rfl)
  obtain ⟨a4, rfl, rfl, rfl, w4⟩ := open_int Tryz.underlying58 (hval 4 58 v4 rfl rfl) h4
  clear hA0 hval0 hsz1
  simp only [List.append_nil] at hW'
  have hl3 : ∀ x ∈ p3, x.block < W.heap.size := fun x hx => hW'.lt x (by simp [hx])
  have hl2 : ∀ x ∈ p2, x.block < W.heap.size := fun x hx => hW'.lt x (by simp [hx])
  have hl1 : ∀ x ∈ p1, x.block < W.heap.size := fun x hx => hW'.lt x (by simp [hx])
  have hl0 : ∀ x ∈ p0, x.block < W.heap.size := fun x hx => hW'.lt x (by simp [hx])
  refine (walk T0 C1 D2 D3 a4 W hT0 hC1 hD2 hD3 (i8_range w4)).mono fun e W' ⟨he, hg⟩ => ?_
  subst he
  exact ⟨_, rfl, post_ext1 (pa := (p0 ++ (p1 ++ (p2 ++ (p3 ++ ([] ++ [])))))) (pv := []) hW' (fun _ _ _ => (trodAll_cons_mk (shut_bool Tryz.underlying4 _) trodAll_mk0)) (trodAll_cons_mk (Below.trod laid14 (by kernel_rfl) (of_decide_eq_true (by kernel_rfl)) h0 hg.below hl0) (trodAll_cons_mk (Below.trod laid14 (by kernel_rfl) (of_decide_eq_true (by kernel_rfl)) h1 hg.below hl1) (trodAll_cons_mk (Below.trod laid14 (by kernel_rfl) (of_decide_eq_true (by kernel_rfl)) h2 hg.below hl2) (trodAll_cons_mk (Below.trod laid14 (by kernel_rfl) (of_decide_eq_true (by kernel_rfl)) h3 hg.below hl3) (trodAll_cons_mk (shut_int Tryz.underlying58 w4) trodAll_mk0))))) rfl hg⟩

theorem j0 : (Rows.sumsOppositeRow.wf (OpenSpec.ofChange Rows.sumsOppositeSpec)) = true := by kernel_rfl
theorem j1 : (laidOutB Tryz.pinned.checked.prog) = true := by kernel_rfl
theorem j2 : (mapsRowed Tryz.pinned.checked.prog) = true := by kernel_rfl
theorem j3 : (Tryz.f6.params.all (Tryz.pinned.checked.prog.readableRec ·)) = true := by kernel_rfl
theorem j4 : (namedTie Tryz.pinned.checked.prog Rows.sumsOppositeRow.named Rows.sumsOppositeSpec.vars) = true := by kernel_rfl
theorem j5 : (Rows.sumsOppositeRow.stops == []) = true := by kernel_rfl
theorem j6 : (Tryz.pinned.checked.prog.stops == []) = true := by kernel_rfl
theorem j7 : (Rows.sumsOppositeRow.knobs == []) = true := by kernel_rfl
theorem j8 : (Tryz.pinned.checked.prog.stopKnobs == []) = true := by kernel_rfl
theorem j9 : (Rows.sumsOppositeRow.inPlace == Tryz.pinned.checked.prog.inPlace 6) = true := by kernel_rfl
theorem j10 : (Rows.sumsOppositeRow.unfollowed == Tryz.pinned.checked.prog.unfollowed 6) = true := by kernel_rfl
theorem j11 : (Rows.sumsOppositeRow.recurses == Tryz.pinned.checked.prog.recurses 6) = true := by kernel_rfl
theorem j12 : (Rows.sumsOppositeRow.named == Tryz.pinned.checked.prog.varsNamed 6) = true := by kernel_rfl
theorem j13 : (Rows.sumsOppositeRow.maps == (Tryz.f6.params.toList ++ Rows.sumsOppositeSpec.plain.varTypes Tryz.pinned.checked.prog).any (Tryz.pinned.checked.prog.mapsRec ·)) = true := by kernel_rfl
theorem j14 : (Rows.sumsOppositeRow.ifaces == (Tryz.f6.params.toList ++ Rows.sumsOppositeSpec.plain.varTypes Tryz.pinned.checked.prog).any (Tryz.pinned.checked.prog.ifacesRec ·)) = true := by kernel_rfl
theorem j15 : (Rows.sumsOppositeRow.mapsOut == Tryz.pinned.checked.prog.mapsAmong Tryz.f6.resultTypes.toList) = true := by kernel_rfl
theorem j16 : (Rows.sumsOppositeRow.loops == (Tryz.f6.params.toList ++ Rows.sumsOppositeSpec.plain.varTypes Tryz.pinned.checked.prog).any (Tryz.pinned.checked.prog.loopsFrom ·)) = true := by kernel_rfl
theorem j17 : (Rows.sumsOppositeRow.wideKeys == (Tryz.f6.params.toList ++ Rows.sumsOppositeSpec.plain.varTypes Tryz.pinned.checked.prog ++ Tryz.f6.resultTypes.toList).any (Tryz.pinned.checked.prog.wideKeysFrom ·)) = true := by kernel_rfl
theorem j18 : (Rows.sumsOppositeSpec.vars.all (Tryz.pinned.checked.prog.varReadable ·)) = true := by kernel_rfl
theorem j19 : (Tryz.f6.resultTypes.all (fun t => Tryz.pinned.checked.prog.readableRec t && decide (t < Tryz.pinned.checked.prog.types.size))) = true := by kernel_rfl
theorem j20 : (Rows.sumsOppositeRow.ifacesOut == Tryz.f6.resultTypes.toList.any (Tryz.pinned.checked.prog.ifacesRec ·)) = true := by kernel_rfl
theorem j21 : (Rows.sumsOppositeRow.loopsOut == Tryz.f6.resultTypes.toList.any (Tryz.pinned.checked.prog.loopsFrom ·)) = true := by kernel_rfl
theorem j22 : (Rows.sumsOppositeRow.plainKeys == Tryz.pinned.checked.prog.plainKeys) = true := by kernel_rfl
theorem j23 : (Rows.sumsOppositeRow.shortTexts.isNone) = true := by kernel_rfl
theorem j24 : (Tryz.pinned.checked.prog.stopsHeard) = true := by kernel_rfl
theorem j25 : (Tryz.pinned.checked.prog.mayEnter) = true := by kernel_rfl
theorem j26 : (Rows.sumsOppositeRow.lifted == Tryz.pinned.checked.prog.liftsFinal) = true := by kernel_rfl
theorem j27 : (Tryz.pinned.checked.prog.make == some Rows.sumsOppositeRow.make) = true := by kernel_rfl
theorem j28 : (Rows.sumsOppositeRow.kinds == (if Rows.sumsOppositeRow.domain.isEmpty then [] else Tryz.f6.params.toList.map fun t => match Tryz.pinned.checked.prog.underlying t with | some (.int k) => some k | _ => none)) = true := by kernel_rfl
theorem j29 : (Rows.sumsOppositeRow.pinned == Rows.sumsOppositeRow.pinnedBy) = true := by kernel_rfl
theorem j30 : (Rows.sumsOppositeRow.veiled == (Tryz.f6.params.toList ++ Rows.sumsOppositeSpec.plain.varTypes Tryz.pinned.checked.prog ++ Tryz.f6.resultTypes.toList).any (Tryz.pinned.checked.prog.veiledRec ·)) = true := by kernel_rfl
theorem j31 : (Rows.sumsOppositeRow.veiledFits Tryz.pinned.checked.prog Tryz.f6.params.toList (Tryz.f6.params.toList ++ Rows.sumsOppositeSpec.plain.varTypes Tryz.pinned.checked.prog ++ Tryz.f6.resultTypes.toList)) = true := by kernel_rfl
set_option maxRecDepth 100000 in
theorem closed : joinedFacts Tryz.pinned.checked.prog 6 Tryz.f6 Rows.sumsOppositeSpec Rows.sumsOppositeRow = true := by
  unfold joinedFacts
  rw [j0, j1, j2, j3, j4, j5, j6, j7, j8, j9, j10, j11, j12, j13, j14, j15, j16, j17, j18, j19, j20, j21, j22, j23, j24, j25, j26, j27, j29, j30, j31]
  simp only [Bool.true_and, Bool.and_true]
  first | exact j28 | kernel_rfl
theorem over : Rows.sumsOppositeRow.holds Tryz.pinned (OpenSpec.ofChange Rows.sumsOppositeSpec) :=
  OpenClaim.holds_of_wide 6 Tryz.f6 rfl rfl rfl rfl rfl rfl rfl ⟨rfl, rfl, rfl, rfl, rfl⟩ rfl rfl rfl rfl rfl (by kernel_rfl) Tryz.func6 closed
    (of_decide_eq_true (by kernel_rfl)) (by unfold Func.isWrapper; first | (rw [if_pos (by decide +kernel)]; kernel_rfl) | (rw [if_neg (by decide +kernel)]; exact ⟨rfl, rfl⟩))
    (fun os started H enc _ => lifted os started H enc)

/-- ████ THE STATEMENT ████ -/
theorem proved : Rows.SumsOppositeSaid :=
  over
#print axioms proved
end Go.Proofs.YtnknkkmdbnaglaaGreat.sumsOpposite

