/-
  PROVED HERE: 'SumsSteps' returns true for every trace, list of terms and number, in every memory: no condition.
  (The row's step follows the shell that the kit's program wrote for 'LamportSteps'.)
-/
import Derived.Test.YtnknkkmdbnaglaaGreatRows
import Derived.WalkKit
import Derived.Test.YtnknkkmdbnaglaaGreatLm
import Derived.Test.YtnknkkmdbnaglaaGreatLk
import Derived.Test.YtnknkkmdbnaglaaGreatLn
import Derived.Test.YtnknkkmdbnaglaaGreatLu
import Derived.Test.YtnknkkmdbnaglaaGreatLa
namespace Go.Proofs.YtnknkkmdbnaglaaGreat.sumsSteps
open Go.ChangeShapes Go.WideShapes Go.ChangeAt Go.RowKit Go.Proofs.YtnknkkmdbnaglaaGreat
set_option linter.unusedVariables false
def TruePost (w : World) (e : Ending) (w' : World) : Prop := e = .returned (.bool true) ∧ Ext w w'
theorem nofault {T : Tr} {ts : List Trm} {c : Int} (h : T.SumOk ts) (hc : T.SumFault ts c) : c = 0 := hc.uniq (.inr (.inr (.inr (.inr (.inr ⟨h, rfl⟩)))))
set_option maxRecDepth 100000 in
set_option maxHeartbeats 8000000 in
theorem walk (T : TM) (D : TmD) (k : Int) (w : World) (hT : T.At w) (hD : D.At w) :
    Calls Tryz.prog 14 #[T.val, .slice D.s.a D.s.n D.s.c, .int .i64 k] w (TruePost w) := by
 have HFEW := Lib.hid (fun W (h : Ext w W) => few39_any W T (hT.ext h))
 have HFLT := Lib.hid (fun W (h : Ext w W) => rflt39_any W T (hT.ext h) D (hD.ext h))
 have HUNI := Lib.hid (fun W (h : Ext w W) => suni_any W T (hT.ext h) D (hD.ext h))
 have HMIN := Lib.hid (fun W (h : Ext w W) => smin_any W T (hT.ext h) D (hD.ext h))
 have HMAX := Lib.hid (fun W (h : Ext w W) => smax_any W T (hT.ext h) D (hD.ext h))
 have HEXA := Lib.hid (fun W (h : Ext w W) => sxa_any W T (hT.ext h) D (hD.ext h) k)
 have HPOS := Lib.hid (fun W (h : Ext w W) (hu : UnitW (T.wfn D.l) (tott T.en T.n)) => sposs_any W T (hT.ext h) D (hD.ext h) 9 k (EqU T (T.sumAt D.l fun _ => 0) (T.wfn D.l) k) (fun hO wa wg wo wc W' hS => sequ_any W' (sumOf T D wa wg wo wc) hS k hu) (fun B m h kd a l c er w1 b v0 v1 v2 v3 v4 v5 v6 v7 hb hq => EqU.put8 B m h kd a l c er w1 b v0 v1 v2 v3 v4 v5 v6 v7 hb hq))
 have HRVL := Lib.hid (fun W (h : Ext w W) (hO : T.SumOk D.l) g c (hr : IntRow W g T.n (natV c)) (hc : T.toTr.CutOk c) (hk : (T.sumAt D.l fun _ => 0) + T.toTr.atC (T.wfn D.l) c = k) => (show Calls Tryz.prog 31 #[T.val, .slice (some ⟨g, 0, none⟩) T.n T.n, .slice D.s.a D.s.n D.s.c] W (fun e w' => e = .returned (.int .i64 k) ∧ Ext W w') from by
  have h1 := rval39_any W T (hT.ext h) D (hD.ext h) hO.v hO.known hO.coef hO.len (some ⟨g, 0, none⟩) g 0 T.n c hr.cut hc.le
  rw [Tr.sumAt_atC hO.known hc.le, hk] at h1; exact h1))
 have HRC := Lib.hid (fun W (h : Ext w W) (hV : T.toTr.Valid) g c (hr : IntRow W g T.n (natV c)) (hc : T.toTr.CutOk c) => (show Calls Tryz.prog 30 #[T.val, .slice (some ⟨g, 0, none⟩) T.n T.n] W (fun e w' => e = .returned (.bool true) ∧ Ext W w') from
  (rcut39_any W T (hT.ext h) hV (some ⟨g, 0, none⟩) g 0 T.n T.n (natV c) (hr.num (by have := hV.n8; omega))).mono fun e w' ⟨b, he, hb, hx⟩ => ⟨by rw [he, hb.2 (cut_isCut hV hc)], hx⟩))
 have hdn := hD.hn
 obtain ⟨ta, hta⟩ : ∃ z, z = T.a := ⟨_, rfl⟩
 obtain ⟨da, hda⟩ : ∃ z, z = D.s.a := ⟨_, rfl⟩
 obtain ⟨n, hn⟩ : ∃ n, n = D.s.n := ⟨_, rfl⟩
 simp only [TM.val] at HFEW HFLT HUNI HMIN HMAX HEXA HPOS HRVL HRC ⊢
 rw [← hta] at HFEW HFLT HUNI HMIN HMAX HEXA HPOS HRVL HRC
 rw [← hda, ← hn] at HFLT HUNI HMIN HMAX HEXA HPOS HRVL
 rw [← hta, ← hda, ← hn]
 rw [← hn] at hdn
 clear hT hD hta hda hn
 go_enter Tryz.func14, Tryz.ntmps14
 go_upto_region 1 with fail
 refine boxed1 (w := w) (G := fun x => Code.wp _ _ _ _ x) ?_
 intro w1 hx1 hs1 ⟨l0, c0, _, _⟩
 have hx11 : Ext w1 w1 := Ext.refl _
 clear hs1
 go_wp2_with fail
 go_at_call 15
 refine (awake39_any w1).mono ?_
 rintro e w2 ⟨rfl, hx2⟩
 have hxw2 := hx1.trans hx2
 go_wp2_with fail
 go_at_call 16
 refine (HFEW.out w2 hxw2).mono ?_
 rintro e w3 ⟨hx3, bf, rfl, -⟩
 have hxw3 := hxw2.trans hx3
 have hx13 := hx2.trans hx3
 cases bf with
 | false =>
  go_wp2_with fail
  go_ret
  exact ⟨rfl, hxw3⟩
 | true =>
 by_cases h70 : 70 < n
 ·have d1 : decide ((70 : Int) < (n : Int)) = true := decide_eq_true (by omega)
  have d1' : decide (70 < n) = true := decide_eq_true h70
  go_wp2_with fail
  go_ret
  exact ⟨rfl, hxw3⟩
 have d1 : decide ((70 : Int) < (n : Int)) = false := decide_eq_false (by omega)
 have d1' : decide (70 < n) = false := decide_eq_false h70
 go_wp2_with fail
 go_at_call 19
 refine (HFLT.out w3 hxw3).mono ?_
 rintro e w4 ⟨hx4, cf, hcf, rfl⟩
 have hxw4 := hxw3.trans hx4
 have hx14 := hx13.trans hx4
 have HCF := Lib.hid hcf
 clear hcf
 by_cases hz : cf = 0
 case neg =>
  have d3 : (cf == 0) = false := by simpa using hz
  go_wp2_with fail
  go_ret
  exact ⟨rfl, hxw4⟩
 subst hz
 have HOK := Lib.hid HCF.out.ok
 have HV := Lib.hid HOK.out.v
 clear hx2 hx3 hx4 hx13 hxw2 hxw3 d1 d1'
 obtain ⟨r, hr⟩ : ∃ r, r = anyB (fun i => decide (1 < iabs (T.wfn D.l i))) (tott T.en T.n) := ⟨_, rfl⟩
 have HRR := Lib.hid (show (!r) = true ↔ UnitW (T.wfn D.l) (tott T.en T.n) from by rw [hr]; exact unitW_iff)
 go_wp2_with fail
 go_at_call 26
 refine (HUNI.out w4 hxw4).mono ?_
 rintro e w5 ⟨hx5, ⟨c, hc, h0, _⟩ | ⟨_, hre⟩⟩
 ·exact absurd (nofault HOK.out hc) h0
 rw [← hr] at hre
 subst hre
 have hxw5 := hxw4.trans hx5
 have hx15 := hx14.trans hx5
 clear hr hx5
 go_wp2_with fail
 go_at_call 18
 refine (HMIN.out w5 hxw5).mono ?_
 rintro e w6 ⟨hx6, ⟨c, hc, h0, _⟩ | ⟨_, v1, y1, g1, rfl, -, -, hb1⟩⟩
 ·exact absurd (nofault HOK.out hc) h0
 have hxw6 := hxw5.trans hx6
 have hx16 := hx15.trans hx6
 have HB1 := Lib.hid hb1
 clear hb1 hx6
 go_wp2_with fail
 go_at_call 17
 refine (HMAX.out w6 hxw6).mono ?_
 rintro e w7 ⟨hx7, ⟨c, hc, h0, _⟩ | ⟨_, v2, y2, g2, rfl, -, -, hb2⟩⟩
 ·exact absurd (nofault HOK.out hc) h0
 have hxw7 := hxw6.trans hx7
 have hx17 := hx16.trans hx7
 have HB2 := Lib.hid hb2
 obtain ⟨low, hlow⟩ : ∃ z, z = - v1 := ⟨_, rfl⟩
 rw [← hlow]
 have HLO := Lib.hid (show low = (T.sumAt D.l fun _ => 0) + T.toTr.atC (T.wfn D.l) y1 ∧ ∀ d, T.toTr.CutOk d → low ≤ (T.sumAt D.l fun _ => 0) + T.toTr.atC (T.wfn D.l) d from by
  have h3 := HB1.out.val
  rw [Tr.atC_neg'] at h3
  exact ⟨by omega, fun d hd => by have := HB1.out.below hd; omega⟩)
 have HHI := Lib.hid (show v2 = (T.sumAt D.l fun _ => 0) + T.toTr.atC (T.wfn D.l) y2 ∧ ∀ d, T.toTr.CutOk d → (T.sumAt D.l fun _ => 0) + T.toTr.atC (T.wfn D.l) d ≤ v2 from ⟨HB2.out.val, fun d hd => HB2.out.above hd⟩)
 clear hb2 hx7 hlow hx14 hx15 hx16 hxw4 hxw5 hxw6
 cases r with
 | true =>
  go_wp2_with fail
  go_ret
  exact ⟨rfl, hxw7⟩
 | false =>
 have HU := Lib.hid (HRR.out.1 rfl)
 by_cases h1 : k < low
 ·have d1 : decide (low ≤ k) = false := decide_eq_false (by omega)
  have HK := Lib.hid h1
  have HALL := Lib.hid (fun d (hd : T.toTr.CutOk d) => (show k < (T.sumAt D.l fun _ => 0) + T.toTr.atC (T.wfn D.l) d from by have := HLO.out.2 d hd; have := HK.out; omega))
  go_wp2_with fail
  go_at_call 72
  refine (HEXA.out w7 hxw7).mono ?_
  rintro e w8 ⟨hx8, hex⟩
  have hx18 := hx17.trans hx8
  have hxw8 := hxw7.trans hx8
  rcases hex with ⟨c, hc, h0, _⟩ | ⟨_, hn, _⟩ | ⟨_, _, ⟨c, g, rfl, hr, hg, hc, hk⟩ | ⟨rfl, _⟩⟩
  ·exact absurd (nofault HOK.out hc) h0
  ·exact absurd HU.out hn
  ·have := HALL.out c hc; omega
  clear hx8 h1
  go_wp2_with fail
  go_at_call 71
  refine (HPOS.out w8 hxw8 HU.out).mono ?_
  intro e w9 hp
  obtain ⟨hx9, g, c, v, rfl, hc, hv, hmin⟩ := poss_lo hp HOK.out HALL.out
  have hxw9 := hxw8.trans hx9
  have hx19 := hx18.trans hx9
  obtain rfl : v = low := by
   have h3 := HLO.out.2 c hc
   have h4 := hmin y1 HB1.out.cut
   have h5 := HLO.out.1
   omega
  have dv : (v == v) = true := by simp
  have d2 : decide (k < v) = true := decide_eq_true HK.out
  clear hp hc hv hmin hx9
  go_upto_region 15 with fail
  refine boxed1 (w := w9) (G := fun x => Code.wp _ _ _ _ x) ?_
  intro w10 hx10 hs10 ⟨l10, c10, _, _⟩
  have hx1010 : Ext w10 w10 := Ext.refl _
  have hxw10 := hxw9.trans hx10
  clear hs10
  go_wp2_with fail
  go_ret
  exact ⟨rfl, hxw10⟩
 have d1 : decide (low ≤ k) = true := decide_eq_true (by omega)
 by_cases h2 : v2 < k
 ·have d2 : decide (k ≤ v2) = false := decide_eq_false (by omega)
  have HK := Lib.hid (And.intro h1 h2)
  have HALL := Lib.hid (fun d (hd : T.toTr.CutOk d) => (show (T.sumAt D.l fun _ => 0) + T.toTr.atC (T.wfn D.l) d < k from by have := HHI.out.2 d hd; have := HK.out.2; omega))
  have HLV := Lib.hid (show low ≤ v2 from by have := HHI.out.2 y1 HB1.out.cut; have := HLO.out.1; omega)
  go_wp2_with fail
  go_at_call 72
  refine (HEXA.out w7 hxw7).mono ?_
  rintro e w8 ⟨hx8, hex⟩
  have hx18 := hx17.trans hx8
  have hxw8 := hxw7.trans hx8
  rcases hex with ⟨c, hc, h0, _⟩ | ⟨_, hn, _⟩ | ⟨_, _, ⟨c, g, rfl, hr, hg, hc, hk⟩ | ⟨rfl, _⟩⟩
  ·exact absurd (nofault HOK.out hc) h0
  ·exact absurd HU.out hn
  ·have := HALL.out c hc; omega
  clear hx8 h1 h2
  go_wp2_with fail
  go_at_call 71
  refine (HPOS.out w8 hxw8 HU.out).mono ?_
  intro e w9 hp
  obtain ⟨hx9, g, c, v, rfl, hc, hv, hmin⟩ := poss_hi hp HOK.out HALL.out
  have hxw9 := hxw8.trans hx9
  have hx19 := hx18.trans hx9
  obtain rfl : v = v2 := by
   have h3 := HHI.out.2 c hc
   have h4 := hmin y2 HB2.out.cut
   have h5 := HHI.out.1
   omega
  have dv : (v == v) = true := by simp
  have d4 : decide (k < low) = false := decide_eq_false (by have := HK.out.1; omega)
  have d3 : decide (v < k) = true := decide_eq_true HK.out.2
  have dl : (v == low) = true ∨ (v == low) = false := by cases (v == low) <;> simp
  clear hp hc hv hmin hx9
  go_upto_region 15 with fail
  refine boxed1 (w := w9) (G := fun x => Code.wp _ _ _ _ x) ?_
  intro w10 hx10 hs10 ⟨l10, c10, _, _⟩
  have hx1010 : Ext w10 w10 := Ext.refl _
  have hxw10 := hxw9.trans hx10
  clear hs10
  rcases dl with dl | dl
  ·skip
   go_wp2_with fail
   go_ret
   exact ⟨rfl, hxw10⟩
  ·skip
   go_wp2_with fail
   go_ret
   exact ⟨rfl, hxw10⟩
 have d2 : decide (k ≤ v2) = true := decide_eq_true (by omega)
 have HK := Lib.hid (And.intro h1 h2)
 go_wp2_with fail
 go_at_call 72
 refine (HEXA.out w7 hxw7).mono ?_
 rintro e w8 ⟨hx8, hex⟩
 have hx18 := hx17.trans hx8
 have hxw8 := hxw7.trans hx8
 rcases hex with ⟨c, hc, h0, _⟩ | ⟨_, hn, _⟩ | ⟨_, _, ⟨c, g, rfl, hr, hg, hc, hk⟩ | ⟨rfl, ho⟩⟩
 ·exact absurd (nofault HOK.out hc) h0
 ·exact absurd HU.out hn
 case inr.inr.inr =>
  have h3 := HLO.out.1
  have h4 := HHI.out.1
  rcases ho with ho | ho
  ·have := ho y1 HB1.out.cut; omega
  ·have := ho y2 HB2.out.cut; omega
 have HEX := Lib.hid (And.intro hr (And.intro hc hk))
 clear hr hg hc hk hx8 h1 h2
 go_wp2_with fail
 go_at_call 71
 refine (HPOS.out w8 hxw8 HU.out).mono ?_
 intro e w9 hp
 obtain ⟨hx9, ga, ca, rfl, hra, hca, hka⟩ := poss_in hp HOK.out HB1.out.cut (by have := HLO.out.1; have := HK.out.1; omega) HB2.out.cut (by have := HHI.out.1; have := HK.out.2; omega)
 have hxw9 := hxw8.trans hx9
 have hx19 := hx18.trans hx9
 have HPA := Lib.hid (And.intro hra (And.intro hca hka))
 have HX89 := Lib.hid hx9
 clear hp hra hca hka hx9
 go_upto_region 15 with fail
 refine boxed1 (w := w9) (G := fun x => Code.wp _ _ _ _ x) ?_
 intro w10 hx10 hs10 ⟨l10, c10, _, _⟩
 have hx1010 : Ext w10 w10 := Ext.refl _
 have hxw10 := hxw9.trans hx10
 have hx110 := hx19.trans hx10
 have HE10 := Lib.hid (HEX.out.1.ext (HX89.out.trans hx10))
 have HP10 := Lib.hid (HPA.out.1.ext hx10)
 have dk : (k == k) = true := by simp
 clear hs10 hx19 hxw9
 go_wp2_with fail
 go_at_call 30
 refine (HRC.out w10 hxw10 HV.out g c HE10.out HEX.out.2.1).mono ?_
 rintro e w11 ⟨rfl, hx11a⟩
 have hxw11 := hxw10.trans hx11a
 have hx111 := hx110.trans hx11a
 have hx1011 := hx11a
 go_wp2_with fail
 go_at_call 30
 refine (HRC.out w11 hxw11 HV.out ga ca (HP10.out.ext hx1011) HPA.out.2.1).mono ?_
 rintro e w12 ⟨rfl, hx12a⟩
 have hxw12 := hxw11.trans hx12a
 have hx112 := hx111.trans hx12a
 have hx1012 := hx1011.trans hx12a
 go_wp2_with fail
 go_at_call 31
 refine (HRVL.out w12 hxw12 HOK.out g c (HE10.out.ext hx1012) HEX.out.2.1 HEX.out.2.2).mono ?_
 rintro e w13 ⟨rfl, hx13a⟩
 have hxw13 := hxw12.trans hx13a
 have hx113 := hx112.trans hx13a
 have hx1013 := hx1012.trans hx13a
 go_wp2_with fail
 go_at_call 31
 refine (HRVL.out w13 hxw13 HOK.out ga ca (HP10.out.ext hx1013) HPA.out.2.1 HPA.out.2.2).mono ?_
 rintro e w14 ⟨rfl, hx14a⟩
 have hxw14 := hxw13.trans hx14a
 go_wp2_with fail
 go_ret
 exact ⟨rfl, hxw14⟩
set_option maxRecDepth 100000 in
theorem lifted (os : Os) (started : os.Started) (H : Type) (enc : TypeId × Value → H) :
    ReturnsInHanded {} Tryz.checked os 14 .any (Rows.sumsStepsSpec.pre6 enc Tryz.prog Tryz.f14 Rows.sumsStepsRow.domain false) (Rows.sumsStepsSpec.post enc Tryz.prog Tryz.f14 false true false false) := by
 refine returnsInHanded_of_change_sized (C := Tryz.checked) own14 started (by kernel_rfl) Tryz.func14
  (ChangeSpec.witness6 (enc := enc) (C := Tryz.checked) false ⟨#[], #[.agg #[.slice none 0 0], .slice none 0 0, .int .i64 0], []⟩ 8 (by kernel_rfl) (by kernel_rfl) (by kernel_rfl) (by kernel_rfl)) ?_
 intro W base args ds gs before hval0 hW _ hsz0 _
 have hsz1 : (DataW.weightsEach Tryz.prog (Tryz.f14.params.toList ++ Rows.sumsStepsSpec.plain.varTypes Tryz.prog) (ds ++ gs)).all (· ≤ reachBytes) = true := hsz0
 clear hsz0
 have hval : ∀ (j : Nat) t v, Tryz.f14.params[j]? = some t → args[j]? = some v → Value.okWide Tryz.prog W .any base t v := hval0
 have hW' := hW
 obtain ⟨p, q, hA0, hV, rfl, hfz, hnd⟩ := hW
 have hA : DataW.TrodAll enc Tryz.prog W 0 (fun _ => true) true Tryz.f14.params.toList args.toList ds p := hA0
 rw [Tryz.params14] at hA hval hsz1
 obtain ⟨v0, vs0, d0, ds0, p0, q0, hargs, rfl, rfl, h0, r0⟩ := trodAll_cons hA
 obtain ⟨v1, vs1, d1, ds1, p1, q1, rfl, rfl, rfl, h1, r1⟩ := trodAll_cons r0
 obtain ⟨v2, vs2, d2, ds2, p2, q2, rfl, rfl, rfl, h2, r2⟩ := trodAll_cons r1
 obtain ⟨rfl, rfl, rfl⟩ := trodAll_nil r2
 obtain rfl : args = #[v0, v1, v2] := by cases args; simp_all
 obtain ⟨rfl, rfl⟩ := trodVars_none hV
 obtain ⟨T0, rfl, hT0⟩ := arg_trace (hval 0 24 v0 rfl rfl) h0 (small_of hsz1 (j := 0) rfl rfl)
 obtain ⟨D1, rfl, hD1⟩ := arg_terms (hval 1 25 v1 rfl rfl) h1 (small_of hsz1 (j := 1) rfl rfl)
 obtain ⟨a2, rfl, rfl, rfl, w2⟩ := open_int Tryz.underlying3 (hval 2 3 v2 rfl rfl) h2
 clear hA0 hval0 hsz1
 simp only [List.append_nil] at hW'
 have hl1 : ∀ x ∈ p1, x.block < W.heap.size := fun x hx => hW'.lt x (by simp [hx])
 have hl0 : ∀ x ∈ p0, x.block < W.heap.size := fun x hx => hW'.lt x (by simp [hx])
 refine (walk T0 D1 a2 W hT0 hD1).mono fun e W' ⟨he, hg⟩ => ?_
 subst he
 exact ⟨_, rfl, post_ext1 (pa := (p0 ++ (p1 ++ ([] ++ [])))) (pv := []) hW' (fun _ _ _ => (trodAll_cons_mk (shut_bool Tryz.underlying4 _) trodAll_mk0)) (trodAll_cons_mk (Below.trod laid14 (by kernel_rfl) (of_decide_eq_true (by kernel_rfl)) h0 hg.below hl0) (trodAll_cons_mk (Below.trod laid14 (by kernel_rfl) (of_decide_eq_true (by kernel_rfl)) h1 hg.below hl1) (trodAll_cons_mk (shut_int Tryz.underlying3 w2) trodAll_mk0))) rfl hg⟩
theorem j0 : (Rows.sumsStepsRow.wf (OpenSpec.ofChange Rows.sumsStepsSpec)) = true := by kernel_rfl
theorem j1 : (laidOutB Tryz.pinned.checked.prog) = true := by kernel_rfl
theorem j2 : (mapsRowed Tryz.pinned.checked.prog) = true := by kernel_rfl
theorem j3 : (Tryz.f14.params.all (Tryz.pinned.checked.prog.readableRec ·)) = true := by kernel_rfl
theorem j4 : (namedTie Tryz.pinned.checked.prog Rows.sumsStepsRow.named Rows.sumsStepsSpec.vars) = true := by kernel_rfl
theorem j5 : (Rows.sumsStepsRow.stops == []) = true := by kernel_rfl
theorem j6 : (Tryz.pinned.checked.prog.stops == []) = true := by kernel_rfl
theorem j7 : (Rows.sumsStepsRow.knobs == []) = true := by kernel_rfl
theorem j8 : (Tryz.pinned.checked.prog.stopKnobs == []) = true := by kernel_rfl
theorem j9 : (Rows.sumsStepsRow.inPlace == Tryz.pinned.checked.prog.inPlace 14) = true := by kernel_rfl
theorem j10 : (Rows.sumsStepsRow.unfollowed == Tryz.pinned.checked.prog.unfollowed 14) = true := by kernel_rfl
theorem j11 : (Rows.sumsStepsRow.recurses == Tryz.pinned.checked.prog.recurses 14) = true := by kernel_rfl
theorem j12 : (Rows.sumsStepsRow.named == Tryz.pinned.checked.prog.varsNamed 14) = true := by kernel_rfl
theorem j13 : (Rows.sumsStepsRow.maps == (Tryz.f14.params.toList ++ Rows.sumsStepsSpec.plain.varTypes Tryz.pinned.checked.prog).any (Tryz.pinned.checked.prog.mapsRec ·)) = true := by kernel_rfl
theorem j14 : (Rows.sumsStepsRow.ifaces == (Tryz.f14.params.toList ++ Rows.sumsStepsSpec.plain.varTypes Tryz.pinned.checked.prog).any (Tryz.pinned.checked.prog.ifacesRec ·)) = true := by kernel_rfl
theorem j15 : (Rows.sumsStepsRow.mapsOut == Tryz.pinned.checked.prog.mapsAmong Tryz.f14.resultTypes.toList) = true := by kernel_rfl
theorem j16 : (Rows.sumsStepsRow.loops == (Tryz.f14.params.toList ++ Rows.sumsStepsSpec.plain.varTypes Tryz.pinned.checked.prog).any (Tryz.pinned.checked.prog.loopsFrom ·)) = true := by kernel_rfl
theorem j17 : (Rows.sumsStepsRow.wideKeys == (Tryz.f14.params.toList ++ Rows.sumsStepsSpec.plain.varTypes Tryz.pinned.checked.prog ++ Tryz.f14.resultTypes.toList).any (Tryz.pinned.checked.prog.wideKeysFrom ·)) = true := by kernel_rfl
theorem j18 : (Rows.sumsStepsSpec.vars.all (Tryz.pinned.checked.prog.varReadable ·)) = true := by kernel_rfl
theorem j19 : (Tryz.f14.resultTypes.all (fun t => Tryz.pinned.checked.prog.readableRec t && decide (t < Tryz.pinned.checked.prog.types.size))) = true := by kernel_rfl
theorem j20 : (Rows.sumsStepsRow.ifacesOut == Tryz.f14.resultTypes.toList.any (Tryz.pinned.checked.prog.ifacesRec ·)) = true := by kernel_rfl
theorem j21 : (Rows.sumsStepsRow.loopsOut == Tryz.f14.resultTypes.toList.any (Tryz.pinned.checked.prog.loopsFrom ·)) = true := by kernel_rfl
theorem j22 : (Rows.sumsStepsRow.plainKeys == Tryz.pinned.checked.prog.plainKeys) = true := by kernel_rfl
theorem j23 : (Rows.sumsStepsRow.shortTexts.isNone) = true := by kernel_rfl
theorem j24 : (Tryz.pinned.checked.prog.stopsHeard) = true := by kernel_rfl
theorem j25 : (Tryz.pinned.checked.prog.mayEnter) = true := by kernel_rfl
theorem j26 : (Rows.sumsStepsRow.lifted == Tryz.pinned.checked.prog.liftsFinal) = true := by kernel_rfl
theorem j27 : (Tryz.pinned.checked.prog.make == some Rows.sumsStepsRow.make) = true := by kernel_rfl
theorem j28 : (Rows.sumsStepsRow.kinds == (if Rows.sumsStepsRow.domain.isEmpty then [] else Tryz.f14.params.toList.map fun t => match Tryz.pinned.checked.prog.underlying t with | some (.int k) => some k | _ => none)) = true := by kernel_rfl
theorem j29 : (Rows.sumsStepsRow.pinned == Rows.sumsStepsRow.pinnedBy) = true := by kernel_rfl
theorem j30 : (Rows.sumsStepsRow.veiled == (Tryz.f14.params.toList ++ Rows.sumsStepsSpec.plain.varTypes Tryz.pinned.checked.prog ++ Tryz.f14.resultTypes.toList).any (Tryz.pinned.checked.prog.veiledRec ·)) = true := by kernel_rfl
theorem j31 : (Rows.sumsStepsRow.veiledFits Tryz.pinned.checked.prog Tryz.f14.params.toList (Tryz.f14.params.toList ++ Rows.sumsStepsSpec.plain.varTypes Tryz.pinned.checked.prog ++ Tryz.f14.resultTypes.toList)) = true := by kernel_rfl
set_option maxRecDepth 100000 in
theorem closed : joinedFacts Tryz.pinned.checked.prog 14 Tryz.f14 Rows.sumsStepsSpec Rows.sumsStepsRow = true := by
 unfold joinedFacts
 rw [j0, j1, j2, j3, j4, j5, j6, j7, j8, j9, j10, j11, j12, j13, j14, j15, j16, j17, j18, j19, j20, j21, j22, j23, j24, j25, j26, j27, j29, j30, j31]
 simp only [Bool.true_and, Bool.and_true]
 first | exact j28 | kernel_rfl
theorem over : Rows.sumsStepsRow.holds Tryz.pinned (OpenSpec.ofChange Rows.sumsStepsSpec) :=
 OpenClaim.holds_of_wide 14 Tryz.f14 rfl rfl rfl rfl rfl rfl rfl ⟨rfl, rfl, rfl, rfl, rfl⟩ rfl rfl rfl rfl rfl (by kernel_rfl) Tryz.func14 closed
  (of_decide_eq_true (by kernel_rfl)) (by unfold Func.isWrapper; first | (rw [if_pos (by decide +kernel)]; kernel_rfl) | (rw [if_neg (by decide +kernel)]; exact ⟨rfl, rfl⟩))
  (fun os started H enc _ => lifted os started H enc)
theorem proved : Rows.SumsStepsSaid :=
 over
#print axioms proved
end Go.Proofs.YtnknkkmdbnaglaaGreat.sumsSteps
