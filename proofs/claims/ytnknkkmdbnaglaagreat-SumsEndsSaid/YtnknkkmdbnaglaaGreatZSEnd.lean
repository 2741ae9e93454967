/-
  PROVED HERE: 'SumsEnds' returns true for every trace and list of terms, in every memory: no condition.
  (The row's step follows the shell that the kit's program wrote for 'LamportSteps'.)
-/
import Derived.Test.YtnknkkmdbnaglaaGreatRows
import Derived.WalkKit
import Derived.Test.YtnknkkmdbnaglaaGreatLm
import Derived.Test.YtnknkkmdbnaglaaGreatLk
import Derived.Test.YtnknkkmdbnaglaaGreatLj
import Derived.Test.YtnknkkmdbnaglaaGreatLw
import Derived.Test.YtnknkkmdbnaglaaGreatLa
namespace Go.Proofs.YtnknkkmdbnaglaaGreat.sumsEnds
open Go.ChangeShapes Go.WideShapes Go.ChangeAt Go.RowKit Go.Proofs.YtnknkkmdbnaglaaGreat
set_option linter.unusedVariables false
def TruePost (w : World) (e : Ending) (w' : World) : Prop := e = .returned (.bool true) ∧ Ext w w'
theorem nofault {T : Tr} {ts : List Trm} {c : Int} (h : T.SumOk ts) (hc : T.SumFault ts c) : c = 0 := hc.uniq (.inr (.inr (.inr (.inr (.inr ⟨h, rfl⟩)))))
theorem sum_at {T : Tr} {ts : List Trm} (h : T.SumOk ts) (d : Nat → Nat) (hd : T.CutOk d) : T.sumAt ts d = (T.sumAt ts fun _ => 0) + T.atC (T.wfn ts) d := Tr.sumAt_atC h.known hd.le
theorem sum_opp {T : Tr} {ts : List Trm} (h : T.SumOk ts) (d : Nat → Nat) (hd : T.CutOk d) : T.sumAt (oppL ts) d = - (T.sumAt ts fun _ => 0) + T.atC (fun v => - T.wfn ts v) d := by
 rw [Tr.sumAt_opp, sum_at h d hd, Tr.atC_neg']; omega
set_option maxRecDepth 100000 in
set_option maxHeartbeats 8000000 in
theorem walk (T : TM) (D : TmD) (w : World) (hT : T.At w) (hD : D.At w) :
    Calls Tryz.prog 3 #[T.val, .slice D.s.a D.s.n D.s.c] w (TruePost w) := by
 have HFEW := Lib.hid (fun W (h : Ext w W) => few39_any W T (hT.ext h))
 have HFLT := Lib.hid (fun W (h : Ext w W) => rflt39_any W T (hT.ext h) D (hD.ext h))
 have HMIN := Lib.hid (fun W (h : Ext w W) => smin_any W T (hT.ext h) D (hD.ext h))
 have HMAX := Lib.hid (fun W (h : Ext w W) => smax_any W T (hT.ext h) D (hD.ext h))
 have HLST := Lib.hid (fun W (h : Ext w W) hV => rlist_any W T (hT.ext h) hV)
 have HRMX := Lib.hid (fun W (h : Ext w W) hO base v R hR h0 hl hc => rmax_any W T (hT.ext h) D (hD.ext h) hO base v R hR h0 hl hc)
 have HRMN := Lib.hid (fun W (h : Ext w W) hO base v R hR h0 hl hc => rmin_any W T (hT.ext h) D (hD.ext h) hO base v R hR h0 hl hc)
 have hdn := hD.hn
 obtain ⟨ta, hta⟩ : ∃ z, z = T.a := ⟨_, rfl⟩
 obtain ⟨da, hda⟩ : ∃ z, z = D.s.a := ⟨_, rfl⟩
 obtain ⟨n, hn⟩ : ∃ n, n = D.s.n := ⟨_, rfl⟩
 simp only [TM.val] at HFEW HFLT HMIN HMAX HLST HRMX HRMN ⊢
 rw [← hta] at HFEW HFLT HMIN HMAX HLST HRMX HRMN
 rw [← hda, ← hn] at HFLT HMIN HMAX HRMX HRMN
 rw [← hta, ← hda, ← hn]
 rw [← hn] at hdn
 clear hT hD hta hda hn
 go_enter Tryz.func3, Tryz.ntmps3
 go_upto_region 1 with fail
 refine boxed1 (w := w) (G := fun x => Code.wp _ _ _ _ x) ?_
 intro w1 hx1 hs1 ⟨l0, c0, _, _⟩
 have hx11 : Ext w1 w1 := Ext.refl _
 clear hs1
 go_wp2_with fail
 go_at_call 15
 refine (awake39_any w1).mono ?_
 rintro e w2 ⟨rfl, hx2⟩
 have hxw2 := hx1.trans hx2
 go_wp2_with fail
 go_at_call 16
 refine (HFEW.out w2 hxw2).mono ?_
 rintro e w3 ⟨hx3, bf, rfl, -⟩
 have hxw3 := hxw2.trans hx3
 have hx13 := hx2.trans hx3
 cases bf with
 | false =>
  go_wp2_with fail
  go_ret
  exact ⟨rfl, hxw3⟩
 | true =>
 by_cases h70 : 70 < n
 ·have d1 : decide ((70 : Int) < (n : Int)) = true := decide_eq_true (by omega)
  have d1' : decide (70 < n) = true := decide_eq_true h70
  go_wp2_with fail
  go_ret
  exact ⟨rfl, hxw3⟩
 have d1 : decide ((70 : Int) < (n : Int)) = false := decide_eq_false (by omega)
 have d1' : decide (70 < n) = false := decide_eq_false h70
 go_wp2_with fail
 go_at_call 17
 refine (HMAX.out w3 hxw3).mono ?_
 clear d1 d1' hx2 hx3 hxw2
 rintro e w4 ⟨hx4, ⟨cf, hF, h0, rfl⟩ | ⟨hO, v2, y2, g2, rfl, hr2, -, hb2⟩⟩
 ·have HF := Lib.hid hF
  have d0 : (cf == 0) = false := by simpa using h0
  have dd : (cf == cf) = true := by simp
  have H0 := Lib.hid h0
  have hxw4 := hxw3.trans hx4
  have hx14 := hx13.trans hx4
  clear hF h0
  go_wp2_with fail
  go_at_call 18
  refine (HMIN.out w4 hxw4).mono ?_
  rintro e w5 ⟨hx5, ⟨c, hc, h0, rfl⟩ | ⟨hO, _⟩⟩
  case inr => exact absurd (nofault hO HF.out) H0.out
  obtain rfl : c = cf := hc.uniq HF.out
  have hxw5 := hxw4.trans hx5
  have hx15 := hx14.trans hx5
  clear hc h0
  go_wp2_with fail
  go_at_call 19
  refine (HFLT.out w5 hxw5).mono ?_
  rintro e w6 ⟨hx6, c3, hc, rfl⟩
  obtain rfl : c3 = c := hc.uniq HF.out
  have hxw6 := hxw5.trans hx6
  clear hc
  go_wp2_with fail
  go_ret
  exact ⟨rfl, hxw6⟩
 have HOK := Lib.hid hO
 have HV := Lib.hid hO.v
 have hxw4 := hxw3.trans hx4
 have hx14 := hx13.trans hx4
 have HB2 := Lib.hid (And.intro hr2 hb2)
 clear hO hr2 hb2 hx4 hxw3 hx13
 go_wp2_with fail
 go_at_call 18
 refine (HMIN.out w4 hxw4).mono ?_
 rintro e w5 ⟨hx5, ⟨c, hc, h0, _⟩ | ⟨_, v1, y1, g1, rfl, hr1, -, hb1⟩⟩
 ·exact absurd (nofault HOK.out hc) h0
 have hxw5 := hxw4.trans hx5
 have hx15 := hx14.trans hx5
 have HB1 := Lib.hid (And.intro hr1 hb1)
 have HX45 := Lib.hid hx5
 clear hr1 hb1 hx5 hxw4 hx14
 go_wp2_with fail
 go_at_call 19
 refine (HFLT.out w5 hxw5).mono ?_
 rintro e w6 ⟨hx6, cf, hcf, rfl⟩
 obtain rfl : cf = 0 := nofault HOK.out hcf
 have hxw6 := hxw5.trans hx6
 have hx16 := hx15.trans hx6
 have HX56 := Lib.hid hx6
 clear hcf hx6 hxw5 hx15
 go_wp2_with fail
 go_at_call 20
 refine (HLST.out w6 hxw6 HV.out).mono ?_
 rintro e w7 ⟨hx7, ⟨lv, R, rfl, hq, hcu, hl5⟩ | ⟨rfl, _⟩⟩
 case inr =>
  have hxw7 := hxw6.trans hx7
  have hx17 := hx16.trans hx7
  go_wp2_with fail
  go_ret
  exact ⟨rfl, hxw7⟩
 have hxw7 := hxw6.trans hx7
 have hx17 := hx16.trans hx7
 obtain ⟨la, lc, rfl⟩ := hq.1.slice
 obtain ⟨ln, hln⟩ : ∃ z, z = R.length := ⟨_, rfl⟩
 have HCU := Lib.hid hcu
 have HCC := Lib.hid (show ∀ x ∈ R, CutL T.toTr x.l from fun x hx => (HCU.out.2 _).1 (List.mem_map.2 ⟨x, hx, rfl⟩))
 have HR0 := Lib.hid (show 0 < R.length from by
  have h1 : CutL T.toTr (rowOf T.n fun _ => 0) := ⟨rowOf_len _ _, (Tr.CutOk.zero T.toTr).congr fun p hp => fn_rowOf hp⟩
  obtain ⟨x, hx, _⟩ := List.mem_map.1 ((HCU.out.2 _).2 h1)
  exact List.length_pos_of_mem hx)
 have HL5 := Lib.hid hl5
 have hmx := HRMX.out w7 hxw7 HOK.out w6.heap.size _ R hq HR0.out hl5 HCC.out
 have HQ := Lib.hid hq
 rw [← hln] at hmx ⊢
 have HLN := Lib.hid hln
 have HX67 := Lib.hid hx7
 clear hq hcu hl5 hln hx7 hxw6 hx16
 go_wp2_with fail
 go_at_call 21
 refine hmx.mono ?_
 rintro e w8 ⟨hx8, mv, mg, mo, mc, cm, rfl, hmn, hmi⟩
 obtain ⟨hve, hce⟩ := hmi.best HCU.out (sum_at HOK.out) HB2.out.2
 subst hve
 have hxw8 := hxw7.trans hx8
 have hx18 := hx17.trans hx8
 have hmm := HRMN.out w8 hxw8 HOK.out w6.heap.size _ R (HQ.out.ext hx8) HR0.out HL5.out HCC.out
 rw [← HLN.out] at hmm
 have HMN := Lib.hid (And.intro hmn hce)
 have HX78 := Lib.hid hx8
 clear hmx hmn hmi hce hx8 hxw7 hx17
 go_wp2_with fail
 go_at_call 22
 refine hmm.mono ?_
 rintro e w9 ⟨hx9, nv, ng, no, nc, cn, rfl, hnn, hni⟩
 obtain ⟨hve, hce⟩ := hni.best HCU.out (sum_opp HOK.out) HB1.out.2
 subst hve
 have hxw9 := hxw8.trans hx9
 have hx19 := hx18.trans hx9
 have HNN := Lib.hid (And.intro hnn hce)
 have HX89 := Lib.hid hx9
 clear hmm hnn hni hce hx9 hxw8 hx18
 have HE1 := Lib.hid (fun W (x : Ext w9 W) => (show Calls Tryz.prog 23 #[.slice (some ⟨g2, 0, none⟩) T.n T.n, .slice (some ⟨mg, mo, none⟩) T.n mc] W (fun e w' => e = .returned (.bool true) ∧ Ext W w') from
  (eqi_any W (some ⟨g2, 0, none⟩) (some ⟨mg, mo, none⟩) g2 0 mg mo T.n T.n T.n mc (natV y2) (natV cm) (((HB2.out.1.num (by have := HV.out.n8; omega)).ext (HX45.out.trans (HX56.out.trans (HX67.out.trans (HX78.out.trans HX89.out))))).ext x) ((HMN.out.1.ext HX89.out).ext x)).mono fun e w' ⟨b, he, hb, hx⟩ => ⟨by rw [he, hb.2 ⟨rfl, fun p hp => by show (y2 p : Int) = (cm p : Int); rw [HMN.out.2 p hp]⟩], hx⟩))
 have HE2 := Lib.hid (fun W (x : Ext w9 W) => (show Calls Tryz.prog 23 #[.slice (some ⟨g1, 0, none⟩) T.n T.n, .slice (some ⟨ng, no, none⟩) T.n nc] W (fun e w' => e = .returned (.bool true) ∧ Ext W w') from
  (eqi_any W (some ⟨g1, 0, none⟩) (some ⟨ng, no, none⟩) g1 0 ng no T.n T.n T.n nc (natV y1) (natV cn) (((HB1.out.1.num (by have := HV.out.n8; omega)).ext (HX56.out.trans (HX67.out.trans (HX78.out.trans HX89.out)))).ext x) (HNN.out.1.ext x)).mono fun e w' ⟨b, he, hb, hx⟩ => ⟨by rw [he, hb.2 ⟨rfl, fun p hp => by show (y1 p : Int) = (cn p : Int); rw [HNN.out.2 p hp]⟩], hx⟩))
 have e1 : (v2 == v2) = true := by simp
 have e2 : ((- v1) == (- v1)) = true := by simp
 go_wp2_with fail
 go_at_call 23
 refine (HE1.out w9 (Ext.refl _)).mono ?_
 rintro e w10 ⟨rfl, hx10⟩
 have hxw10 := hxw9.trans hx10
 go_wp2_with fail
 go_at_call 23
 refine (HE2.out w10 hx10).mono ?_
 rintro e w11 ⟨rfl, hx11a⟩
 have hxw11 := hxw10.trans hx11a
 go_wp2_with fail
 go_ret
 exact ⟨rfl, hxw11⟩
set_option maxRecDepth 100000 in
theorem lifted (os : Os) (started : os.Started) (H : Type) (enc : TypeId × Value → H) :
    ReturnsInHanded {} Tryz.checked os 3 .any (Rows.sumsEndsSpec.pre6 enc Tryz.prog Tryz.f3 Rows.sumsEndsRow.domain false) (Rows.sumsEndsSpec.post enc Tryz.prog Tryz.f3 false true false false) := by
 refine returnsInHanded_of_change_sized (C := Tryz.checked) own14 started (by kernel_rfl) Tryz.func3
  (ChangeSpec.witness6 (enc := enc) (C := Tryz.checked) false ⟨#[], #[.agg #[.slice none 0 0], .slice none 0 0], []⟩ 8 (by kernel_rfl) (by kernel_rfl) (by kernel_rfl) (by kernel_rfl)) ?_
 intro W base args ds gs before hval0 hW _ hsz0 _
 have hsz1 : (DataW.weightsEach Tryz.prog (Tryz.f3.params.toList ++ Rows.sumsEndsSpec.plain.varTypes Tryz.prog) (ds ++ gs)).all (· ≤ reachBytes) = true := hsz0
 clear hsz0
 have hval : ∀ (j : Nat) t v, Tryz.f3.params[j]? = some t → args[j]? = some v → Value.okWide Tryz.prog W .any base t v := hval0
 have hW' := hW
 obtain ⟨p, q, hA0, hV, rfl, hfz, hnd⟩ := hW
 have hA : DataW.TrodAll enc Tryz.prog W 0 (fun _ => true) true Tryz.f3.params.toList args.toList ds p := hA0
 rw [Tryz.params3] at hA hval hsz1
 obtain ⟨v0, vs0, d0, ds0, p0, q0, hargs, rfl, rfl, h0, r0⟩ := trodAll_cons hA
 obtain ⟨v1, vs1, d1, ds1, p1, q1, rfl, rfl, rfl, h1, r1⟩ := trodAll_cons r0
 obtain ⟨rfl, rfl, rfl⟩ := trodAll_nil r1
 obtain rfl : args = #[v0, v1] := by cases args; simp_all
 obtain ⟨rfl, rfl⟩ := trodVars_none hV
 obtain ⟨T0, rfl, hT0⟩ := arg_trace (hval 0 24 v0 rfl rfl) h0 (small_of hsz1 (j := 0) rfl rfl)
 obtain ⟨D1, rfl, hD1⟩ := arg_terms (hval 1 25 v1 rfl rfl) h1 (small_of hsz1 (j := 1) rfl rfl)
 clear hA0 hval0 hsz1
 simp only [List.append_nil] at hW'
 have hl1 : ∀ x ∈ p1, x.block < W.heap.size := fun x hx => hW'.lt x (by simp [hx])
 have hl0 : ∀ x ∈ p0, x.block < W.heap.size := fun x hx => hW'.lt x (by simp [hx])
 refine (walk T0 D1 W hT0 hD1).mono fun e W' ⟨he, hg⟩ => ?_
 subst he
 exact ⟨_, rfl, post_ext1 (pa := (p0 ++ (p1 ++ []))) (pv := []) hW' (fun _ _ _ => (trodAll_cons_mk (shut_bool Tryz.underlying4 _) trodAll_mk0)) (trodAll_cons_mk (Below.trod laid14 (by kernel_rfl) (of_decide_eq_true (by kernel_rfl)) h0 hg.below hl0) (trodAll_cons_mk (Below.trod laid14 (by kernel_rfl) (of_decide_eq_true (by kernel_rfl)) h1 hg.below hl1) trodAll_mk0)) rfl hg⟩
theorem j0 : (Rows.sumsEndsRow.wf (OpenSpec.ofChange Rows.sumsEndsSpec)) = true := by kernel_rfl
theorem j1 : (laidOutB Tryz.pinned.checked.prog) = true := by kernel_rfl
theorem j2 : (mapsRowed Tryz.pinned.checked.prog) = true := by kernel_rfl
theorem j3 : (Tryz.f3.params.all (Tryz.pinned.checked.prog.readableRec ·)) = true := by kernel_rfl
theorem j4 : (namedTie Tryz.pinned.checked.prog Rows.sumsEndsRow.named Rows.sumsEndsSpec.vars) = true := by kernel_rfl
theorem j5 : (Rows.sumsEndsRow.stops == []) = true := by kernel_rfl
theorem j6 : (Tryz.pinned.checked.prog.stops == []) = true := by kernel_rfl
theorem j7 : (Rows.sumsEndsRow.knobs == []) = true := by kernel_rfl
theorem j8 : (Tryz.pinned.checked.prog.stopKnobs == []) = true := by kernel_rfl
theorem j9 : (Rows.sumsEndsRow.inPlace == Tryz.pinned.checked.prog.inPlace 3) = true := by kernel_rfl
theorem j10 : (Rows.sumsEndsRow.unfollowed == Tryz.pinned.checked.prog.unfollowed 3) = true := by kernel_rfl
theorem j11 : (Rows.sumsEndsRow.recurses == Tryz.pinned.checked.prog.recurses 3) = true := by kernel_rfl
theorem j12 : (Rows.sumsEndsRow.named == Tryz.pinned.checked.prog.varsNamed 3) = true := by kernel_rfl
theorem j13 : (Rows.sumsEndsRow.maps == (Tryz.f3.params.toList ++ Rows.sumsEndsSpec.plain.varTypes Tryz.pinned.checked.prog).any (Tryz.pinned.checked.prog.mapsRec ·)) = true := by kernel_rfl
theorem j14 : (Rows.sumsEndsRow.ifaces == (Tryz.f3.params.toList ++ Rows.sumsEndsSpec.plain.varTypes Tryz.pinned.checked.prog).any (Tryz.pinned.checked.prog.ifacesRec ·)) = true := by kernel_rfl
theorem j15 : (Rows.sumsEndsRow.mapsOut == Tryz.pinned.checked.prog.mapsAmong Tryz.f3.resultTypes.toList) = true := by kernel_rfl
theorem j16 : (Rows.sumsEndsRow.loops == (Tryz.f3.params.toList ++ Rows.sumsEndsSpec.plain.varTypes Tryz.pinned.checked.prog).any (Tryz.pinned.checked.prog.loopsFrom ·)) = true := by kernel_rfl
theorem j17 : (Rows.sumsEndsRow.wideKeys == (Tryz.f3.params.toList ++ Rows.sumsEndsSpec.plain.varTypes Tryz.pinned.checked.prog ++ Tryz.f3.resultTypes.toList).any (Tryz.pinned.checked.prog.wideKeysFrom ·)) = true := by kernel_rfl
theorem j18 : (Rows.sumsEndsSpec.vars.all (Tryz.pinned.checked.prog.varReadable ·)) = true := by kernel_rfl
theorem j19 : (Tryz.f3.resultTypes.all (fun t => Tryz.pinned.checked.prog.readableRec t && decide (t < Tryz.pinned.checked.prog.types.size))) = true := by kernel_rfl
theorem j20 : (Rows.sumsEndsRow.ifacesOut == Tryz.f3.resultTypes.toList.any (Tryz.pinned.checked.prog.ifacesRec ·)) = true := by kernel_rfl
theorem j21 : (Rows.sumsEndsRow.loopsOut == Tryz.f3.resultTypes.toList.any (Tryz.pinned.checked.prog.loopsFrom ·)) = true := by kernel_rfl
theorem j22 : (Rows.sumsEndsRow.plainKeys == Tryz.pinned.checked.prog.plainKeys) = true := by kernel_rfl
theorem j23 : (Rows.sumsEndsRow.shortTexts.isNone) = true := by kernel_rfl
theorem j24 : (Tryz.pinned.checked.prog.stopsHeard) = true := by kernel_rfl
theorem j25 : (Tryz.pinned.checked.prog.mayEnter) = true := by kernel_rfl
theorem j26 : (Rows.sumsEndsRow.lifted == Tryz.pinned.checked.prog.liftsFinal) = true := by kernel_rfl
theorem j27 : (Tryz.pinned.checked.prog.make == some Rows.sumsEndsRow.make) = true := by kernel_rfl
theorem j28 : (Rows.sumsEndsRow.kinds == (if Rows.sumsEndsRow.domain.isEmpty then [] else Tryz.f3.params.toList.map fun t => match Tryz.pinned.checked.prog.underlying t with | some (.int k) => some k | _ => none)) = true := by kernel_rfl
theorem j29 : (Rows.sumsEndsRow.pinned == Rows.sumsEndsRow.pinnedBy) = true := by kernel_rfl
theorem j30 : (Rows.sumsEndsRow.veiled == (Tryz.f3.params.toList ++ Rows.sumsEndsSpec.plain.varTypes Tryz.pinned.checked.prog ++ Tryz.f3.resultTypes.toList).any (Tryz.pinned.checked.prog.veiledRec ·)) = true := by kernel_rfl
theorem j31 : (Rows.sumsEndsRow.veiledFits Tryz.pinned.checked.prog Tryz.f3.params.toList (Tryz.f3.params.toList ++ Rows.sumsEndsSpec.plain.varTypes Tryz.pinned.checked.prog ++ Tryz.f3.resultTypes.toList)) = true := by kernel_rfl
set_option maxRecDepth 100000 in
theorem closed : joinedFacts Tryz.pinned.checked.prog 3 Tryz.f3 Rows.sumsEndsSpec Rows.sumsEndsRow = true := by
 unfold joinedFacts
 rw [j0, j1, j2, j3, j4, j5, j6, j7, j8, j9, j10, j11, j12, j13, j14, j15, j16, j17, j18, j19, j20, j21, j22, j23, j24, j25, j26, j27, j29, j30, j31]
 simp only [Bool.true_and, Bool.and_true]
 first | exact j28 | kernel_rfl
theorem over : Rows.sumsEndsRow.holds Tryz.pinned (OpenSpec.ofChange Rows.sumsEndsSpec) :=
 OpenClaim.holds_of_wide 3 Tryz.f3 rfl rfl rfl rfl rfl rfl rfl ⟨rfl, rfl, rfl, rfl, rfl⟩ rfl rfl rfl rfl rfl (by kernel_rfl) Tryz.func3 closed
  (of_decide_eq_true (by kernel_rfl)) (by unfold Func.isWrapper; first | (rw [if_pos (by decide +kernel)]; kernel_rfl) | (rw [if_neg (by decide +kernel)]; exact ⟨rfl, rfl⟩))
  (fun os started H enc _ => lifted os started H enc)
theorem proved : Rows.SumsEndsSaid :=
 over
#print axioms proved
end Go.Proofs.YtnknkkmdbnaglaaGreat.sumsEnds
