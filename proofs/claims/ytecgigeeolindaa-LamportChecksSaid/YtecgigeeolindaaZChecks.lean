/-
  PROVED HERE: 'LamportChecks' returns true for every trace and every list of lists of numbers, in every memory: no condition.
  (The row's step follows the shell that the kit's program wrote for 'LamportSteps'.)
-/
import Derived.Test.YtecgigeeolindaaRows
import Derived.WalkKit
import Derived.Test.YtecgigeeolindaaGk
import Derived.Test.YtecgigeeolindaaGo
import Derived.Test.YtecgigeeolindaaGb
import Derived.Test.YtecgigeeolindaaGp
import Derived.Lib.QuietBelow
namespace Go.Proofs.Ytecgigeeolindaa.lamportChecks
open Go.ChangeShapes Go.WideShapes Go.ChangeAt Go.RowKit Go.Proofs.Ytecgigeeolindaa
set_option linter.unusedVariables false

set_option maxHeartbeats 400000 in
theorem clos_any (w : World) (a : Option Addr) (n cap : Nat) :
    Calls Try.prog 23 #[.slice a n cap] w fun r w' => r = .returned (.bool (decide (80 < (n : Int)))) ∧ Ext w w' := by
  go_enter Try.func23, Try.ntmps23
  go_wp2
  go_ret
  exact ⟨ret_bool (by simp), Ext.refl _⟩
def TruePost (w : World) (e : Ending) (w' : World) : Prop := e = .returned (.bool true) ∧ Ext w w'
set_option maxRecDepth 100000 in
set_option maxHeartbeats 2000000 in
theorem walk (T : TM) (M : MM) (w : World) (hT : T.At w) (hM : M.At w) :
    Calls Try.prog 6 #[T.val, .slice M.a M.n M.cap] w (TruePost w) := by
  have hmn := hM.hn
  have HT := Lib.hid hT
  have HM := Lib.hid hM
  clear hT hM
  go_enter Try.func6, Try.ntmps6
  go_upto_region 1 with fail
  refine boxed1 (w := w) (G := fun x => Code.wp _ _ _ _ x) ?_
  intro w1 hx1 hs1 ⟨l0, c0, _, _⟩
  have hx11 : Ext w1 w1 := Ext.refl _
  clear hs1
  go_wp2_with fail
  go_at_call 9
  refine (awake_any _).mono ?_
  rintro e w2 ⟨rfl, hx2⟩
  have hxw2 := hx1.trans hx2
  have hF := few_any w2 T (HT.out.ext hxw2)
  go_wp2_with fail
  go_at_call 11
  refine hF.mono ?_
  rintro e w3 ⟨hx3, b, rfl, hb⟩
  have hxw3 := hxw2.trans hx3
  have hx13 := hx2.trans hx3
  clear hF
  cases b with
  | false =>
    clear hb
    go_wp2_with fail
    go_at_call 9
    refine (awake_any _).mono ?_
    rintro e w9 ⟨rfl, hx9⟩
    go_wp2_with fail
    go_ret
    exact ⟨rfl, hxw3.trans hx9⟩
  | true =>
    clear hb
    by_cases h12 : 12 < M.n
    · have b1 : decide ((12 : Int) < (M.n : Int)) = true := decide_eq_true (by omega)
      have b1' : decide (12 < M.n) = true := decide_eq_true h12
      go_wp2_with fail
      go_at_call 9
      refine (awake_any _).mono ?_
      rintro e w9 ⟨rfl, hx9⟩
      go_wp2_with fail
      go_ret
      exact ⟨rfl, hxw3.trans hx9⟩
    · have b1 : decide ((12 : Int) < (M.n : Int)) = false := decide_eq_false (by omega)
      have b1' : decide (12 < M.n) = false := decide_eq_false h12
      have hEv := has_Ints w3 M.a M.b M.off M.n M.cap (fun i => .slice (M.ra i) (M.rn i) (M.rc i)) 23 #[] (fun i => decide (80 < (M.rn i : Int))) hmn (fun h => HM.out.pa h) (fun w' hx i hi => HM.out.p0 w' (hxw3.trans hx) i hi)
        (enters_of Try.func23 (by kernel_rfl) rfl) (fun i hi w' hx => clos_any w' _ _ _)
      cases hE : anyB (fun i => decide (80 < (M.rn i : Int))) M.n with
      | true =>
        rw [hE] at hEv
        clear hE
        go_wp2_with fail
        go_at_call 22
        refine hEv.mono ?_
        rintro e w4 ⟨rfl, hx4⟩
        have hxw4 := hxw3.trans hx4
        clear hEv
        go_wp2_with fail
        go_at_call 9
        refine (awake_any _).mono ?_
        rintro e w9 ⟨rfl, hx9⟩
        go_wp2_with fail
        go_ret
        exact ⟨rfl, hxw4.trans hx9⟩
      | false =>
        rw [hE] at hEv
        clear hE
        go_wp2_with fail
        go_at_call 22
        refine hEv.mono ?_
        rintro e w4 ⟨rfl, hx4⟩
        have hxw4 := hxw3.trans hx4
        have hx14 := hx13.trans hx4
        clear hEv
        obtain ⟨b, hbb⟩ := exists_bool (T.toTr.CheckP M.toMx)
        have hP : ∀ W, Ext w W → Calls Try.prog 21 #[T.val, .slice M.a M.n M.cap] W fun e w' => e = .returned (.bool b) ∧ Ext W w' := fun W hx => by
          have h := (Classical.em T.toTr.Valid).elim (fun hV => lcheck_yes W T (HT.out.ext hx) hV M (HM.out.ext hx)) (fun hV => lcheck_no W T (HT.out.ext hx) hV M)
          refine h.mono ?_
          rintro e w' ⟨c, rfl, hc, hx'⟩
          exact ⟨ret_bool (by rw [Bool.eq_iff_iff, hc, hbb]), hx'⟩
        have hR : ∀ W, Ext w W → Calls Try.prog 24 #[T.val, .slice M.a M.n M.cap] W fun e w' => e = .returned (.bool b) ∧ Ext W w' := fun W hx => by
          have h := (Classical.em T.toTr.Valid).elim (fun hV => rcheck_yes W T (HT.out.ext hx) hV M (HM.out.ext hx)) (fun hV => rcheck_no W T (HT.out.ext hx) hV M)
          refine h.mono ?_
          rintro e w' ⟨c, rfl, hc, hx'⟩
          exact ⟨ret_bool (by rw [Bool.eq_iff_iff, hc, Tr.check_iff, hbb]), hx'⟩
        clear hbb b1 b1' h12
        have HP := Lib.hid hP
        have HR := Lib.hid hR
        have hg4 : ∀ d os, Ext w (Sort.grow (redrawn w4 d) os) := fun d os => hxw4.trans (below_regrown w4 d os)
        have HG4 := Lib.hid hg4
        clear hP hR hg4
        have hg14 : ∀ d os, Ext w1 (Sort.grow (redrawn w4 d) os) := fun d os => hx14.trans (below_regrown w4 d os)
        go_upto_region 3 with fail
        refine wp_region_quiet_below (by kernel_rfl) (by kernel_rfl) ?_
        repeat (go_big_quiet_step (first | exact Calls.regrown_of (HP.out _ (HG4.out _ _)) | exact Calls.regrown_of (HR.out _ (HG4.out _ _))))
        refine wpQuiet_nil ?_
        intro _ hw'
        obtain ⟨⟨dq, osq⟩, hw''⟩ := hw'
        subst hw''
        have hx9 := HG4.out dq osq
        generalize Sort.grow (redrawn w4 dq) osq = w9 at hx9 ⊢
        go_wp2_with fail
        go_ret
        exact ⟨by simp, hx9⟩

set_option maxRecDepth 100000 in
theorem lifted (os : Os) (started : os.Started) (H : Type) (enc : TypeId × Value → H) :
    ReturnsInHanded {} Try.checked os 6 .any (Rows.lamportChecksSpec.pre6 enc Try.prog Try.f6 Rows.lamportChecksRow.domain false) (Rows.lamportChecksSpec.post enc Try.prog Try.f6 false true false false) := by
  refine returnsInHanded_of_change_sized (C := Try.checked) own14 started (by kernel_rfl) Try.func6
    (ChangeSpec.witness6 (enc := enc) (C := Try.checked) false ⟨#[], #[.agg #[.slice none 0 0], .slice none 0 0], []⟩ 8 (by kernel_rfl) (by kernel_rfl) (by kernel_rfl) (by kernel_rfl)) ?_
  intro W base args ds gs before hval0 hW _ hsz0 _
  have hsz1 : (DataW.weightsEach Try.prog (Try.f6.params.toList ++ Rows.lamportChecksSpec.plain.varTypes Try.prog) (ds ++ gs)).all (· ≤ reachBytes) = true := hsz0
  clear hsz0
  have hval : ∀ (j : Nat) t v, Try.f6.params[j]? = some t → args[j]? = some v → Value.okWide Try.prog W .any base t v := hval0
  have hW' := hW
  obtain ⟨p, q, hA0, hV, rfl, hfz, hnd⟩ := hW
  have hA : DataW.TrodAll enc Try.prog W 0 (fun _ => true) true Try.f6.params.toList args.toList ds p := hA0
  rw [Try.params6] at hA hval hsz1
  obtain ⟨v0, vs0, d0, ds0, p0, q0, hargs, rfl, rfl, h0, r0⟩ := trodAll_cons hA
  obtain ⟨v1, vs1, d1, ds1, p1, q1, rfl, rfl, rfl, h1, r1⟩ := trodAll_cons r0
  obtain ⟨rfl, rfl, rfl⟩ := trodAll_nil r1
  obtain rfl : args = #[v0, v1] := by cases args; simp_all
  obtain ⟨rfl, rfl⟩ := trodVars_none hV
  obtain ⟨T, rfl, hT⟩ := arg_trace (hval 0 29 v0 rfl rfl) h0 (small_of hsz1 (j := 0) rfl rfl)
  obtain ⟨M, rfl, hM, _⟩ := arg_mm (hval 1 34 v1 rfl rfl) h1 (small_of hsz1 (j := 1) rfl rfl)
  clear hA0 hval0 hsz1
  simp only [List.append_nil] at hW'
  have hl0 : ∀ x ∈ p0, x.block < W.heap.size := fun x hx => hW'.lt x (by simp [hx])
  have hl1 : ∀ x ∈ p1, x.block < W.heap.size := fun x hx => hW'.lt x (by simp [hx])
  refine (walk T M W hT hM).mono fun e W' ⟨he, hg⟩ => ?_
  subst he
  exact ⟨_, rfl, post_ext1 (pa := p0 ++ (p1 ++ [])) (pv := []) hW' (fun _ _ _ => (trodAll_cons_mk (shut_bool Try.underlying4 _) trodAll_mk0)) (trodAll_cons_mk (Below.trod laid14 (by kernel_rfl) (of_decide_eq_true (by kernel_rfl)) h0 hg.below hl0) (trodAll_cons_mk (Below.trod laid14 (by kernel_rfl) (of_decide_eq_true (by kernel_rfl)) h1 hg.below hl1) trodAll_mk0)) rfl hg⟩

theorem over : Rows.lamportChecksRow.holds Try.pinned (OpenSpec.ofChange Rows.lamportChecksSpec) :=
  OpenClaim.holds_of_wide 6 Try.f6 rfl rfl rfl rfl rfl rfl rfl ⟨rfl, rfl, rfl, rfl, rfl⟩ rfl rfl rfl rfl rfl (by kernel_rfl) Try.func6 (by kernel_rfl)
    (of_decide_eq_true (by kernel_rfl)) (by unfold Func.isWrapper; first | (rw [if_pos (by decide +kernel)]; kernel_rfl) | (rw [if_neg (by decide +kernel)]; exact ⟨rfl, rfl⟩))
    (fun os started H enc _ => lifted os started H enc)

/-- ████ THE STATEMENT ████ -/
theorem proved : Rows.LamportChecksSaid :=
  over
#print axioms proved
end Go.Proofs.Ytecgigeeolindaa.lamportChecks
