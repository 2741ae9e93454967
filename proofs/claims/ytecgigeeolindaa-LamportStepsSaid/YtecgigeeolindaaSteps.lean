/-
  PROVED HERE: 'LamportSteps' returns true for every two integers, in every memory: no condition.
  (The shell of this text was written by the kit's program for this function:) THE SHELL OF A PROOF OF 'Rows.LamportStepsSaid' ('antecede/antecedelaw14.LamportSteps'), WRITTEN BY PROGRAM (proof-skeleton.mjs) off the guide's own print for that function. Not trusted: Lean checks it.
  The walk is by hand.
-/
import Derived.Test.YtecgigeeolindaaRows
import Derived.WalkKit
import Derived.Test.YtecgigeeolindaaAwk
import Derived.ProofKit
import Derived.OpenShut
namespace Go.Proofs.Ytecgigeeolindaa.lamportSteps
open Go.ChangeShapes Go.WideShapes Go.ChangeAt Go.RowKit
set_option linter.unusedVariables false      -- a walk need not use every 'w<i>' (that an integer argument fits its kind)

theorem own : ownKnob Try.prog.godebug = none := by kernel_rfl

/-! ### STEP 1: THE WALK: the Go text returns true. 'Grown w w'': the world has at most new blocks (Derived/RowKit3.lean). Part the cases AHEAD of 'go_enter' where a test parts the walk; take each callee by a contract of your own. -/
/-- the post of a call that leaves all that lay as it was -/
theorem post_ext {H : Type} {enc : TypeId × Value → H} {P : Program} {f : Func} {s : ChangeSpec} {apart fresh handsOn : Bool} {W W' : World} {args : Array Value} {v : Value} {ds gs : List (DataW H)} {before pa pv : List MemPlace}
    (hW : DataW.Whole enc P f.params.toList s.vars apart W args.toList ds gs before)
    (hres : ∀ (b : Nat) (sp : Nat → Bool) (hd : Bool), DataW.TrodAll enc P W' b sp hd f.resultTypes.toList (v.resultList f.resultTypes.size) (s.fn H (ds ++ gs)).results [])
    (hargs : ∀ sp : Nat → Bool, (∀ p ∈ before, sp p.block = true) → DataW.TrodAll enc P W' 0 sp true f.params.toList args.toList (s.fn H (ds ++ gs)).args pa)
    (hvars : ∀ sp : Nat → Bool, (∀ p ∈ before, sp p.block = true) → DataW.TrodVars enc P W' sp s.vars (s.fn H (ds ++ gs)).vars pv)
    (hx : Ext W W') : s.post enc P f apart fresh handsOn false W args v W' := by
  have hold : ∀ p ∈ before, (fun b => decide (b < W.heap.size)) p.block = true := fun p hp => by simpa using hW.lt p hp
  exact ⟨ds, gs, before, [], pa, pv, hW, hres _ _ _, hargs _ hold, hvars _ hold, hx.below.frame _, fun h => by cases h⟩
set_option maxRecDepth 100000 in
set_option maxHeartbeats 1000000 in
theorem walk (a0 : Int) (a1 : Int) (w : World) :
    Calls Try.prog 3 #[.int .i64 a0, .int .i64 a1] w fun e w' => e = .returned (.bool true) ∧ Ext w w' := by
  have hA := awake_any w
  have hst := fun W => step_any a0 a1 W
  by_cases h1 : a0 < 0
  · have hs := stepV_bad (clock := a0) (got := a1) (.inl h1)
    simp only [hs] at hst
    clear hs
    go_enter Try.func3, Try.ntmps3
    go_wp2_with (first | (go_at_call 9; refine hA.mono ?_; rintro e w2 ⟨rfl, hx2⟩) | (go_at_call 10; refine (hst _).mono ?_; rintro e w3 ⟨rfl, rfl⟩))
    all_goals go_ret
    all_goals first | exact ⟨rfl, hx2⟩ | (refine ⟨ret_bool ?_, hx2⟩; simp; omega) | (exfalso; omega)
  · by_cases h2 : a1 < 0
    · have hs := stepV_bad (clock := a0) (got := a1) (.inr (.inl h2))
      simp only [hs] at hst
      clear hs
      go_enter Try.func3, Try.ntmps3
      go_wp2_with (first | (go_at_call 9; refine hA.mono ?_; rintro e w2 ⟨rfl, hx2⟩) | (go_at_call 10; refine (hst _).mono ?_; rintro e w3 ⟨rfl, rfl⟩))
      all_goals go_ret
      all_goals first | exact ⟨rfl, hx2⟩ | (refine ⟨ret_bool ?_, hx2⟩; simp; omega) | (exfalso; omega)
    · by_cases h3 : 1125899906842624 ≤ a0 ∨ 1125899906842624 ≤ a1
      · have hs := stepV_bad (clock := a0) (got := a1) (.inr (.inr h3))
        simp only [hs] at hst
        clear hs
        go_enter Try.func3, Try.ntmps3
        go_wp2_with (first | (go_at_call 9; refine hA.mono ?_; rintro e w2 ⟨rfl, hx2⟩) | (go_at_call 10; refine (hst _).mono ?_; rintro e w3 ⟨rfl, rfl⟩))
        all_goals go_ret
        all_goals first | exact ⟨rfl, hx2⟩ | (refine ⟨ret_bool ?_, hx2⟩; simp; omega) | (exfalso; omega)
      · have h4 : a0 < 1125899906842624 := by omega
        have h5 : a1 < 1125899906842624 := by omega
        have hs := stepV_ok (clock := a0) (got := a1) (by omega) (by omega) h4 h5 rfl
        simp only [hs] at hst
        clear h3
        clear hs
        go_enter Try.func3, Try.ntmps3
        go_wp2_with (first | (go_at_call 9; refine hA.mono ?_; rintro e w2 ⟨rfl, hx2⟩) | (go_at_call 10; refine (hst _).mono ?_; rintro e w3 ⟨rfl, rfl⟩))
        all_goals go_ret
        all_goals first | exact ⟨rfl, hx2⟩ | (refine ⟨ret_bool ?_, hx2⟩; simp; omega) | (exfalso; omega)

/-! ### THE ROW's STEP: WRITTEN OUT: LEAVE IT -/
set_option maxRecDepth 100000 in
theorem lifted (os : Os) (started : os.Started) (H : Type) (enc : TypeId × Value → H) :
    ReturnsInHanded {} Try.checked os 3 .any (Rows.lamportStepsSpec.pre6 enc Try.prog Try.f3 Rows.lamportStepsRow.domain false) (Rows.lamportStepsSpec.post enc Try.prog Try.f3 false true false false) := by
  refine returnsInHanded_of_change (C := Try.checked) own started (by kernel_rfl) Try.func3
    (ChangeSpec.witness6 (enc := enc) (C := Try.checked) false ⟨#[], #[.int .i64 0, .int .i64 0], []⟩ 8 (by kernel_rfl) (by kernel_rfl) (by kernel_rfl) (by kernel_rfl)) ?_
  intro W base args ds gs before hval0 hW hcnd _
  have hval : ∀ (j : Nat) t v, Try.f3.params[j]? = some t → args[j]? = some v → Value.okWide Try.prog W .any base t v := hval0
  have hW' := hW
  obtain ⟨p, q, hA0, hV, rfl, hfz, hnd⟩ := hW
  have hA : DataW.TrodAll enc Try.prog W 0 (fun _ => true) true Try.f3.params.toList args.toList ds p := hA0
  rw [Try.params3] at hA hval
  obtain ⟨v0, vs0, d0, ds0, p0, q0, hargs, rfl, rfl, h0, r0⟩ := trodAll_cons hA
  obtain ⟨v1, vs1, d1, ds1, p1, q1, rfl, rfl, rfl, h1, r1⟩ := trodAll_cons r0
  obtain ⟨rfl, rfl, rfl⟩ := trodAll_nil r1
  obtain rfl : args = #[v0, v1] := by cases args; simp_all
  obtain ⟨rfl, rfl⟩ := trodVars_none hV
  obtain ⟨a0, rfl, rfl, rfl, w0⟩ := open_int Try.underlying3 (hval 0 3 v0 rfl rfl) h0
  obtain ⟨a1, rfl, rfl, rfl, w1⟩ := open_int Try.underlying3 (hval 1 3 v1 rfl rfl) h1
  clear hA0 hval0
  simp only [List.append_nil] at hW'
  refine (walk a0 a1 W).mono fun e W' ⟨he, hg⟩ => ?_
  subst he
  exact ⟨_, rfl, post_ext (pa := []) (pv := []) hW' (fun _ _ _ => (trodAll_cons_mk (shut_bool Try.underlying4 _) trodAll_mk0)) (fun sp _ => (trodAll_cons_mk (shut_int Try.underlying3 w0) (trodAll_cons_mk (shut_int Try.underlying3 w1) trodAll_mk0))) (fun _ _ => rfl) hg⟩

theorem over : Rows.lamportStepsRow.holds Try.pinned (OpenSpec.ofChange Rows.lamportStepsSpec) :=
  OpenClaim.holds_of_wide 3 Try.f3 rfl rfl rfl rfl rfl rfl rfl ⟨rfl, rfl, rfl, rfl, rfl⟩ rfl rfl rfl rfl rfl (by kernel_rfl) Try.func3 (by kernel_rfl)
    (of_decide_eq_true (by kernel_rfl)) (by unfold Func.isWrapper; first | (rw [if_pos (by decide +kernel)]; kernel_rfl) | (rw [if_neg (by decide +kernel)]; exact ⟨rfl, rfl⟩))
    (fun os started H enc _ => lifted os started H enc)

/-- ████ THE STATEMENT ████ -/
theorem proved : Rows.LamportStepsSaid :=
  over
#print axioms proved
end Go.Proofs.Ytecgigeeolindaa.lamportSteps
