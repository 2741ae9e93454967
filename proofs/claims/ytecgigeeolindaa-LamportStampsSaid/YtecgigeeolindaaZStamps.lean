/-
  PROVED HERE: 'LamportStamps' returns true for every trace, in every memory: no condition.
  (The row's step follows the shell that the kit's program wrote for 'LamportSteps'.)
-/
import Derived.Test.YtecgigeeolindaaRows
import Derived.WalkKit
import Derived.Test.YtecgigeeolindaaGk
import Derived.Test.YtecgigeeolindaaGo
import Derived.Test.YtecgigeeolindaaGq
import Derived.Test.YtecgigeeolindaaGp
namespace Go.Proofs.Ytecgigeeolindaa.lamportStamps
open Go.ChangeShapes Go.WideShapes Go.ChangeAt Go.RowKit Go.Proofs.Ytecgigeeolindaa
set_option linter.unusedVariables false

def TruePost (w : World) (e : Ending) (w' : World) : Prop := e = .returned (.bool true) ∧ Ext w w'
set_option maxRecDepth 100000 in
set_option maxHeartbeats 2000000 in
theorem walk (T : TM) (w : World) (hT : T.At w) :
    Calls Try.prog 5 #[T.val] w (TruePost w) := by
  have HT := Lib.hid hT
  clear hT
  go_enter Try.func5, Try.ntmps5
  go_upto_region 1 with fail
  refine boxed1 (w := w) (G := fun x => Code.wp _ _ _ _ x) ?_
  intro w1 hx1 hs1 ⟨l0, c0, _, _⟩
  have hx11 : Ext w1 w1 := Ext.refl _
  clear hs1
  go_wp2_with fail
  go_at_call 9
  refine (awake_any _).mono ?_
  rintro e w2 ⟨rfl, hx2⟩
  have hxw2 := hx1.trans hx2
  have hF := few_any w2 T (HT.out.ext hxw2)
  go_wp2_with fail
  go_at_call 11
  refine hF.mono ?_
  rintro e w3 ⟨hx3, b, rfl, hb⟩
  have hxw3 := hxw2.trans hx3
  have hx13 := hx2.trans hx3
  clear hF hb
  cases b with
  | false =>
    go_wp2_with fail
    go_at_call 9
    refine (awake_any _).mono ?_
    rintro e w9 ⟨rfl, hx9⟩
    go_wp2_with fail
    go_ret
    exact ⟨rfl, hxw3.trans hx9⟩
  | true =>
    by_cases hV : T.toTr.Valid
    · have hn1 := hV.n1
      have hE : ∀ k, k < T.n → T.en k ≤ 1000000 := fun k hk => by have := (hV.pr k hk).2.2.2.2; omega
      have hts : tot T.en T.n ≤ 1000000 := by
        have h := tot_small (f := T.en) (c := 64) (n := T.n) (fun k hk => (hV.pr k hk).2.2.2.2)
        have := hV.n8; omega
      have hS := stamps_yes w3 T (HT.out.ext hxw3) hV hE
      have HV := Lib.hid hV
      have HTS := Lib.hid hts
      clear hV hE hts
      go_wp2_with fail
      go_at_call 14
      refine hS.mono ?_
      rintro e w4 ⟨hx4, ⟨hn, _⟩ | ⟨_, base, cap, rows, vs, hbl, rfl, hst, hR⟩⟩
      · exact absurd HV.out hn
      · have hxw4 := hxw3.trans hx4
        have hx14 := hx13.trans hx4
        have HST := Lib.hid hst
        have HR := Lib.hid hR
        have hVa := rvalid_any w4 T (HT.out.ext hxw4)
        clear hst hR hS hbl
        go_wp2_with fail
        go_at_call 12
        refine hVa.mono ?_
        rintro e w5 ⟨b, rfl, hb, hx5⟩
        obtain rfl : b = true := hb.2 HV.out
        have hxw5 := hxw4.trans hx5
        have hx15 := hx14.trans hx5
        have hRs := rstamps_any w5 T (HT.out.ext hxw5) HV.out rows HR.out
        clear hb hVa
        go_wp2_with fail
        go_at_call 20
        refine hRs.mono ?_
        rintro e w6 ⟨hx6, g, c, rb, f, rfl, hmm, hf⟩
        have hxw6 := hxw5.trans hx6
        have hx16 := hx15.trans hx6
        have hst6 := HST.out.ext (by omega) (hx5.trans hx6)
        have hSame := sameLists_any w6 (stMM base T.n cap rows vs) (ioMM g T.n c T.en rb f) hst6.mm hmm true
          ⟨fun _ => ⟨rfl, fun k hk => ⟨HR.out.len k hk, fun i hi => by
            have hi2 : i < T.en k := by rw [← HR.out.len k hk]; exact hi
            exact (hf k i hk hi2).symm⟩⟩, fun _ => rfl⟩
        simp only [stMM, ioMM] at hSame
        have HST6 := Lib.hid hst6
        clear hRs hmm hf hst6
        go_wp2_with fail
        go_at_call 19
        refine hSame.mono ?_
        rintro e w7 ⟨rfl, hx7⟩
        have hxw7 := hxw6.trans hx7
        have hx17 := hx16.trans hx7
        have hst7 := HST6.out.ext (by omega) hx7
        have hC := lcheck_yes w7 T (HT.out.ext hxw7) HV.out (stMM base T.n cap rows vs) hst7.mm
        have HCP := Lib.hid (show T.toTr.CheckP (stMM base T.n cap rows vs).toMx from HR.out.check HV.out HTS.out ⟨rfl, fun k hk => HR.out.len k hk⟩ (fun p i hp hi => rfl))
        simp only [stMM] at hC
        clear hSame hst7
        go_wp2_with fail
        go_at_call 21
        refine hC.mono ?_
        rintro e w8 ⟨b, rfl, hb, hx8⟩
        obtain rfl : b = true := hb.2 HCP.out
        clear hC hb
        go_wp2_with fail
        go_ret
        exact ⟨rfl, hxw7.trans hx8⟩
    · have hS := stamps_no w3 T (HT.out.ext hxw3) hV
      have HV := Lib.hid hV
      clear hV
      go_wp2_with fail
      go_at_call 14
      refine hS.mono ?_
      rintro e w4 ⟨hx4, ⟨_, rfl⟩ | ⟨hv, _⟩⟩
      · have hxw4 := hxw3.trans hx4
        have hx14 := hx13.trans hx4
        have hVa := rvalid_any w4 T (HT.out.ext hxw4)
        clear hS
        go_wp2_with fail
        go_at_call 12
        refine hVa.mono ?_
        rintro e w5 ⟨b, rfl, hb, hx5⟩
        obtain rfl : b = false := Bool.eq_false_iff.2 fun h => HV.out (hb.1 h)
        clear hb hVa
        go_wp2_with fail
        go_ret
        exact ⟨rfl, hxw4.trans hx5⟩
      · exact absurd hv HV.out
set_option maxRecDepth 100000 in
theorem lifted (os : Os) (started : os.Started) (H : Type) (enc : TypeId × Value → H) :
    ReturnsInHanded {} Try.checked os 5 .any (Rows.lamportStampsSpec.pre6 enc Try.prog Try.f5 Rows.lamportStampsRow.domain false) (Rows.lamportStampsSpec.post enc Try.prog Try.f5 false true false false) := by
  refine returnsInHanded_of_change_sized (C := Try.checked) own14 started (by kernel_rfl) Try.func5
    (ChangeSpec.witness6 (enc := enc) (C := Try.checked) false ⟨#[], #[.agg #[.slice none 0 0]], []⟩ 8 (by kernel_rfl) (by kernel_rfl) (by kernel_rfl) (by kernel_rfl)) ?_
  intro W base args ds gs before hval0 hW _ hsz0 _
  have hsz1 : (DataW.weightsEach Try.prog (Try.f5.params.toList ++ Rows.lamportStampsSpec.plain.varTypes Try.prog) (ds ++ gs)).all (· ≤ reachBytes) = true := hsz0
  clear hsz0
  have hval : ∀ (j : Nat) t v, Try.f5.params[j]? = some t → args[j]? = some v → Value.okWide Try.prog W .any base t v := hval0
  have hW' := hW
  obtain ⟨p, q, hA0, hV, rfl, hfz, hnd⟩ := hW
  have hA : DataW.TrodAll enc Try.prog W 0 (fun _ => true) true Try.f5.params.toList args.toList ds p := hA0
  rw [Try.params5] at hA hval hsz1
  obtain ⟨v0, vs0, d0, ds0, p0, q0, hargs, rfl, rfl, h0, r0⟩ := trodAll_cons hA
  obtain ⟨rfl, rfl, rfl⟩ := trodAll_nil r0
  obtain rfl : args = #[v0] := by cases args; simp_all
  obtain ⟨rfl, rfl⟩ := trodVars_none hV
  obtain ⟨T0, rfl, hT0⟩ := arg_trace (hval 0 29 v0 rfl rfl) h0 (small_of hsz1 (j := 0) rfl rfl)
  clear hA0 hval0 hsz1
  simp only [List.append_nil] at hW'
  have hl0 : ∀ x ∈ p0, x.block < W.heap.size := fun x hx => hW'.lt x (by simp [hx])
  refine (walk T0 W hT0).mono fun e W' ⟨he, hg⟩ => ?_
  subst he
  exact ⟨_, rfl, post_ext1 (pa := (p0 ++ [])) (pv := []) hW' (fun _ _ _ => (trodAll_cons_mk (shut_bool Try.underlying4 _) trodAll_mk0)) (trodAll_cons_mk (Below.trod laid14 (by kernel_rfl) (of_decide_eq_true (by kernel_rfl)) h0 hg.below hl0) trodAll_mk0) rfl hg⟩

theorem over : Rows.lamportStampsRow.holds Try.pinned (OpenSpec.ofChange Rows.lamportStampsSpec) :=
  OpenClaim.holds_of_wide 5 Try.f5 rfl rfl rfl rfl rfl rfl rfl ⟨rfl, rfl, rfl, rfl, rfl⟩ rfl rfl rfl rfl rfl (by kernel_rfl) Try.func5 (by kernel_rfl)
    (of_decide_eq_true (by kernel_rfl)) (by unfold Func.isWrapper; first | (rw [if_pos (by decide +kernel)]; kernel_rfl) | (rw [if_neg (by decide +kernel)]; exact ⟨rfl, rfl⟩))
    (fun os started H enc _ => lifted os started H enc)

/-- ████ THE STATEMENT ████ -/
theorem proved : Rows.LamportStampsSaid :=
  over
#print axioms proved
end Go.Proofs.Ytecgigeeolindaa.lamportStamps

