/- PROVED HERE: 'PredtypeTypes' returns true for every tree, in every memory that holds the package's table. -/
import Derived.Test.YtdplphoohnnbcaaDoorHx
import Derived.Test.YtdplphoohnnbcaaDoorHi
import Derived.Test.YtdplphoohnnbcaaDoorHw
import Derived.Test.YtdplphoohnnbcaaDoorHv
namespace Go.Proofs.YtdplphoohnnbcaaDoor.predtypeTypes
open Go.ChangeShapes Go.WideShapes Go.ChangeAt Go.RowKit Go.Proofs.YtdplphoohnnbcaaDoor
set_option linter.unusedVariables false

def TruePost (w : World) (e : Ending) (w' : World) : Prop := e = .returned (.bool true) ∧ Ext w w'
set_option maxRecDepth 100000 in
set_option maxHeartbeats 2000000 in
theorem walk (p : Pr) (w : World) (hp : p.At w) (hTab : TabAt w) : Calls Tryd.prog 4 #[p.val] w (TruePost w) := by
  have HP := Lib.hid hp
  have HT := Lib.hid hTab
  clear hp hTab
  simp only [Pr.val]
  go_enter Tryd.func4, Tryd.ntmps4
  go_upto_region 1 with fail
  refine boxed1 (w := w) (G := fun x => Code.wp _ _ _ _ x) ?_
  intro w1 hx1 hs1 ⟨l0, c0, _, _⟩
  have hx11 : Ext w1 w1 := Ext.refl _
  have hA := awake_any w1 (HT.out.ext hx1)
  clear hs1
  go_wp2_with fail
  go_at_call 7
  refine hA.mono ?_
  rintro e w2 ⟨rfl, hx2⟩
  have hxw2 := hx1.trans hx2
  have hx12 := hx2
  clear hA
  have hF := fits_any w2 p (HP.out.ext hxw2)
  simp only [Pr.val] at hF
  go_wp2_with fail
  go_at_call 13
  refine hF.mono ?_
  rintro e w3 ⟨c, rfl, hq, hx3⟩
  clear hq
  have hxw3 := hxw2.trans hx3
  have hx13 := hx12.trans hx3
  clear hF
  cases c with
  | false =>
    go_wp2_with fail
    go_ret
    exact ⟨rfl, hxw3⟩
  | true =>
    have h1 := pType_any w3 (HT.out.ext hxw3) p (HP.out.ext hxw3)
    simp only [Pr.val] at h1
    go_wp2_with fail
    go_at_call 14
    refine h1.mono ?_
    rintro e w4 ⟨hx4, x, k, rfl, hi⟩
    have HI := Lib.hid hi
    have hxw4 := hxw3.trans hx4
    have hx14 := hx13.trans hx4
    clear h1 hi
    have h2 := rType_any w4 p (HP.out.ext hxw4)
    simp only [Pr.val] at h2
    go_wp2_with fail
    go_at_call 15
    refine h2.mono ?_
    rintro e w5 ⟨hx5, x', k', rfl, hi⟩
    obtain ⟨rfl, rfl⟩ := Pr.TypeIs.uniq HI.out hi
    have hxw5 := hxw4.trans hx5
    have hx15 := hx14.trans hx5
    clear h2 hi HI
    obtain ⟨b, hb⟩ := exists_bool (p.Formed ∧ ¬ p.NoTemp)
    have hP : ∀ W, Ext w W → Calls Tryd.prog 16 #[p.val] W fun e w' => e = .returned (.bool b) ∧ Ext W w' := fun W hx =>
      (pTemporal_any W (HT.out.ext hx) p (HP.out.ext hx)).mono fun e w' ⟨c, he, hc, hx'⟩ => ⟨by rw [he, show c = b from Bool.eq_iff_iff.2 (hc.trans hb.symm)], hx'⟩
    have hR : ∀ W, Ext w W → Calls Tryd.prog 17 #[p.val] W fun e w' => e = .returned (.bool b) ∧ Ext W w' := fun W hx =>
      (rTemporal_any W p (HP.out.ext hx)).mono fun e w' ⟨c, he, hc, hx'⟩ => ⟨by rw [he, show c = b from Bool.eq_iff_iff.2 (hc.trans hb.symm)], hx'⟩
    simp only [Pr.val] at hP hR
    have HPt := Lib.hid hP
    have HRt := Lib.hid hR
    have hgw : ∀ d os, Ext w (Sort.grow (redrawn w5 d) os) := fun d os => hxw5.trans (below_regrown w5 d os)
    have hg1 : ∀ d os, Ext w1 (Sort.grow (redrawn w5 d) os) := fun d os => hx15.trans (below_regrown w5 d os)
    clear hP hR hb
    go_upto_region 7 with fail
    refine wp_region_quiet_below (by kernel_rfl) (by kernel_rfl) ?_
    repeat (go_big_quiet_step (first | exact Calls.regrown_of (HPt.out _ (hgw _ _)) | exact Calls.regrown_of (HRt.out _ (hgw _ _))))
    refine wpQuiet_nil ?_
    intro _ hw'
    obtain ⟨⟨dq, osq⟩, hw''⟩ := hw'
    subst hw''
    have hxw6 := hgw dq osq
    generalize Sort.grow (redrawn w5 dq) osq = w6 at hxw6 ⊢
    go_wp2_with fail
    go_ret
    exact ⟨by simp, hxw6⟩

set_option maxRecDepth 100000 in
theorem contract (H : Type) (enc : TypeId × Value → H) (W : World) (base : Nat) (args : Array Value) (ds gs : List (DataW H)) (before : List MemPlace)
    (hval0 : ∀ (j : Nat) t v, Tryd.f4.params[j]? = some t → args[j]? = some v → Value.okWide Tryd.prog W .any base t v)
    (hW : DataW.Whole enc Tryd.prog Tryd.f4.params.toList Rows.predtypeTypesSpec.vars false W args.toList ds gs before)
    (hsz0 : (DataW.weightsEach Tryd.prog (Tryd.f4.params.toList ++ (OpenSpec.ofChange Rows.predtypeTypesSpec).bare.plain.varTypes Tryd.prog) (ds ++ gs)).all (· ≤ reachBytes) = true) (hL : laidMetH Tryd.prog Rows.predtypeTypesRow.laid W) :
    Calls Tryd.prog 4 args W fun e W' => ∃ v, e = .returned v ∧ Rows.predtypeTypesSpec.post enc Tryd.prog Tryd.f4 false true false false W args v W' := by
  have hsz1 := hsz0
  have hval := hval0
  clear hsz0
  have hW' := hW
  obtain ⟨p, q, hA0, hV, rfl, hfz, hnd⟩ := hW
  have hA : DataW.TrodAll enc Tryd.prog W 0 (fun _ => true) true Tryd.f4.params.toList args.toList ds p := hA0
  rw [Tryd.params4] at hA hval hsz1
  obtain ⟨v0, vs0, d0, ds0, p0, q0, hargs, rfl, rfl, h0, r0⟩ := trodAll_cons hA
  obtain ⟨rfl, rfl, rfl⟩ := trodAll_nil r0
  obtain rfl : args = #[v0] := by cases args; simp_all
  obtain ⟨rfl, rfl⟩ := trodVars_none hV
  obtain ⟨P0, rfl, hP0⟩ := arg_pred (hval 0 27 v0 rfl rfl) h0 (small_of hsz1 (j := 0) rfl rfl)
  clear hA0 hval0 hsz1
  simp only [List.append_nil] at hW'
  have hl0 : ∀ x ∈ p0, x.block < W.heap.size := fun x hx => hW'.lt x (by simp [hx])
  refine (walk P0 W hP0 (tab_of hL)).mono fun e W' ⟨he, hg⟩ => ?_
  subst he
  exact ⟨_, rfl, post_ext1 (pa := (p0 ++ [])) (pv := []) hW' (fun _ _ _ => (trodAll_cons_mk (shut_bool Tryd.underlying4 _) trodAll_mk0)) (trodAll_cons_mk (Below.trod laid14 (by kernel_rfl) (of_decide_eq_true (by kernel_rfl)) h0 hg.below hl0) trodAll_mk0) rfl hg⟩

noncomputable abbrev arg0 : Value := .agg #[.int .i64 0, .int .i64 0, .int .i64 0, .int .i64 0, .string ⟨#[]⟩, .slice none 0 0]
set_option maxRecDepth 100000 in
theorem laid_met (os : Os) : laidMet Tryd.prog Rows.predtypeTypesRow.laid ((laidWorld os).forCall (fun _ _ => 0) ⟨#[], #[arg0], []⟩).memory :=
  laidMet_of_run' 8 (by kernel_rfl) (by kernel_rfl)
set_option maxRecDepth 100000 in
theorem reads (os : Os) {H : Type} (enc : TypeId × Value → H) : ∃ d places, DataW.whole enc Tryd.prog ((laidWorld os).forCall (fun _ _ => 0) ⟨#[], #[arg0], []⟩).memory Tryd.f4.params.toList Rows.predtypeTypesSpec.vars false #[arg0].toList 8 = some ([d], [], places) :=
  ⟨.agg [.lit (.int .i64 0), .lit (.int .i64 0), .lit (.int .i64 0), .lit (.int .i64 0), .lit (.string []), .nil], [], by kernel_rfl⟩
set_option maxRecDepth 100000 in
theorem lifted (os : Os) (started : os.Started) (H : Type) (enc : TypeId × Value → H) (F : Stop.Interp) :
    ReturnsInHanded {} Tryd.checked os 4 .any ((OpenSpec.ofChange Rows.predtypeTypesSpec).preRow enc Tryd.prog Tryd.f4 Rows.predtypeTypesRow.domain false Rows.predtypeTypesRow.laid) (((OpenSpec.ofChange Rows.predtypeTypesSpec).at F).post enc Tryd.prog Tryd.f4 false true false false) := by
  obtain ⟨d, places, hx⟩ := reads os enc
  refine returnsInHanded_of_row (C := Tryd.checked) (s := OpenSpec.ofChange Rows.predtypeTypesSpec) own14 started (by kernel_rfl) Tryd.func4
    (witness_row_at (enc := enc) (C := Tryd.checked) false (laidWorld os) #[arg0] rfl (by kernel_rfl) (by kernel_rfl) (by kernel_rfl)
      (OpenSpec.preRow_of_cond 8 hx (by kernel_rfl) (fun k hk => by cases hk) (by kernel_rfl) (laid_met os))) ?_
  intro W base args ds gs before hval hW _ _ hsz hL _ _
  exact contract H enc W base args ds gs before hval hW hsz hL

theorem over : Rows.PredtypeTypesSaid :=
  OpenClaim.holds_of_cond 4 Tryd.f4 rfl rfl rfl rfl rfl rfl rfl ⟨rfl, rfl, rfl, rfl, rfl⟩ rfl rfl rfl rfl rfl (by kernel_rfl) Tryd.func4 (by kernel_rfl)
    (of_decide_eq_true (by kernel_rfl)) (by unfold Func.isWrapper; first | (rw [if_pos (by decide +kernel)]; kernel_rfl) | (rw [if_neg (by decide +kernel)]; exact ⟨rfl, rfl⟩))
    (fun os started H enc _ F => by rw [OpenClaim.pre_eq_preRow]; exact lifted os started H enc F)

theorem plain (f : FuncId) (fn : Func) (hf : Tryd.pinned.checked.prog.funcNamed "antecede/antecedelaw28.PredtypeTypes" = some f) (hfn : Tryd.pinned.checked.prog.funcs[f]? = some fn) :
    false = Tryd.pinned.checked.prog.looks [] ∧ ∀ (j : Nat) t, fn.params[j]? = some t → Tryd.pinned.checked.prog.wantsStandIn t = false := by
  obtain rfl : f = 4 := Option.some.inj ((show Tryd.prog.funcNamed "antecede/antecedelaw28.PredtypeTypes" = some 4 by kernel_rfl).symm.trans hf) |>.symm
  obtain rfl : fn = Tryd.f4 := (Option.some.inj (Tryd.func4.symm.trans hfn)).symm
  refine ⟨by kernel_rfl, fun j t ht => ?_⟩
  rw [Tryd.params4] at ht
  obtain rfl : t = 27 := by simpa using Array.mem_of_getElem? ht
  exact (show Tryd.prog.wantsStandIn 27 = false by kernel_rfl)

/-- ████ THE STATEMENT ████ -/
theorem proved : Rows.PredtypeTypesCardSaid :=
  Claim7.holds_tied_plain_at .later [] _ _ _ _ over (fun _ h => by cases h) (by kernel_rfl) (fun _ h => by cases h) predtypeTypes_row_tie rfl ⟨rfl, rfl⟩ (by kernel_rfl) rfl plain (by kernel_rfl)
#print axioms proved
end Go.Proofs.YtdplphoohnnbcaaDoor.predtypeTypes
