/- PROVED HERE: 'PredtypeResolves' returns true for every trace and every tree, in every memory that holds the package's table. -/
import Derived.Test.YtdplphoohnnbcaaGreatDoorHx
import Derived.Test.YtdplphoohnnbcaaGreatDoorHi
import Derived.Test.YtdplphoohnnbcaaGreatDoorHy
import Derived.Test.YtdplphoohnnbcaaGreatDoorHw
import Derived.Test.YtdplphoohnnbcaaGreatDoorIz
namespace Go.Proofs.YtdplphoohnnbcaaGreatDoor.predtypeResolves
open Go.ChangeShapes Go.WideShapes Go.ChangeAt Go.RowKit Go.Proofs.YtdplphoohnnbcaaGreatDoor
set_option linter.unusedVariables false

def TruePost (w : World) (e : Ending) (w' : World) : Prop := e = .returned (.bool true) ∧ Ext w w'
set_option maxRecDepth 100000 in
set_option maxHeartbeats 4000000 in
theorem walk (T : TM) (p : Pr) (w : World) (hT : T.At w) (hp : p.At w) (hTab : TabAt w) : Calls Tryz.prog 4 #[T.val, p.val] w (TruePost w) := by
  have HX := Lib.hid hT
  have HP := Lib.hid hp
  have HT := Lib.hid hTab
  clear hp hTab hT
  simp only [Pr.val, TM.val]
  go_enter Tryz.func4, Tryz.ntmps4
  go_upto_region 1 with fail
  refine boxed2 (w := w) (G := fun x => Code.wp _ _ _ _ x) ?_
  intro w1 hx1 hs1 ⟨l0, c0, _, _⟩ ⟨l1, c1, _, _⟩
  have hx11 : Ext w1 w1 := Ext.refl _
  have hA := awake_any w1 (HT.out.ext hx1)
  clear hs1
  go_wp2_with fail
  go_at_call 6
  refine hA.mono ?_
  rintro e w2 ⟨rfl, hx2⟩
  have hxw2 := hx1.trans hx2
  have hx12 := hx2
  clear hA
  have hF := fits_any w2 p (HP.out.ext hxw2)
  simp only [Pr.val] at hF
  go_wp2_with fail
  go_at_call 7
  refine hF.mono ?_
  rintro e w3 ⟨c, rfl, hq, hx3⟩
  clear hq
  have hxw3 := hxw2.trans hx3
  have hx13 := hx12.trans hx3
  clear hF
  cases c with
  | false =>
    go_wp2_with fail
    go_ret
    exact ⟨rfl, hxw3⟩
  | true =>
    have hS := sml_any w3 T (HX.out.ext hxw3)
    simp only [TM.val] at hS
    go_wp2_with fail
    go_at_call 8
    refine hS.mono ?_
    rintro e w4 ⟨hx4, b, rfl⟩
    have hxw4 := hxw3.trans hx4
    have hx14 := hx13.trans hx4
    clear hS
    cases b with
    | false =>
      go_wp2_with fail
      go_ret
      exact ⟨rfl, hxw4⟩
    | true =>
      have h1 := pResolve_any w4 (HT.out.ext hxw4) T (HX.out.ext hxw4) p (HP.out.ext hxw4)
      simp only [Pr.val, TM.val] at h1
      go_wp2_with fail
      go_at_call 13
      refine h1.mono ?_
      rintro e w5 ⟨hx5, q, c, rfl, hq, hi⟩
      have HQ := Lib.hid hq
      have HI := Lib.hid hi
      have hxw5 := hxw4.trans hx5
      have hx15 := hx14.trans hx5
      clear h1 hq hi
      simp only [Pr.val]
      go_upto_region 6 with fail
      refine boxed1 (w := w5) (G := fun x => Code.wp _ _ _ _ x) ?_
      intro w6 hx6 hs6 ⟨l6, c6, _, k6⟩
      have hx66 : Ext w6 w6 := Ext.refl _
      have hx16 := hx15.trans hx6
      have hxw6 := hxw5.trans hx6
      have h2 := rResolve_any w6 T (HX.out.ext hxw6) p (HP.out.ext hxw6)
      simp only [Pr.val, TM.val] at h2
      clear hs6 k6
      go_wp2_with fail
      go_at_call 14
      refine h2.mono ?_
      rintro e w7 ⟨hx7, q', c', rfl, hq', hi'⟩
      have HQ' := Lib.hid hq'
      obtain ⟨rfl, hl⟩ := HI.out.uniq hi'
      have HL := Lib.hid hl
      have hx17 := hx16.trans hx7
      have hx67 := hx7
      have hxw7 := hxw6.trans hx7
      clear h2 hq' hi' hl HI
      simp only [Pr.val]
      go_upto_region 7 with fail
      refine boxed1 (w := w7) (G := fun x => Code.wp _ _ _ _ x) ?_
      intro w8 hx8 hs8 ⟨l8, c8, _, k8⟩
      have hx88 : Ext w8 w8 := Ext.refl _
      have hx18 := hx17.trans hx8
      have hx68 := hx67.trans hx8
      have hxw8 := hxw7.trans hx8
      have h3 := rSame_any w8 q q' HL.out (HQ.out.ext (hx6.trans hx68)) (HQ'.out.ext hx8) w8 (Ext.refl _)
      simp only [Pr.val] at h3
      clear hs8 k8
      go_wp2_with fail
      go_at_call 15
      refine h3.mono ?_
      rintro e w9 ⟨rfl, hx9⟩
      clear h3
      go_wp2_with fail
      go_ret
      exact ⟨by simp, hxw8.trans hx9⟩

set_option maxRecDepth 100000 in
theorem contract (H : Type) (enc : TypeId × Value → H) (W : World) (base : Nat) (args : Array Value) (ds gs : List (DataW H)) (before : List MemPlace)
    (hval0 : ∀ (j : Nat) t v, Tryz.f4.params[j]? = some t → args[j]? = some v → Value.okWide Tryz.prog W .any base t v)
    (hW : DataW.Whole enc Tryz.prog Tryz.f4.params.toList Rows.predtypeResolvesSpec.vars false W args.toList ds gs before)
    (hsz0 : (DataW.weightsEach Tryz.prog (Tryz.f4.params.toList ++ (OpenSpec.ofChange Rows.predtypeResolvesSpec).bare.plain.varTypes Tryz.prog) (ds ++ gs)).all (· ≤ reachBytes) = true) (hL : laidMetH Tryz.prog Rows.predtypeResolvesRow.laid W) :
    Calls Tryz.prog 4 args W fun e W' => ∃ v, e = .returned v ∧ Rows.predtypeResolvesSpec.post enc Tryz.prog Tryz.f4 false true false false W args v W' := by
  have hsz1 := hsz0
  have hval := hval0
  clear hsz0
  have hW' := hW
  obtain ⟨p, q, hA0, hV, rfl, hfz, hnd⟩ := hW
  have hA : DataW.TrodAll enc Tryz.prog W 0 (fun _ => true) true Tryz.f4.params.toList args.toList ds p := hA0
  rw [Tryz.params4] at hA hval hsz1
  obtain ⟨v0, vs0, d0, ds0, p0, q0, hargs, rfl, rfl, h0, r0⟩ := trodAll_cons hA
  obtain ⟨v1, vs1, d1, ds1, p1, q1, rfl, rfl, rfl, h1, r1⟩ := trodAll_cons r0
  obtain ⟨rfl, rfl, rfl⟩ := trodAll_nil r1
  obtain rfl : args = #[v0, v1] := by cases args; simp_all
  obtain ⟨rfl, rfl⟩ := trodVars_none hV
  obtain ⟨T0, rfl, hX0⟩ := arg_trace (hval 0 24 v0 rfl rfl) h0 (small_of hsz1 (j := 0) rfl rfl)
  obtain ⟨P1, rfl, hX1⟩ := arg_pred (hval 1 27 v1 rfl rfl) h1 (small_of hsz1 (j := 1) rfl rfl)
  clear hA0 hval0 hsz1
  simp only [List.append_nil] at hW'
  have hl1 : ∀ x ∈ p1, x.block < W.heap.size := fun x hx => hW'.lt x (by simp [hx])
  have hl0 : ∀ x ∈ p0, x.block < W.heap.size := fun x hx => hW'.lt x (by simp [hx])
  refine (walk T0 P1 W hX0 hX1 (tab_of hL)).mono fun e W' ⟨he, hg⟩ => ?_
  subst he
  exact ⟨_, rfl, post_ext1 (pa := (p0 ++ (p1 ++ []))) (pv := []) hW' (fun _ _ _ => (trodAll_cons_mk (shut_bool Tryz.underlying4 _) trodAll_mk0)) (trodAll_cons_mk (Below.trod laid14 (by kernel_rfl) (of_decide_eq_true (by kernel_rfl)) h0 hg.below hl0) (trodAll_cons_mk (Below.trod laid14 (by kernel_rfl) (of_decide_eq_true (by kernel_rfl)) h1 hg.below hl1) trodAll_mk0)) rfl hg⟩

abbrev arg0 : Value := .agg #[.slice none 0 0]
abbrev arg1 : Value := .agg #[.int .i64 0, .int .i64 0, .int .i64 0, .int .i64 0, .string ⟨#[]⟩, .slice none 0 0]
set_option maxRecDepth 100000 in
theorem laid_met (os : Os) : laidMet Tryz.prog Rows.predtypeResolvesRow.laid ((laidWorld os).forCall (fun _ _ => 0) ⟨#[], #[arg0, arg1], []⟩).memory :=
  laidMet_of_run' 8 (by kernel_rfl) (by kernel_rfl)
set_option maxRecDepth 100000 in
theorem reads (os : Os) {H : Type} (enc : TypeId × Value → H) : ∃ d places, DataW.whole enc Tryz.prog ((laidWorld os).forCall (fun _ _ => 0) ⟨#[], #[arg0, arg1], []⟩).memory Tryz.f4.params.toList Rows.predtypeResolvesSpec.vars false #[arg0, arg1].toList 8 = some (d, [], places) :=
  ⟨[.agg [.nil], .agg [.lit (.int .i64 0), .lit (.int .i64 0), .lit (.int .i64 0), .lit (.int .i64 0), .lit (.string []), .nil]], [], by kernel_rfl⟩
set_option maxRecDepth 100000 in
theorem lifted (os : Os) (started : os.Started) (H : Type) (enc : TypeId × Value → H) (F : Stop.Interp) :
    ReturnsInHanded {} Tryz.checked os 4 .any ((OpenSpec.ofChange Rows.predtypeResolvesSpec).preRow enc Tryz.prog Tryz.f4 Rows.predtypeResolvesRow.domain false Rows.predtypeResolvesRow.laid) (((OpenSpec.ofChange Rows.predtypeResolvesSpec).at F).post enc Tryz.prog Tryz.f4 false true false false) := by
  obtain ⟨d, places, hx⟩ := reads os enc
  refine returnsInHanded_of_row (C := Tryz.checked) (s := OpenSpec.ofChange Rows.predtypeResolvesSpec) own14 started (by kernel_rfl) Tryz.func4
    (witness_row_at (enc := enc) (C := Tryz.checked) false (laidWorld os) #[arg0, arg1] rfl (by kernel_rfl) (by kernel_rfl) (by kernel_rfl)
      (OpenSpec.preRow_of_cond 8 hx (by kernel_rfl) (fun k hk => by cases hk) (by kernel_rfl) (laid_met os))) ?_
  intro W base args ds gs before hval hW _ _ hsz hL _ _
  exact contract H enc W base args ds gs before hval hW hsz hL

theorem over : Rows.PredtypeResolvesSaid :=
  OpenClaim.holds_of_cond 4 Tryz.f4 rfl rfl rfl rfl rfl rfl rfl ⟨rfl, rfl, rfl, rfl, rfl⟩ rfl rfl rfl rfl rfl (by kernel_rfl) Tryz.func4 (by kernel_rfl)
    (of_decide_eq_true (by kernel_rfl)) (by unfold Func.isWrapper; first | (rw [if_pos (by decide +kernel)]; kernel_rfl) | (rw [if_neg (by decide +kernel)]; exact ⟨rfl, rfl⟩))
    (fun os started H enc _ F => by rw [OpenClaim.pre_eq_preRow]; exact lifted os started H enc F)

theorem plain (f : FuncId) (fn : Func) (hf : Tryz.pinned.checked.prog.funcNamed "antecede/antecedelaw28.PredtypeResolves" = some f) (hfn : Tryz.pinned.checked.prog.funcs[f]? = some fn) :
    false = Tryz.pinned.checked.prog.looks [] ∧ ∀ (j : Nat) t, fn.params[j]? = some t → Tryz.pinned.checked.prog.wantsStandIn t = false := by
  obtain rfl : f = 4 := Option.some.inj ((show Tryz.prog.funcNamed "antecede/antecedelaw28.PredtypeResolves" = some 4 by kernel_rfl).symm.trans hf) |>.symm
  obtain rfl : fn = Tryz.f4 := (Option.some.inj (Tryz.func4.symm.trans hfn)).symm
  refine ⟨by kernel_rfl, fun j t ht => ?_⟩
  rw [Tryz.params4] at ht
  have hm : t = 24 ∨ t = 27 := by simpa using Array.mem_of_getElem? ht
  rcases hm with rfl | rfl
  · exact (show Tryz.prog.wantsStandIn 24 = false by kernel_rfl)
  · exact (show Tryz.prog.wantsStandIn 27 = false by kernel_rfl)

/-- ████ THE STATEMENT ████ -/
theorem proved : Rows.PredtypeResolvesCardSaid :=
  Claim7.holds_tied_plain_at .later [] _ _ _ _ over (fun _ h => by cases h) (by kernel_rfl) (fun _ h => by cases h) predtypeResolves_row_tie rfl ⟨rfl, rfl⟩ (by kernel_rfl) rfl plain (by kernel_rfl)
#print axioms proved

end Go.Proofs.YtdplphoohnnbcaaGreatDoor.predtypeResolves
