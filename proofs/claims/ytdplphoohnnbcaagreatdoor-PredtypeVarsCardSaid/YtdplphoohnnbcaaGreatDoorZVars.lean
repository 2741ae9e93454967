/- PROVED HERE: 'PredtypeVars' returns true for every tree, in every memory that holds the package's table. -/
import Derived.Test.YtdplphoohnnbcaaGreatDoorHx
import Derived.Test.YtdplphoohnnbcaaGreatDoorHi
import Derived.Test.YtdplphoohnnbcaaGreatDoorHw
import Derived.Test.YtdplphoohnnbcaaGreatDoorHv
import Derived.Test.YtdplphoohnnbcaaGreatDoorJc
import Derived.Test.YtdplphoohnnbcaaGreatDoorJb
namespace Go.Proofs.YtdplphoohnnbcaaGreatDoor.predtypeVars
open Go.ChangeShapes Go.WideShapes Go.ChangeAt Go.RowKit Go.Proofs.YtdplphoohnnbcaaGreatDoor
set_option linter.unusedVariables false

theorem rowHas_at {w : World} {v : Value} {l : List Trm} (h : RowHas w v 3 l.length (tmCells l)) (hn : l.length ≤ 1000) : ∃ a g off cap, v = .slice a l.length cap ∧ TmAt w a g off l := by
  rcases h with ⟨h0, a, c, rfl⟩ | ⟨g, off, cap, rfl, h2, h5⟩
  · exact ⟨a, 0, 0, c, by rw [h0], ⟨by omega, fun h => by omega, fun h => by omega, fun w' _ k hk => by omega, fun w' _ k hk => by omega, fun w' _ k hk => by omega⟩⟩
  · have c : ∀ w', Ext w w' → ∀ j, j < l.length * 3 → w'.cell? ⟨g, off + j, none⟩ = (tmCells l)[j]? := fun w' x j hj => by
      have e := h5 j hj
      have hlt : j < (tmCells l).length := by rw [tmCells_length]; exact hj
      rw [List.getElem?_eq_getElem hlt] at e ⊢
      exact x.cell e
    exact ⟨_, g, off, cap, rfl, ⟨by omega, fun _ => rfl, fun _ w' x => Nat.lt_of_lt_of_le h2 x.le, fun w' x k hk => by rw [c w' x _ (by omega)]; exact (tmCells_get l k hk).1,
      fun w' x k hk => by rw [Nat.add_assoc, c w' x _ (by omega)]; exact (tmCells_get l k hk).2.1, fun w' x k hk => by rw [Nat.add_assoc, c w' x _ (by omega)]; exact (tmCells_get l k hk).2.2⟩⟩
def TruePost (w : World) (e : Ending) (w' : World) : Prop := e = .returned (.bool true) ∧ Ext w w'
set_option maxRecDepth 100000 in
set_option maxHeartbeats 4000000 in
theorem walk (p : Pr) (w : World) (hp : p.At w) (hTab : TabAt w) : Calls Tryz.prog 5 #[p.val] w (TruePost w) := by
  have HP := Lib.hid hp
  have HT := Lib.hid hTab
  clear hp hTab
  simp only [Pr.val]
  go_enter Tryz.func5, Tryz.ntmps5
  go_upto_region 1 with fail
  refine boxed1 (w := w) (G := fun x => Code.wp _ _ _ _ x) ?_
  intro w1 hx1 hs1 ⟨l0, c0, _, _⟩
  have hx11 : Ext w1 w1 := Ext.refl _
  have hA := awake_any w1 (HT.out.ext hx1)
  clear hs1
  go_wp2_with fail
  go_at_call 6
  refine hA.mono ?_
  rintro e w2 ⟨rfl, hx2⟩
  have hxw2 := hx1.trans hx2
  have hx12 := hx2
  clear hA
  have hF := fits_any w2 p (HP.out.ext hxw2)
  simp only [Pr.val] at hF
  go_wp2_with fail
  go_at_call 7
  refine hF.mono ?_
  rintro e w3 ⟨c, rfl, hq, hx3⟩
  clear hq
  have hxw3 := hxw2.trans hx3
  have hx13 := hx12.trans hx3
  clear hF
  cases c with
  | false =>
    go_wp2_with fail
    go_ret
    exact ⟨rfl, hxw3⟩
  | true =>
    have h1 := pVars_any w3 (HT.out.ext hxw3) p (HP.out.ext hxw3)
    simp only [Pr.val] at h1
    go_wp2_with fail
    go_at_call 16
    refine h1.mono ?_
    rintro e w4 ⟨hx4, v, c, rfl, hi⟩
    have hxw4 := hxw3.trans hx4
    have hx14 := hx13.trans hx4
    have h2 := rFormed_any w4 p (HP.out.ext hxw4)
    simp only [Pr.val] at h2
    clear h1
    rcases hi with ⟨hn, rfl, rfl⟩ | ⟨hf, rfl, hrow⟩
    · have HN := Lib.hid hn
      clear hn
      go_wp2_with fail
      go_at_call 17
      refine h2.mono ?_
      rintro e w5 ⟨b, rfl, hb, hx5⟩
      obtain rfl : b = false := by
        cases b with
        | false => rfl
        | true => exact absurd (hb.1 rfl) HN.out
      clear hb h2
      go_wp2_with fail
      go_ret
      exact ⟨rfl, hxw4.trans hx5⟩
    · have HFF := Lib.hid hf
      have HR := Lib.hid hrow
      have hsl := sortedT_len (p.foldP stepTm [])
      have hfl := foldP_m (m := List.length) stepTm_len p []
      have hcnt := hf.1
      obtain ⟨a, g, off, cap, rfl, hat⟩ := rowHas_at hrow (by simp at hfl; omega)
      have HAT := Lib.hid hat
      have HLE := Lib.hid (show (sortedT (p.foldP stepTm [])).length ≤ 1000 from by simp at hfl; omega)
      clear hf hrow hat hsl hfl hcnt
      go_wp2_with fail
      go_at_call 17
      refine h2.mono ?_
      rintro e w5 ⟨b, rfl, hb, hx5⟩
      obtain rfl : b = true := hb.2 HFF.out
      have hxw5 := hxw4.trans hx5
      have hx15 := hx14.trans hx5
      have h3 := rVars_any w5 p HFF.out.2.2 (HP.out.ext hxw5) (by have := HFF.out.1; omega)
      simp only [Pr.val] at h3
      clear hb h2
      go_wp2_with fail
      go_at_call 19
      refine h3.mono ?_
      rintro e w6 ⟨v6, rfl, hx6, hown⟩
      obtain ⟨a6, g6, off6, cap6, rfl, hat6, _⟩ := hown.at HLE.out
      have hxw6 := hxw5.trans hx6
      have hEq := equalTm_any w6 a a6 g g6 off off6 cap cap6 _ (HAT.out.ext (hx5.trans hx6)) hat6
      have HEQ := Lib.hid hEq
      clear h3 hown hat6 hEq
      go_wp2_with fail
      go_at_call 18
      refine HEQ.out.mono ?_
      rintro e w7 ⟨rfl, hx7⟩
      go_wp2_with fail
      go_ret
      exact ⟨rfl, hxw6.trans hx7⟩

set_option maxRecDepth 100000 in
theorem contract (H : Type) (enc : TypeId × Value → H) (W : World) (base : Nat) (args : Array Value) (ds gs : List (DataW H)) (before : List MemPlace)
    (hval0 : ∀ (j : Nat) t v, Tryz.f5.params[j]? = some t → args[j]? = some v → Value.okWide Tryz.prog W .any base t v)
    (hW : DataW.Whole enc Tryz.prog Tryz.f5.params.toList Rows.predtypeVarsSpec.vars false W args.toList ds gs before)
    (hsz0 : (DataW.weightsEach Tryz.prog (Tryz.f5.params.toList ++ (OpenSpec.ofChange Rows.predtypeVarsSpec).bare.plain.varTypes Tryz.prog) (ds ++ gs)).all (· ≤ reachBytes) = true) (hL : laidMetH Tryz.prog Rows.predtypeVarsRow.laid W) :
    Calls Tryz.prog 5 args W fun e W' => ∃ v, e = .returned v ∧ Rows.predtypeVarsSpec.post enc Tryz.prog Tryz.f5 false true false false W args v W' := by
  have hsz1 := hsz0
  have hval := hval0
  clear hsz0
  have hW' := hW
  obtain ⟨p, q, hA0, hV, rfl, hfz, hnd⟩ := hW
  have hA : DataW.TrodAll enc Tryz.prog W 0 (fun _ => true) true Tryz.f5.params.toList args.toList ds p := hA0
  rw [Tryz.params5] at hA hval hsz1
  obtain ⟨v0, vs0, d0, ds0, p0, q0, hargs, rfl, rfl, h0, r0⟩ := trodAll_cons hA
  obtain ⟨rfl, rfl, rfl⟩ := trodAll_nil r0
  obtain rfl : args = #[v0] := by cases args; simp_all
  obtain ⟨rfl, rfl⟩ := trodVars_none hV
  obtain ⟨P0, rfl, hX0⟩ := arg_pred (hval 0 27 v0 rfl rfl) h0 (small_of hsz1 (j := 0) rfl rfl)
  clear hA0 hval0 hsz1
  simp only [List.append_nil] at hW'
  have hl0 : ∀ x ∈ p0, x.block < W.heap.size := fun x hx => hW'.lt x (by simp [hx])
  refine (walk P0 W hX0 (tab_of hL)).mono fun e W' ⟨he, hg⟩ => ?_
  subst he
  exact ⟨_, rfl, post_ext1 (pa := (p0 ++ [])) (pv := []) hW' (fun _ _ _ => (trodAll_cons_mk (shut_bool Tryz.underlying4 _) trodAll_mk0)) (trodAll_cons_mk (Below.trod laid14 (by kernel_rfl) (of_decide_eq_true (by kernel_rfl)) h0 hg.below hl0) trodAll_mk0) rfl hg⟩

abbrev arg0 : Value := .agg #[.int .i64 0, .int .i64 0, .int .i64 0, .int .i64 0, .string ⟨#[]⟩, .slice none 0 0]
set_option maxRecDepth 100000 in
theorem laid_met (os : Os) : laidMet Tryz.prog Rows.predtypeVarsRow.laid ((laidWorld os).forCall (fun _ _ => 0) ⟨#[], #[arg0], []⟩).memory :=
  laidMet_of_run' 8 (by kernel_rfl) (by kernel_rfl)
set_option maxRecDepth 100000 in
theorem reads (os : Os) {H : Type} (enc : TypeId × Value → H) : ∃ d places, DataW.whole enc Tryz.prog ((laidWorld os).forCall (fun _ _ => 0) ⟨#[], #[arg0], []⟩).memory Tryz.f5.params.toList Rows.predtypeVarsSpec.vars false #[arg0].toList 8 = some (d, [], places) :=
  ⟨[.agg [.lit (.int .i64 0), .lit (.int .i64 0), .lit (.int .i64 0), .lit (.int .i64 0), .lit (.string []), .nil]], [], by kernel_rfl⟩
set_option maxRecDepth 100000 in
theorem lifted (os : Os) (started : os.Started) (H : Type) (enc : TypeId × Value → H) (F : Stop.Interp) :
    ReturnsInHanded {} Tryz.checked os 5 .any ((OpenSpec.ofChange Rows.predtypeVarsSpec).preRow enc Tryz.prog Tryz.f5 Rows.predtypeVarsRow.domain false Rows.predtypeVarsRow.laid) (((OpenSpec.ofChange Rows.predtypeVarsSpec).at F).post enc Tryz.prog Tryz.f5 false true false false) := by
  obtain ⟨d, places, hx⟩ := reads os enc
  refine returnsInHanded_of_row (C := Tryz.checked) (s := OpenSpec.ofChange Rows.predtypeVarsSpec) own14 started (by kernel_rfl) Tryz.func5
    (witness_row_at (enc := enc) (C := Tryz.checked) false (laidWorld os) #[arg0] rfl (by kernel_rfl) (by kernel_rfl) (by kernel_rfl)
      (OpenSpec.preRow_of_cond 8 hx (by kernel_rfl) (fun k hk => by cases hk) (by kernel_rfl) (laid_met os))) ?_
  intro W base args ds gs before hval hW _ _ hsz hL _ _
  exact contract H enc W base args ds gs before hval hW hsz hL

theorem over : Rows.PredtypeVarsSaid :=
  OpenClaim.holds_of_cond 5 Tryz.f5 rfl rfl rfl rfl rfl rfl rfl ⟨rfl, rfl, rfl, rfl, rfl⟩ rfl rfl rfl rfl rfl (by kernel_rfl) Tryz.func5 (by kernel_rfl)
    (of_decide_eq_true (by kernel_rfl)) (by unfold Func.isWrapper; first | (rw [if_pos (by decide +kernel)]; kernel_rfl) | (rw [if_neg (by decide +kernel)]; exact ⟨rfl, rfl⟩))
    (fun os started H enc _ F => by rw [OpenClaim.pre_eq_preRow]; exact lifted os started H enc F)

theorem plain (f : FuncId) (fn : Func) (hf : Tryz.pinned.checked.prog.funcNamed "antecede/antecedelaw28.PredtypeVars" = some f) (hfn : Tryz.pinned.checked.prog.funcs[f]? = some fn) :
    false = Tryz.pinned.checked.prog.looks [] ∧ ∀ (j : Nat) t, fn.params[j]? = some t → Tryz.pinned.checked.prog.wantsStandIn t = false := by
  obtain rfl : f = 5 := Option.some.inj ((show Tryz.prog.funcNamed "antecede/antecedelaw28.PredtypeVars" = some 5 by kernel_rfl).symm.trans hf) |>.symm
  obtain rfl : fn = Tryz.f5 := (Option.some.inj (Tryz.func5.symm.trans hfn)).symm
  refine ⟨by kernel_rfl, fun j t ht => ?_⟩
  rw [Tryz.params5] at ht
  have hm : t = 27 := by simpa using Array.mem_of_getElem? ht
  rcases hm with rfl
  · exact (show Tryz.prog.wantsStandIn 27 = false by kernel_rfl)

/-- ████ THE STATEMENT ████ -/
theorem proved : Rows.PredtypeVarsCardSaid :=
  Claim7.holds_tied_plain_at .later [] _ _ _ _ over (fun _ h => by cases h) (by kernel_rfl) (fun _ h => by cases h) predtypeVars_row_tie rfl ⟨rfl, rfl⟩ (by kernel_rfl) rfl plain (by kernel_rfl)
#print axioms proved

end Go.Proofs.YtdplphoohnnbcaaGreatDoor.predtypeVars
