/- Contracts: causality.before, Before (of events of a valid trace). Contract: causality.Before (of events of a valid trace). Contract of the law's events: all events in order. Parts of the law LamportOrder: what happens before has a smaller stamp; stamps read from memory. -/
import Derived.Test.YtecgigeeolindaaGm
import Derived.Test.YtecgigeeolindaaGi
import Derived.Test.YtecgigeeolindaaGn
import Derived.Deep.RegionHeld3
import Derived.Lib.QuietBelow
import Derived.Test.YtecgigeeolindaaGo
import Derived.Test.YtecgigeeolindaaGq
import Derived.Test.YtecgigeeolindaaGj
namespace Go.Proofs.Ytecgigeeolindaa
open Go.RowKit Go.Shelf

/-- x happened before y (of a valid trace) -/
def Tr.Bef (T : Tr) (x y : NN) : Prop := x ≠ y ∧ T.Past y x
theorem heldTake {P : Program} {Q : Exit → Act → World → Prop} {md : Region.Mode} {S : World → Prop} {l : List Oper} (i : Nat) {oi : Oper} {v : Value} {fuel : Nat} {listed : Array Bool} {a : Act} {w : World} (hi : l[i]? = some oi)
    (hs : Region.noSelect l.toArray = true) (hf : Region.free md l.toArray listed i = true) (hr : (Region.ready md l.toArray listed).contains i = true)
    (hQ : ∀ c a w, Q (.panic c) (a.put oi.dst v) w → Q (.panic c) a w) (hy : YieldsIf P l.toArray S oi v a) (hS : S w)
    (h : wpAnyH P md l.toArray Q S fuel (listed.setIfInBounds i true) (a.put oi.dst v) w) : wpAnyH P md l.toArray Q S (fuel + 1) listed a w :=
  wpAnyH_take (by simpa using hi) hs hf hr hQ hy hS h
set_option maxRecDepth 100000 in
set_option maxHeartbeats 400000 in
theorem before_any (w : World) (T : TM) (hT : T.At w) (hV : T.toTr.Valid) (x y : NN) (hx : T.toTr.V x) (hy : T.toTr.V y) (bs br : Nat) (hK : KnAt T bs br w) :
    Calls Try.prog 42 #[T.kn bs br, .agg #[.int .i64 x.1, .int .i64 (x.2 + 1)], .agg #[.int .i64 y.1, .int .i64 (y.2 + 1)]] w (BoolPost (T.toTr.Bef x y) w) := by
  have pa := hT.P.pa (by have := hx.1; omega)
  have hn8 := hV.n8
  have hP := fun W (h : Ext w W) => past_any W T (hT.ext h) hV y hy bs br (hK.ext h)
  simp only [TM.kn, pa] at hP
  obtain ⟨xp, xi⟩ := x
  obtain ⟨yp, yi⟩ := y
  have hxp : xp < T.n := hx.1
  have hxe : xi < T.en xp := hx.2
  have hen : T.en xp ≤ 64 := (hV.pr xp hxp).2.2.2.2
  have hxp' : (xp : Int) < (T.n : Int) := by omega
  dsimp only at hP ⊢
  have HP := Lib.hid hP
  clear hT hV hK hP hx hy
  go_enter Try.func42, Try.ntmps42
  go_upto_region 1 with fail
  refine boxed3 (w := w) (G := fun x => Code.wp _ _ _ _ x) ?_
  intro w1 hx1 hs1 ⟨l0, c0, _, _⟩ ⟨l1, c1, _, _⟩ ⟨l2, c2, _, _⟩
  have hx11 : Ext w1 w1 := Ext.refl _
  clear hs1
  by_cases hxy : (xp, xi) = (yp, yi)
  · have e1 : xp = yp := congrArg Prod.fst hxy
    have e2 : xi = yi := congrArg Prod.snd hxy
    subst e1 e2
    clear hxy
    go_quiet (fail)
    go_wp2_with fail
    go_ret
    exact BoolPost.no (fun h => h.1 rfl) (hx1.drewN _)
  · have HXY := Lib.hid hxy
    have hb0 : (xp : Int) = (yp : Int) → ¬ (xi : Int) = (yi : Int) := fun h1 h2 => hxy (by rw [show xp = yp by omega, show xi = yi by omega])
    by_cases hpp : xp = yp
    · have hb1 : ((xp : Int) == (yp : Int)) = true := by simp; omega
      have hb2 : ((xi : Int) == (yi : Int)) = false := by simp; exact fun h => hb0 (by omega) (by omega)
      have hb3 : ((xi : Int) + 1 == (yi : Int) + 1) = false := by simp; exact fun h => hb0 (by omega) (by omega)
      clear hb0 hxy hpp
      refine wp_region_held_drew (S := fun w' => Ext w1 w') (by kernel_rfl) (Ext.refl w1).drew (fun hHeld => ?_)
      refine heldTake 0 (v := ?_) rfl (by kernel_rfl) (by kernel_rfl) (by kernel_rfl) (fun _ _ _ h => h) (Or.inl ⟨by rfl, ?_⟩) (by assumption) ?_
      rotate_left
      · (intro w' hSw; (try dsimp only at hSw); go_simp; try with_reducible rfl)
      simp only [Act.put, List.setIfInBounds_toArray, List.set_cons_zero, List.set_cons_succ]
      refine heldTake 1 (v := ?_) rfl (by kernel_rfl) (by kernel_rfl) (by kernel_rfl) (fun _ _ _ h => h) (Or.inl ⟨by rfl, ?_⟩) (by assumption) ?_
      rotate_left
      · (intro w' hSw; (try dsimp only at hSw); go_simp; try with_reducible rfl)
      simp only [Act.put, List.setIfInBounds_toArray, List.set_cons_zero, List.set_cons_succ]
      refine heldTake 2 (v := ?_) rfl (by kernel_rfl) (by kernel_rfl) (by kernel_rfl) (fun _ _ _ h => h) (Or.inl ⟨by rfl, ?_⟩) (by assumption) ?_
      rotate_left
      · (intro w' hSw; (try dsimp only at hSw); go_simp; try with_reducible rfl)
      simp only [Act.put, List.setIfInBounds_toArray, List.set_cons_zero, List.set_cons_succ]
      refine heldTake 3 (v := ?_) rfl (by kernel_rfl) (by kernel_rfl) (by kernel_rfl) (fun _ _ _ h => h) (Or.inl ⟨by rfl, ?_⟩) (by assumption) ?_
      rotate_left
      · (intro w' hSw; (try dsimp only at hSw); go_simp; try with_reducible rfl)
      simp only [Act.put, List.setIfInBounds_toArray, List.set_cons_zero, List.set_cons_succ]
      refine heldTake 4 (v := ?_) rfl (by kernel_rfl) (by kernel_rfl) (by kernel_rfl) (fun _ _ _ h => h) (Or.inl ⟨by rfl, ?_⟩) (by assumption) ?_
      rotate_left
      · (intro w' hSw; (try dsimp only at hSw); go_simp; try with_reducible rfl)
      simp only [Act.put, List.setIfInBounds_toArray, List.set_cons_zero, List.set_cons_succ]
      refine heldTake 5 (v := ?_) rfl (by kernel_rfl) (by kernel_rfl) (by kernel_rfl) (fun _ _ _ h => h) (Or.inl ⟨by rfl, ?_⟩) (by assumption) ?_
      rotate_left
      · (intro w' hSw; (try dsimp only at hSw); go_simp; try with_reducible rfl)
      simp only [Act.put, List.setIfInBounds_toArray, List.set_cons_zero, List.set_cons_succ]
      refine heldTake 7 (v := ?_) rfl (by kernel_rfl) (by kernel_rfl) (by kernel_rfl) (fun _ _ _ h => h) (Or.inl ⟨by rfl, ?_⟩) (by assumption) ?_
      rotate_left
      · (intro w' hSw; (try dsimp only at hSw); go_simp; try with_reducible rfl)
      simp only [Act.put, List.setIfInBounds_toArray, List.set_cons_zero, List.set_cons_succ]
      refine heldTake 8 (v := ?_) rfl (by kernel_rfl) (by kernel_rfl) (by kernel_rfl) (fun _ _ _ h => h) (Or.inl ⟨by rfl, ?_⟩) (by assumption) ?_
      rotate_left
      · (intro w' hSw; (try dsimp only at hSw); go_simp; try with_reducible rfl)
      simp only [Act.put, List.setIfInBounds_toArray, List.set_cons_zero, List.set_cons_succ]
      refine heldTake 11 (v := ?_) rfl (by kernel_rfl) (by kernel_rfl) (by kernel_rfl) (fun _ _ _ h => h) (Or.inl ⟨by rfl, ?_⟩) (by assumption) ?_
      rotate_left
      · (intro w' hSw; (try dsimp only at hSw); go_simp; try with_reducible rfl)
      simp only [Act.put, List.setIfInBounds_toArray, List.set_cons_zero, List.set_cons_succ]
      refine heldTake 12 (v := ?_) rfl (by kernel_rfl) (by kernel_rfl) (by kernel_rfl) (fun _ _ _ h => h) (Or.inl ⟨by rfl, ?_⟩) (by assumption) ?_
      rotate_left
      · (intro w' hSw; (try dsimp only at hSw); go_simp; try with_reducible rfl)
      simp only [Act.put, List.setIfInBounds_toArray, List.set_cons_zero, List.set_cons_succ]
      refine wpAnyH_ready (rs := [6]) (by kernel_rfl) (by simp) ?_
      refine AllReadyH.cons rfl (fun K hK => ?_) AllReadyH.nil
      go_simp
      go_at_call 61
      refine (HP.out _ hx1.drew).mono ?_
      rintro e w5 ⟨hx5, cg, c, rfl, hcg, hcr, hpc⟩
      have hS5 : Ext w1 w5 := (Ext.refl w1).drew.trans hx5
      have hc5 := hcr.c xp hxp
      have hl5 := hcr.lt
      have HPC := Lib.hid hpc
      clear hcr hpc hcg
      refine hK.out _ _ hS5 (fun hHeld2 => ?_)
      clear hK K
      try simp only [Act.put, List.setIfInBounds_toArray, List.set_cons_zero, List.set_cons_succ]
      refine heldTake 9 (v := ?_) rfl (by kernel_rfl) (by kernel_rfl) (by kernel_rfl) (fun _ _ _ h => h) (Or.inl ⟨by rfl, ?_⟩) (by assumption) ?_
      rotate_left
      · (intro w' hSw; (try dsimp only at hSw); go_simp; try with_reducible rfl)
      simp only [Act.put, List.setIfInBounds_toArray, List.set_cons_zero, List.set_cons_succ]
      refine wpAnyH_ready (rs := [10]) (by kernel_rfl) (by simp) ?_
      refine AllReadyH.cons rfl (fun K hK => ?_) AllReadyH.nil
      go_simp
      refine hK.out _ _ hS5 (fun hHeld3 => ?_)
      clear hK K
      try simp only [Act.put, List.setIfInBounds_toArray, List.set_cons_zero, List.set_cons_succ]
      refine heldTake 13 (v := ?_) rfl (by kernel_rfl) (by kernel_rfl) (by kernel_rfl) (fun _ _ _ h => h) (Or.inl ⟨by rfl, ?_⟩) (by assumption) ?_
      rotate_left
      · (intro w' hSw; (try dsimp only at hSw); go_simp; try with_reducible rfl)
      simp only [Act.put, List.setIfInBounds_toArray, List.set_cons_zero, List.set_cons_succ]
      refine heldTake 14 (v := ?_) rfl (by kernel_rfl) (by kernel_rfl) (by kernel_rfl) (fun _ _ _ h => h) (Or.inl ⟨by rfl, ?_⟩) (by assumption) ?_
      rotate_left
      · (intro w' hSw; (try dsimp only at hSw); go_simp; try with_reducible rfl)
      simp only [Act.put, List.setIfInBounds_toArray, List.set_cons_zero, List.set_cons_succ]
      refine heldTake 15 (v := ?_) rfl (by kernel_rfl) (by kernel_rfl) (by kernel_rfl) (fun _ _ _ h => h) (Or.inl ⟨by rfl, ?_⟩) (by assumption) ?_
      rotate_left
      · (intro w' hSw; (try dsimp only at hSw); go_simp; try with_reducible rfl)
      simp only [Act.put, List.setIfInBounds_toArray, List.set_cons_zero, List.set_cons_succ]
      refine wpAnyH_done (by kernel_rfl) ?_ _
      simp only [Exit.then]
      clear hHeld hHeld2 hHeld3 hc5 hl5
      go_wp2_with fail
      go_ret
      refine ⟨_, rfl, ?_, hx1.trans hS5⟩
      rw [decide_eq_true_iff]
      refine Iff.trans ?_ (and_iff_right HXY.out).symm
      refine Iff.trans ?_ (HPC.out.2 xp xi hxp)
      omega
    · have hb1 : ((xp : Int) == (yp : Int)) = false := by simp; omega
      clear hb0 hxy hpp
      refine wp_region_held_drew (S := fun w' => Ext w1 w') (by kernel_rfl) (Ext.refl w1).drew (fun hHeld => ?_)
      refine heldTake 0 (v := ?_) rfl (by kernel_rfl) (by kernel_rfl) (by kernel_rfl) (fun _ _ _ h => h) (Or.inl ⟨by rfl, ?_⟩) (by assumption) ?_
      rotate_left
      · (intro w' hSw; (try dsimp only at hSw); go_simp; try with_reducible rfl)
      simp only [Act.put, List.setIfInBounds_toArray, List.set_cons_zero, List.set_cons_succ]
      refine heldTake 1 (v := ?_) rfl (by kernel_rfl) (by kernel_rfl) (by kernel_rfl) (fun _ _ _ h => h) (Or.inl ⟨by rfl, ?_⟩) (by assumption) ?_
      rotate_left
      · (intro w' hSw; (try dsimp only at hSw); go_simp; try with_reducible rfl)
      simp only [Act.put, List.setIfInBounds_toArray, List.set_cons_zero, List.set_cons_succ]
      refine heldTake 2 (v := ?_) rfl (by kernel_rfl) (by kernel_rfl) (by kernel_rfl) (fun _ _ _ h => h) (Or.inl ⟨by rfl, ?_⟩) (by assumption) ?_
      rotate_left
      · (intro w' hSw; (try dsimp only at hSw); go_simp; try with_reducible rfl)
      simp only [Act.put, List.setIfInBounds_toArray, List.set_cons_zero, List.set_cons_succ]
      refine heldTake 3 (v := ?_) rfl (by kernel_rfl) (by kernel_rfl) (by kernel_rfl) (fun _ _ _ h => h) (Or.inl ⟨by rfl, ?_⟩) (by assumption) ?_
      rotate_left
      · (intro w' hSw; (try dsimp only at hSw); go_simp; try with_reducible rfl)
      simp only [Act.put, List.setIfInBounds_toArray, List.set_cons_zero, List.set_cons_succ]
      refine heldTake 4 (v := ?_) rfl (by kernel_rfl) (by kernel_rfl) (by kernel_rfl) (fun _ _ _ h => h) (Or.inl ⟨by rfl, ?_⟩) (by assumption) ?_
      rotate_left
      · (intro w' hSw; (try dsimp only at hSw); go_simp; try with_reducible rfl)
      simp only [Act.put, List.setIfInBounds_toArray, List.set_cons_zero, List.set_cons_succ]
      refine heldTake 5 (v := ?_) rfl (by kernel_rfl) (by kernel_rfl) (by kernel_rfl) (fun _ _ _ h => h) (Or.inl ⟨by rfl, ?_⟩) (by assumption) ?_
      rotate_left
      · (intro w' hSw; (try dsimp only at hSw); go_simp; try with_reducible rfl)
      simp only [Act.put, List.setIfInBounds_toArray, List.set_cons_zero, List.set_cons_succ]
      refine heldTake 7 (v := ?_) rfl (by kernel_rfl) (by kernel_rfl) (by kernel_rfl) (fun _ _ _ h => h) (Or.inl ⟨by rfl, ?_⟩) (by assumption) ?_
      rotate_left
      · (intro w' hSw; (try dsimp only at hSw); go_simp; try with_reducible rfl)
      simp only [Act.put, List.setIfInBounds_toArray, List.set_cons_zero, List.set_cons_succ]
      refine heldTake 8 (v := ?_) rfl (by kernel_rfl) (by kernel_rfl) (by kernel_rfl) (fun _ _ _ h => h) (Or.inl ⟨by rfl, ?_⟩) (by assumption) ?_
      rotate_left
      · (intro w' hSw; (try dsimp only at hSw); go_simp; try with_reducible rfl)
      simp only [Act.put, List.setIfInBounds_toArray, List.set_cons_zero, List.set_cons_succ]
      refine heldTake 11 (v := ?_) rfl (by kernel_rfl) (by kernel_rfl) (by kernel_rfl) (fun _ _ _ h => h) (Or.inl ⟨by rfl, ?_⟩) (by assumption) ?_
      rotate_left
      · (intro w' hSw; (try dsimp only at hSw); go_simp; try with_reducible rfl)
      simp only [Act.put, List.setIfInBounds_toArray, List.set_cons_zero, List.set_cons_succ]
      refine heldTake 12 (v := ?_) rfl (by kernel_rfl) (by kernel_rfl) (by kernel_rfl) (fun _ _ _ h => h) (Or.inl ⟨by rfl, ?_⟩) (by assumption) ?_
      rotate_left
      · (intro w' hSw; (try dsimp only at hSw); go_simp; try with_reducible rfl)
      simp only [Act.put, List.setIfInBounds_toArray, List.set_cons_zero, List.set_cons_succ]
      refine wpAnyH_ready (rs := [6]) (by kernel_rfl) (by simp) ?_
      refine AllReadyH.cons rfl (fun K hK => ?_) AllReadyH.nil
      go_simp
      go_at_call 61
      refine (HP.out _ hx1.drew).mono ?_
      rintro e w5 ⟨hx5, cg, c, rfl, hcg, hcr, hpc⟩
      have hS5 : Ext w1 w5 := (Ext.refl w1).drew.trans hx5
      have hc5 := hcr.c xp hxp
      have hl5 := hcr.lt
      have HPC := Lib.hid hpc
      clear hcr hpc hcg
      refine hK.out _ _ hS5 (fun hHeld2 => ?_)
      clear hK K
      try simp only [Act.put, List.setIfInBounds_toArray, List.set_cons_zero, List.set_cons_succ]
      refine heldTake 9 (v := ?_) rfl (by kernel_rfl) (by kernel_rfl) (by kernel_rfl) (fun _ _ _ h => h) (Or.inl ⟨by rfl, ?_⟩) (by assumption) ?_
      rotate_left
      · (intro w' hSw; (try dsimp only at hSw); go_simp; try with_reducible rfl)
      simp only [Act.put, List.setIfInBounds_toArray, List.set_cons_zero, List.set_cons_succ]
      refine wpAnyH_ready (rs := [10]) (by kernel_rfl) (by simp) ?_
      refine AllReadyH.cons rfl (fun K hK => ?_) AllReadyH.nil
      go_simp
      refine hK.out _ _ hS5 (fun hHeld3 => ?_)
      clear hK K
      try simp only [Act.put, List.setIfInBounds_toArray, List.set_cons_zero, List.set_cons_succ]
      refine heldTake 13 (v := ?_) rfl (by kernel_rfl) (by kernel_rfl) (by kernel_rfl) (fun _ _ _ h => h) (Or.inl ⟨by rfl, ?_⟩) (by assumption) ?_
      rotate_left
      · (intro w' hSw; (try dsimp only at hSw); go_simp; try with_reducible rfl)
      simp only [Act.put, List.setIfInBounds_toArray, List.set_cons_zero, List.set_cons_succ]
      refine heldTake 14 (v := ?_) rfl (by kernel_rfl) (by kernel_rfl) (by kernel_rfl) (fun _ _ _ h => h) (Or.inl ⟨by rfl, ?_⟩) (by assumption) ?_
      rotate_left
      · (intro w' hSw; (try dsimp only at hSw); go_simp; try with_reducible rfl)
      simp only [Act.put, List.setIfInBounds_toArray, List.set_cons_zero, List.set_cons_succ]
      refine heldTake 15 (v := ?_) rfl (by kernel_rfl) (by kernel_rfl) (by kernel_rfl) (fun _ _ _ h => h) (Or.inl ⟨by rfl, ?_⟩) (by assumption) ?_
      rotate_left
      · (intro w' hSw; (try dsimp only at hSw); go_simp; try with_reducible rfl)
      simp only [Act.put, List.setIfInBounds_toArray, List.set_cons_zero, List.set_cons_succ]
      refine wpAnyH_done (by kernel_rfl) ?_ _
      simp only [Exit.then]
      clear hHeld hHeld2 hHeld3 hc5 hl5
      go_wp2_with fail
      go_ret
      refine ⟨_, rfl, ?_, hx1.trans hS5⟩
      rw [decide_eq_true_iff]
      refine Iff.trans ?_ (and_iff_right HXY.out).symm
      refine Iff.trans ?_ (HPC.out.2 xp xi hxp)
      omega
end Go.Proofs.Ytecgigeeolindaa

namespace Go.Proofs.Ytecgigeeolindaa
open Go.RowKit Go.Shelf


set_option maxRecDepth 100000 in
set_option maxHeartbeats 400000 in
/-- causality.Before, of events of a valid trace -/
theorem cbefore_any (w : World) (T : TM) (hT : T.At w) (hV : T.toTr.Valid) (x y : NN) (hx : T.toTr.V x) (hy : T.toTr.V y) (b : Bool) (hb : b = true ↔ T.toTr.Bef x y) :
    Calls Try.prog 17 #[T.val, .agg #[.int .i64 x.1, .int .i64 (x.2 + 1)], .agg #[.int .i64 y.1, .int .i64 (y.2 + 1)]] w fun e w' => e = .returned (.tuple #[.bool b, .int .i64 0]) ∧ Ext w w' := by
  have pa := hT.P.pa (by have := hx.1; omega)
  have hCk := fun W (h : Ext w W) g hg => check_two W T (hT.ext h) hV g x y hx hy hg
  have hKn := fun W (h : Ext w W) => knows_any W T (hT.ext h) hV
  have hBf := fun W (h : Ext w W) bs br hK => (before_any W T (hT.ext h) hV x y hx hy bs br hK).mono (R' := fun e w' => e = .returned (.bool b) ∧ Ext W w') fun e w' ⟨c, he, hc, hx'⟩ => ⟨by rw [he, show c = b by rw [Bool.eq_iff_iff, hc, hb]], hx'⟩
  obtain ⟨xp, xi⟩ := x
  obtain ⟨yp, yi⟩ := y
  simp only [TM.val, pa] at hCk hKn
  dsimp only at hCk hKn hBf ⊢
  have HCk := Lib.hid hCk
  have HKn := Lib.hid hKn
  have HBf := Lib.hid hBf
  clear hT hV hCk hKn hBf hb hx hy
  go_enter Try.func17, Try.ntmps17
  go_upto_region 1 with fail
  refine boxed3 (w := w) (G := fun x => Code.wp _ _ _ _ x) ?_
  intro w1 hx1 hs1 ⟨l0, c0, _, _⟩ ⟨l1, c1, _, _⟩ ⟨l2, c2, _, _⟩
  have hx11 : Ext w1 w1 := Ext.refl _
  clear hs1
  go_wp2_with fail
  go_at_call 41
  refine (HCk.out _ (hx1.alloc' _) _ (Hold.new _ _ _)).mono ?_
  rintro e w2 ⟨rfl, hx2⟩
  have hx12 : Ext w1 w2 := (Ext.alloc _ _).trans hx2
  have hx22 : Ext w2 w2 := Ext.refl _
  clear hx2
  go_upto_region 4 with fail
  refine wp_region_held_drew (S := fun w' => Ext w1 w') (by kernel_rfl) hx12.drew (fun hHeld => ?_)
  refine heldTake 0 (v := ?_) rfl (by kernel_rfl) (by kernel_rfl) (by kernel_rfl) (fun _ _ _ h => h) (Or.inl ⟨by rfl, ?_⟩) (by assumption) ?_
  rotate_left
  · (intro w' hSw; (try dsimp only at hSw); go_simp; try with_reducible rfl)
  simp only [Act.put, List.setIfInBounds_toArray, List.set_cons_zero, List.set_cons_succ]
  refine heldTake 2 (v := ?_) rfl (by kernel_rfl) (by kernel_rfl) (by kernel_rfl) (fun _ _ _ h => h) (Or.inl ⟨by rfl, ?_⟩) (by assumption) ?_
  rotate_left
  · (intro w' hSw; (try dsimp only at hSw); go_simp; try with_reducible rfl)
  simp only [Act.put, List.setIfInBounds_toArray, List.set_cons_zero, List.set_cons_succ]
  refine heldTake 3 (v := ?_) rfl (by kernel_rfl) (by kernel_rfl) (by kernel_rfl) (fun _ _ _ h => h) (Or.inl ⟨by rfl, ?_⟩) (by assumption) ?_
  rotate_left
  · (intro w' hSw; (try dsimp only at hSw); go_simp; try with_reducible rfl)
  simp only [Act.put, List.setIfInBounds_toArray, List.set_cons_zero, List.set_cons_succ]
  refine wpAnyH_ready (rs := [1]) (by kernel_rfl) (by simp) ?_
  refine AllReadyH.cons rfl (fun K hK => ?_) AllReadyH.nil
  go_simp
  go_at_call 43
  refine (HKn.out _ (hx1.trans hx12.drew)).mono ?_
  rintro e w5 ⟨hx5, bs, br, rfl, hKA⟩
  have hS5 : Ext w1 w5 := hx12.drew.trans hx5
  have HBf5 := HBf.out w5 (hx1.trans hS5) bs br hKA
  clear hKA
  refine hK.out _ _ hS5 (fun hHeld2 => ?_)
  clear hK K
  try simp only [Act.put, List.setIfInBounds_toArray, List.set_cons_zero, List.set_cons_succ]
  refine wpAnyH_ready (rs := [4]) (by kernel_rfl) (by simp) ?_
  refine AllReadyH.cons rfl (fun K hK => ?_) AllReadyH.nil
  go_simp
  go_at_call 42
  refine HBf5.mono ?_
  rintro e w6 ⟨rfl, hx6⟩
  have hS6 : Ext w1 w6 := hS5.trans hx6
  refine hK.out _ _ hS6 (fun hHeld3 => ?_)
  clear hK K
  try simp only [Act.put, List.setIfInBounds_toArray, List.set_cons_zero, List.set_cons_succ]
  refine heldTake 5 (v := ?_) rfl (by kernel_rfl) (by kernel_rfl) (by kernel_rfl) (fun _ _ _ h => h) (Or.inl ⟨by rfl, ?_⟩) (by assumption) ?_
  rotate_left
  · (intro w' hSw; (try dsimp only at hSw); go_simp; try with_reducible rfl)
  simp only [Act.put, List.setIfInBounds_toArray, List.set_cons_zero, List.set_cons_succ]
  refine heldTake 6 (v := ?_) rfl (by kernel_rfl) (by kernel_rfl) (by kernel_rfl) (fun _ _ _ h => h) (Or.inl ⟨by rfl, ?_⟩) (by assumption) ?_
  rotate_left
  · (intro w' hSw; (try dsimp only at hSw); go_simp; try with_reducible rfl)
  simp only [Act.put, List.setIfInBounds_toArray, List.set_cons_zero, List.set_cons_succ]
  refine wpAnyH_done (by kernel_rfl) ?_ _
  simp only [Exit.then]
  clear hHeld hHeld2 hHeld3
  go_wp2_with fail
  go_ret2
  exact ⟨rfl, hx1.trans hS6⟩

end Go.Proofs.Ytecgigeeolindaa

namespace Go.Proofs.Ytecgigeeolindaa
open Go.RowKit Go.Shelf

structure LevI (T : TM) (ta : Option Addr) (w : World) (k i : Nat) (v : Value) (wr : World) : Prop where
  h0 : Hold wr w.heap.size #[.slice ta T.n T.cap]
  own : EvOwn wr (w.heap.size + 1) v (T.toTr.evL k i)
  bl : Ext w wr
theorem LevI.ext {T : TM} {ta : Option Addr} {w wr w' : World} {k i : Nat} {v : Value} (h : LevI T ta w k i v wr) (x : Ext wr w') : LevI T ta w k i v w' := ⟨h.h0.ext x, h.own.kept x, h.bl.trans x⟩
set_option maxRecDepth 100000 in
set_option maxHeartbeats 1000000 in
/-- the law's list of events -/
theorem levents_any (w : World) (T : TM) (hT : T.At w) (hn8 : T.n ≤ 10) (ht80 : tot T.en T.n ≤ 80) :
    Calls Try.prog 25 #[T.val] w (EvsPost T w) := by
  obtain ⟨i0, hi0, hz0, hz1, hz2⟩ := info_parts infoEv
  have hE8 : ∀ k, k < T.n → T.en k ≤ 80 := fun k hk => Nat.le_trans (tot_one_le hk) ht80
  have hT8 := fun k (hk : k < T.n) => Nat.le_trans (tot_mono (f := T.en) (k := k + 1) hk) ht80
  have HT8 := Lib.hid hT8
  obtain ⟨ta, hta⟩ : ∃ a, a = T.a := ⟨_, rfl⟩
  have HTA := Lib.hid hta
  have HT := Lib.hid hT
  clear hT hT8 ht80
  go_enter Try.func25, Try.ntmps25
  go_upto_region 1 with fail
  refine boxed1 (w := w) (G := fun x => Code.wp _ _ _ _ x) ?_
  intro w1 hx1 hs1 ⟨l0, c0, _, k0⟩
  have hx11 : Ext w1 w1 := Ext.refl _
  rw [← hta] at c0 k0
  clear hta
  have HI1 := Lib.hid (LevI.mk (T := T) (ta := ta) (w := w) (k := 0) (i := 0) (v := .slice none 0 0) (wr := w1) k0 (EvOwn.nil _ _) hx1)
  clear k0 hs1
  go_wp2_with fail
  go_loopg [3, 9] T.n (fun gg v3 v10 wr => ∃ k : Nat, k ≤ T.n ∧ gg = T.n - k ∧ v10 = .int .i64 k ∧ LevI T ta w k 0 v3 wr)
  case atStart => exact ⟨0, by omega, rfl, rfl, HI1.out⟩
  case round =>
    obtain ⟨k, hk, rfl, rfl, hI⟩ := hrel
    have hxr := hI.bl
    have hrr : Ext wr wr := Ext.refl _
    have HI := Lib.hid hI
    clear hI
    by_cases hlt : k < T.n
    · have hlt' : (k : Int) < (T.n : Int) := by omega
      obtain ⟨ea, hea⟩ : ∃ a, a = T.ea k := ⟨_, rfl⟩
      obtain rfl : ta = some ⟨T.b, T.off, none⟩ := by rw [HTA.out]; exact HT.out.P.pa (by omega)
      have pb := HT.out.P.pb (by omega)
      have p2k : ∀ w', Ext w w' → w'.cell? ⟨T.b, T.off + k * 3 + 2, none⟩ = some (.slice ea (T.en k) (T.ec k)) := fun w' h => by rw [hea]; exact HT.out.P.p2 w' h k hlt
      have hen := hE8 k hlt
      have htk : tot T.en k + T.en k ≤ 80 := HT8.out k hlt
      have HI3 := HI
      obtain ⟨l0, c0, _, _⟩ := HI.out.h0.box
      clear hea
      go_wp2_with fail
      go_loopg [3, 19] (T.en k) (fun gg v3 v18 wi => ∃ i : Nat, i ≤ T.en k ∧ gg = T.en k - i ∧ v18 = .int .i64 i ∧ LevI T (some ⟨T.b, T.off, none⟩) w k i v3 wi)
      case atStart => exact ⟨0, by omega, rfl, rfl, HI3.out⟩
      case round =>
        obtain ⟨i, hi, rfl, rfl, hI⟩ := hrel
        have HI := Lib.hid hI
        clear hI
        by_cases hli : i < T.en k
        · have hli' : (i : Int) < (T.en k : Int) := by omega
          have hlen : (T.toTr.evL k i).length = tot T.en k + i := by unfold Tr.evL; rw [List.length_map]; exact T.toTr.evsTo_tot k i hlt (by omega)
          have hown := HI.out.own
          unfold EvOwn at hown
          have HO := Lib.hid hown
          clear hown
          go_wp2_with (at_builtin; refine wpList_append_own _ rfl _ _ 37 rfl (w.heap.size + 1) 31 i0 (.agg #[.int .i64 0, .int .i64 0]) 2 16 Try.underlying37 hi0 hz0 hz1 hz2 rfl (by decide) u3 (T.toTr.evL k i).length (evCells (T.toTr.evL k i)) rfl (by exact HO.out.alloc _) ⟨wr.heap.size, 0, none⟩ 1 1 [.int .i64 k, .int .i64 (i + 1)] rfl rfl (by exact news_ok wr [_, _] _) (by intro u hu; simp at hu; rcases hu with rfl | rfl <;> rfl) (by rw [hlen]; unfold maxLen; omega) (by rw [hlen]; omega) (by have := HI.out.h0.lt; simp; omega) ?_; rintro v6 w6 hown6 hg6 -; have H6 := Lib.hid (And.intro hown6 hg6); clear hown6 hg6)
          go_roundg (T.en k - (i + 1))
          case rel =>
            have hb6 : Below (w.heap.size + 1) wr w6 := ((Below.refl _ _).alloc (by have := HI.out.h0.lt; omega) _).grown H6.out.2 (by have := HI.out.h0.lt; simp; omega) HI.out.own.block
            refine ⟨i + 1, by omega, rfl, by go_num, HI.out.h0.below hb6 (by omega), ?_, Below.trans HI.out.bl (Below.mono hb6 (by omega))⟩
            rw [Tr.evL_succ _ _ _ hlt hli]; exact EvOwn.snoc H6.out.1
          case measure => omega
        · have hie : i = T.en k := by omega
          subst hie
          go_wp2_with fail
          go_roundg (T.n - (k + 1))
          case rel => exact ⟨k + 1, by omega, rfl, by go_num, HI.out.h0, by have := HI.out.own; unfold Tr.evL at this ⊢; rw [← Tr.evsTo_next]; exact this, HI.out.bl⟩
          case measure => omega
    · have hke : k = T.n := by omega
      subst hke
      go_wp2_with fail
      go_ret
      exact ⟨HI.out.bl, _, rfl, World.ownsRow.mono HI.out.own (by omega)⟩

end Go.Proofs.Ytecgigeeolindaa

namespace Go.Proofs.Ytecgigeeolindaa
open Go.RowKit Go.Shelf

theorem Tr.past_lt {T : Tr} {f : NN → Int} (hf : ∀ x, T.V x → ∀ y, T.Dir y x → f y < f x) {x y : NN} (hy : T.V y) (h : T.Past y x) : f x ≤ f y ∧ (x ≠ y → f x < f y) := by
  induction h with
  | self => exact ⟨Int.le_refl _, fun h => absurd rfl h⟩
  | @step u z h d ih =>
    have := hf u (h.V hy) z d
    exact ⟨by omega, fun _ => by omega⟩
theorem Tr.Stamps.bef_lt {T : Tr} {rows : Nat → List Int} (h : T.Stamps rows) {x y : NN} (hy : T.V y) (hb : T.Bef x y) : stOf rows x < stOf rows y :=
  (Tr.past_lt (f := stOf rows) (fun _ hx _ hd => h.dir_lt hx hd) hy hb.2).2 hb.1
theorem Tr.CheckP.bef_lt {T : Tr} {M : Mx} (h : T.CheckP M) {x y : NN} (hy : T.V y) (hb : T.Bef x y) : M.val x.1 x.2 < M.val y.1 y.2 :=
  (Tr.past_lt (f := fun z => M.val z.1 z.2) (fun x hx y hd => (Tr.rck_iff.1 ((Tr.check_iff.2 h).2.2 x.1 x.2 hx.1 hx.2)).2.2 y hd) hy hb.2).2 hb.1
theorem StS.read {base n : Nat} {rows : Nat → List Int} {vs : Nat → Value} {w : World} (h : StS base base n rows vs w) {k i : Nat} (hk : k < n) (hi : i < (rows k).length) :
    ∃ gx cx, (∀ w', Ext w w' → w'.cell? ⟨base, k, none⟩ = some (.slice (some ⟨gx, 0, none⟩) (rows k).length cx)) ∧ (∀ w', Ext w w' → gx < w'.heap.size) ∧ ∀ w', Ext w w' → w'.cell? ⟨gx, i, none⟩ = some (.int .i64 ((rows k).getD i 0)) := by
  have hf := (h.own k hk).form
  have h0 : 0 < (rows k).length := by omega
  refine ⟨vBlock (vs k), vCap (vs k), fun w' x => ?_, fun w' x => Nat.lt_of_lt_of_le ((h.own k hk).lt _ (hf.2.2.2.1 h0)) x.le, fun w' x => ?_⟩
  · rw [x.cell (h.cell k hk), ← hf.2.1 h0]; exact congrArg some hf.1
  · rw [hf.2.2.2.2 w' x i hi, List.getD_eq_getElem?_getD, List.getElem?_eq_getElem hi]; rfl
/-- the number of skipped pairs does not depend on which stamps -/
theorem Tr.skipN_eq {T : Tr} (hV : T.Valid) {r s : Nat → List Int} (hr : T.Stamps r) (hs : T.Stamps s) : T.skipN r = T.skipN s := by
  unfold Tr.skipN
  refine tot_congr fun x hx => tot_congr fun y hy => ?_
  unfold Tr.sk
  have e1 : stOf r (T.evN x) = stOf s (T.evN x) := Tr.Stamps.uniq hV hr hs _ (T.evN_V x hx)
  have e2 : stOf r (T.evN y) = stOf s (T.evN y) := Tr.Stamps.uniq hV hr hs _ (T.evN_V y hy)
  rw [e1, e2]
/-- the list of all events, as it is read -/
theorem EvOwn.evs {T : Tr} {w : World} {base : Nat} {v : Value} (h : EvOwn w base v (T.evs.map fun x => evI x.1)) : ∃ a g c, v = .slice a T.evs.length c ∧ ∀ k, k < T.evs.length → a = some ⟨g, 0, none⟩ ∧ (∀ w', Ext w w' → g < w'.heap.size) ∧
    (∀ w', Ext w w' → w'.cell? ⟨g, k * 2, none⟩ = some (.int .i64 (T.evN k).1)) ∧ ∀ w', Ext w w' → w'.cell? ⟨g, k * 2 + 1, none⟩ = some (.int .i64 ((T.evN k).2 + 1)) := by
  obtain ⟨a, g, c, hv, hs⟩ := h.shape
  rw [List.length_map] at hv hs
  refine ⟨a, g, c, hv, fun k hk => ?_⟩
  obtain ⟨h1, h2, h3, h4⟩ := hs (by omega)
  have hd : (T.evs.map fun x => evI x.1).getD k (0, 0) = evI (T.evN k) := by
    rw [List.getD_eq_getElem?_getD, List.getElem?_map, List.getElem?_eq_getElem hk, T.evN_get k hk]; rfl
  exact ⟨h1, fun w' x => Nat.lt_of_lt_of_le h3 x.le, fun w' x => x.cell ((h4.c0 k hk).trans (by rw [hd])), fun w' x => x.cell ((h4.c1 k hk).trans (by rw [hd]))⟩

end Go.Proofs.Ytecgigeeolindaa
