/- PROVED HERE: 'PredtypeParts' returns true for every trace and every tree, in every memory that holds the package's table. -/
import Derived.Test.YtdplphoohnnbcaaDoorHx
import Derived.Test.YtdplphoohnnbcaaDoorHi
import Derived.Test.YtdplphoohnnbcaaDoorHy
import Derived.Test.YtdplphoohnnbcaaDoorHw
import Derived.Test.YtdplphoohnnbcaaDoorIx
namespace Go.Proofs.YtdplphoohnnbcaaDoor.predtypeParts
open Go.ChangeShapes Go.WideShapes Go.ChangeAt Go.RowKit Go.Proofs.YtdplphoohnnbcaaDoor
set_option linter.unusedVariables false

/-- a tree that is checked without an error -/
structure Good (T : Tr) (q : Pr) : Prop where
  v : T.Valid
  f : q.Formed
  r : q.All T.ResN
  t : q.Typed
  s : T.SmallP q
theorem cnt_kid {p : Pr} {i : Nat} (hi : i < p.len) : (p.kid i).cnt ≤ p.cnt := by
  have h := Pr.le_sum (f := fun i => (p.kid i).cnt) hi
  rw [Pr.cnt_eq p]
  have h2 : (p.kid i).cnt = (fun i => (p.kid i).cnt) i := rfl
  omega
theorem dep_kid {p : Pr} {i : Nat} (hi : i < p.len) : (p.kid i).dep ≤ p.dep := by
  have h := (Pr.most_le (f := fun i => (p.kid i).dep) (n := p.len) (m := Pr.most (fun i => (p.kid i).dep) p.len)).1 (Nat.le_refl _) i hi
  rw [Pr.dep_eq p]
  have h2 : (p.kid i).dep = (fun i => (p.kid i).dep) i := rfl
  omega
theorem Good.kid {T : Tr} {q : Pr} (h : Good T q) {i : Nat} (hi : i < q.len) : Good T (q.kid i) :=
  ⟨h.v, ⟨Nat.le_trans (cnt_kid hi) h.f.1, Nat.le_trans (dep_kid hi) h.f.2.1, h.f.2.2.kid hi⟩, h.r.kid hi, h.t.kid hi, Tr.SmallP.kid h.f.2.2 h.t h.s hi⟩
theorem Good.check {T : Tr} {q : Pr} (h : Good T q) {c : Int} (hc : T.CheckIs q c) : c = 0 := hc.uniq (.inr (.inr (.inr (.inr ⟨h.v, h.f, h.r, h.t, h.s, rfl⟩))))
def TruePost (w : World) (e : Ending) (w' : World) : Prop := e = .returned (.bool true) ∧ Ext w w'
abbrev allF (bt ba : Nat) : Value := .func (.func 21) #[] #[.pointer (some ⟨bt, 0, none⟩), .pointer (some ⟨ba, 0, none⟩)]
set_option maxRecDepth 100000 in
set_option maxHeartbeats 1000000 in
theorem all11_any (w : World) (q : Pr) (bt ba : Nat) (hw : Hold w ba #[allF bt ba])
    (hc : ∀ w', Ext w w' → Calls Tryd.prog 21 #[q.val, .pointer (some ⟨bt, 0, none⟩), .pointer (some ⟨ba, 0, none⟩)] w' (TruePost w')) :
    Calls Tryd.prog 24 #[q.val, .pointer (some ⟨ba, 0, none⟩)] w fun e w' => e = .returned (.bool false) ∧ Ext w w' := by
  obtain ⟨lf, cf, _, _⟩ := hw.box
  have HC := Lib.hid hc
  clear hc
  simp only [Pr.val] at HC ⊢
  go_enter Tryd.func24, Tryd.ntmps24
  go_upto_region 1 with fail
  refine boxed1 (w := w) (G := fun x => Code.wp _ _ _ _ x) ?_
  intro w1 hx1 hs1 ⟨l0, c0, _, _⟩
  have hx11 : Ext w1 w1 := Ext.refl _
  clear hs1
  go_wp2_with fail
  go_at_call 21
  refine (HC.out w1 hx1).mono ?_
  rintro e w2 ⟨rfl, hx2⟩
  go_wp2_with fail
  go_ret
  exact ⟨rfl, hx1.trans hx2⟩
set_option maxRecDepth 100000 in
set_option maxHeartbeats 2000000 in
theorem all1_any (w0 : World) (hTab : TabAt w0) (T : TM) (hT : T.At w0) (bt ba : Nat) (ht : Hold w0 bt #[.slice T.a T.n T.cap]) (ha : Hold w0 ba #[allF bt ba]) : ∀ q : Pr, Good T.toTr q → q.At w0 → ∀ w, Ext w0 w →
    Calls Tryd.prog 21 #[q.val, .pointer (some ⟨bt, 0, none⟩), .pointer (some ⟨ba, 0, none⟩)] w (TruePost w) := by
  intro q
  induction q using Pr.ind with
  | h q ih =>
    intro hg hq w hx
    have HC := Lib.hid (show ∀ W, Ext w0 W → Calls Tryd.prog 22 #[T.val, q.val] W fun e w' => e = .returned (.int .i64 0) ∧ Ext W w' from fun W h =>
      (pCheck_any W (hTab.ext h) T (hT.ext h) q (hq.ext h)).mono fun e w' ⟨hx', c, he, hc⟩ => ⟨by rw [he, hg.check hc], hx'⟩)
    have HIH := Lib.hid (fun i hi W (h : Ext w0 W) => ih i hi (hg.kid hi) (hq.kid hi) W h)
    have HQ := Lib.hid hq
    have HA := Lib.hid ha
    obtain ⟨lt, ct, _, _⟩ := ht.box
    obtain ⟨la, ca, _, _⟩ := ha.box
    clear ih hg hq hTab hT ht ha
    simp only [Pr.val, TM.val] at HC ⊢
    go_enter Tryd.func21, Tryd.ntmps21
    go_upto_region 1 with fail
    refine boxed1 (w := w) (G := fun x => Code.wp _ _ _ _ x) ?_
    intro w1 hx1 hs1 ⟨l0, c0, _, _⟩
    have hx11 : Ext w1 w1 := Ext.refl _
    have hx01 := hx.trans hx1
    clear hs1
    go_wp2_with fail
    go_at_call 22
    refine (HC.out _ hx01).mono ?_
    rintro e w2 ⟨rfl, hx2⟩
    have hx12 := hx2
    have hx02 := hx01.trans hx2
    have hH := has_Pred w0 w2 q HQ.out.here 24 #[.pointer (some ⟨ba, 0, none⟩)] (fun i w' => Ext w2 w') (fun i w' => False)
      (fun i w' h => hx02.trans h) (Ext.refl _) (enters_of Tryd.func24 (by kernel_rfl) rfl)
      (fun i hi w' hI => (all11_any w' (q.kid i) bt ba (HA.out.ext (hx02.trans hI)) (fun w'' h => HIH.out i hi w'' ((hx02.trans hI).trans h))).mono fun e w'' ⟨he, h⟩ => ⟨false, he, fun _ => hI.trans h, (fun h => by cases h)⟩)
    go_wp2_with fail
    go_at_call 23
    refine hH.mono ?_
    rintro e w4 ⟨b, rfl, q0, q1⟩
    cases b with
    | false =>
      have hx4 := q0 rfl
      clear q0 q1 hH
      go_wp2_with fail
      go_ret
      exact ⟨rfl, hx1.trans (hx12.trans hx4)⟩
    | true => exact (q1 rfl).choose_spec.2.elim
set_option maxRecDepth 100000 in
set_option maxHeartbeats 4000000 in
theorem walk (T : TM) (p : Pr) (w : World) (hT : T.At w) (hp : p.At w) (hTab : TabAt w) : Calls Tryd.prog 6 #[T.val, p.val] w (TruePost w) := by
  have HX := Lib.hid hT
  have HP := Lib.hid hp
  have HT := Lib.hid hTab
  clear hp hTab hT
  simp only [Pr.val, TM.val]
  go_enter Tryd.func6, Tryd.ntmps6
  go_upto_region 1 with fail
  refine boxed2 (w := w) (G := fun x => Code.wp _ _ _ _ x) ?_
  intro w1 hx1 hs1 ⟨l0, c0, _, k0⟩ ⟨l1, c1, _, _⟩
  have HK0 := Lib.hid (show Hold w1 w.heap.size #[.slice T.a T.n T.cap] from k0)
  have hx11 : Ext w1 w1 := Ext.refl _
  have hA := awake_any w1 (HT.out.ext hx1)
  clear hs1 k0
  go_wp2_with fail
  go_at_call 7
  refine hA.mono ?_
  rintro e w2 ⟨rfl, hx2⟩
  have hxw2 := hx1.trans hx2
  have hx12 := hx2
  clear hA
  have hF := fits_any w2 p (HP.out.ext hxw2)
  simp only [Pr.val] at hF
  go_wp2_with fail
  go_at_call 13
  refine hF.mono ?_
  rintro e w3 ⟨c, rfl, hq, hx3⟩
  have HFEW := Lib.hid hq
  clear hq
  have hxw3 := hxw2.trans hx3
  have hx13 := hx12.trans hx3
  clear hF
  cases c with
  | false =>
    clear HFEW
    go_wp2_with fail
    go_ret
    exact ⟨rfl, hxw3⟩
  | true =>
    have HFW := Lib.hid (HFEW.out.1 rfl)
    clear HFEW
    have hS := sml_any w3 T (HX.out.ext hxw3)
    simp only [TM.val] at hS
    go_wp2_with fail
    go_at_call 9
    refine hS.mono ?_
    rintro e w4 ⟨hx4, b, rfl⟩
    have hxw4 := hxw3.trans hx4
    have hx14 := hx13.trans hx4
    clear hS
    cases b with
    | false =>
      go_wp2_with fail
      go_ret
      exact ⟨rfl, hxw4⟩
    | true =>
      have h1 := pResolve_any w4 (HT.out.ext hxw4) T (HX.out.ext hxw4) p (HP.out.ext hxw4)
      simp only [Pr.val, TM.val] at h1
      go_wp2_with fail
      go_at_call 20
      refine h1.mono ?_
      rintro e w5 ⟨hx5, q, c, rfl, hq, hi⟩
      have HQ := Lib.hid hq
      have hxw5 := hxw4.trans hx5
      have hx15 := hx14.trans hx5
      clear h1 hq
      rcases hi with ⟨_, rfl, hl⟩ | ⟨_, _, _, rfl, hl⟩ | ⟨_, _, _, _, rfl, hl⟩ | ⟨_, _, _, _, _, rfl, hl⟩ | ⟨hv, hf, hc, ht, hr, hs, rfl⟩
      · skip
        obtain ⟨hl1, hl2, hl3, hl4, hl5, hl6, _⟩ := (Pr.Like_eq _ _).1 hl
        have hk0 : q.kind = 0 := hl1
        have hq0 : q.len = 0 := hl6
        simp only [Pr.val]
        rw [hk0, hq0]
        clear hl hl1 hl2 hl3 hl4 hl5 hl6 hk0 hq0 HQ
        go_upto_region 6 with fail
        refine boxed1 (w := w5) (G := fun x => Code.wp _ _ _ _ x) ?_
        intro w6 hx6 hs6 ⟨l6, c6, _, _⟩
        have hx66 : Ext w6 w6 := Ext.refl _
        clear hs6
        go_wp2_with fail
        go_ret
        exact ⟨rfl, hxw5.trans hx6⟩
      · skip
        obtain ⟨hl1, hl2, hl3, hl4, hl5, hl6, _⟩ := (Pr.Like_eq _ _).1 hl
        have hk0 : q.kind = 0 := hl1
        have hq0 : q.len = 0 := hl6
        simp only [Pr.val]
        rw [hk0, hq0]
        clear hl hl1 hl2 hl3 hl4 hl5 hl6 hk0 hq0 HQ
        go_upto_region 6 with fail
        refine boxed1 (w := w5) (G := fun x => Code.wp _ _ _ _ x) ?_
        intro w6 hx6 hs6 ⟨l6, c6, _, _⟩
        have hx66 : Ext w6 w6 := Ext.refl _
        clear hs6
        go_wp2_with fail
        go_ret
        exact ⟨rfl, hxw5.trans hx6⟩
      · skip
        obtain ⟨hl1, hl2, hl3, hl4, hl5, hl6, _⟩ := (Pr.Like_eq _ _).1 hl
        have hk0 : q.kind = 0 := hl1
        have hq0 : q.len = 0 := hl6
        simp only [Pr.val]
        rw [hk0, hq0]
        clear hl hl1 hl2 hl3 hl4 hl5 hl6 hk0 hq0 HQ
        go_upto_region 6 with fail
        refine boxed1 (w := w5) (G := fun x => Code.wp _ _ _ _ x) ?_
        intro w6 hx6 hs6 ⟨l6, c6, _, _⟩
        have hx66 : Ext w6 w6 := Ext.refl _
        clear hs6
        go_wp2_with fail
        go_ret
        exact ⟨rfl, hxw5.trans hx6⟩
      · skip
        obtain ⟨hl1, hl2, hl3, hl4, hl5, hl6, _⟩ := (Pr.Like_eq _ _).1 hl
        have hk0 : q.kind = 0 := hl1
        have hq0 : q.len = 0 := hl6
        simp only [Pr.val]
        rw [hk0, hq0]
        clear hl hl1 hl2 hl3 hl4 hl5 hl6 hk0 hq0 HQ
        go_upto_region 6 with fail
        refine boxed1 (w := w5) (G := fun x => Code.wp _ _ _ _ x) ?_
        intro w6 hx6 hs6 ⟨l6, c6, _, _⟩
        have hx66 : Ext w6 w6 := Ext.refl _
        clear hs6
        go_wp2_with fail
        go_ret
        exact ⟨rfl, hxw5.trans hx6⟩
      · have HG := Lib.hid (show Good T.toTr q from ⟨hv, hr.formed hf, hr.res, hr.typed.2 ht, hs⟩)
        have HTY := Lib.hid (show ∀ W, Ext w W → Calls Tryd.prog 14 #[p.val] W fun e w' => e = .returned (.tuple #[.int .i64 (resT p.kind), .int .i64 0]) ∧ Ext W w' from fun W h =>
          (pType_any W (HT.out.ext h) p (HP.out.ext h)).mono fun e w' ⟨hx', x, k, he, hi⟩ => by
            obtain ⟨rfl, rfl⟩ := Pr.TypeIs.uniq hi (.inr (.inr ⟨hf, ht, rfl, rfl⟩))
            exact ⟨he, hx'⟩)
        have HTQ := Lib.hid (show ∀ W, Ext w5 W → Calls Tryd.prog 14 #[q.val] W fun e w' => e = .returned (.tuple #[.int .i64 (resT p.kind), .int .i64 0]) ∧ Ext W w' from fun W h =>
          (pType_any W (HT.out.ext (hxw5.trans h)) q (HQ.out.ext h)).mono fun e w' ⟨hx', x, k, he, hi⟩ => by
            obtain ⟨rfl, rfl⟩ := Pr.TypeIs.uniq hi (.inr (.inr ⟨hr.formed hf, hr.typed.2 ht, rfl, rfl⟩))
            exact ⟨by rw [he, hr.kind], hx'⟩)
        have HFQ := Lib.hid (show q.FewOk 400 0 from ⟨by have := hf.1; rw [hr.cnt]; omega, by have := hf.2.1; rw [hr.dep]; omega, hr.short HFW.out.2.2⟩)
        generalize resT p.kind = ty at HTY HTQ
        simp only [Pr.val] at HTY HTQ ⊢
        clear hv hf hc ht hr hs HFW
        go_upto_region 6 with fail
        refine boxed1 (w := w5) (G := fun x => Code.wp _ _ _ _ x) ?_
        intro w6 hx6 hs6 ⟨l6, c6, _, _⟩
        have hx66 : Ext w6 w6 := Ext.refl _
        have hx16 := hx15.trans hx6
        clear hs6
        go_wp2_with fail
        go_at_call 14
        refine (HTY.out _ (hxw5.trans hx6)).mono ?_
        rintro e w7 ⟨rfl, hx7⟩
        have hx17 := hx16.trans hx7
        have hx67 := hx7
        go_wp2_with fail
        go_at_call 14
        refine (HTQ.out _ (hx6.trans hx7)).mono ?_
        rintro e w8 ⟨rfl, hx8⟩
        have hx18 := hx17.trans hx8
        have hx68 := hx67.trans hx8
        have hx58 := hx6.trans hx68
        have hxw8 := hxw5.trans hx58
        have H08 := Lib.hid (HK0.out.ext hx18)
        go_upto_region 14 with fail
        refine boxed1 (w := w8) (G := fun x => Code.wp _ _ _ _ x) ?_
        intro w9 hx9 hs9 ⟨l9, c9, _, k9⟩
        have H9 := Lib.hid (show Hold w9 w8.heap.size #[allF w.heap.size w8.heap.size] from k9)
        have hx19 := hx18.trans hx9
        have hx69 := hx68.trans hx9
        have hx59 := hx58.trans hx9
        have hxw9 := hxw8.trans hx9
        have hx99 : Ext w9 w9 := Ext.refl _
        clear hs9 k9
        go_upto_region 15 with fail
        refine boxed1 (w := w9) (G := fun x => Code.wp _ _ _ _ x) ?_
        intro w10 hx10 hs10 ⟨l10, c10, _, k10⟩
        have hx110 := hx19.trans hx10
        have hx610 := hx69.trans hx10
        have hx1010 : Ext w10 w10 := Ext.refl _
        have hFW := few_any w9 w9.heap.size (Nat.le_refl _) q (HQ.out.ext hx59) 400 0 w10 hx10 k10 (by omega) (by omega) (by omega) (by omega)
        simp only [Pr.val] at hFW
        clear hs10 k10
        go_wp2_with fail
        go_at_call 8
        refine hFW.mono ?_
        rintro e w11 ⟨b, rfl, hk, hx11', h1, h2⟩
        have hx911 : Ext w9 w11 := hx11'
        have hx111 := hx19.trans hx911
        have hx611 := hx69.trans hx911
        clear hk hFW
        cases b with
        | false => exact absurd HFQ.out (h2 rfl)
        | true =>
          clear h1 h2
          have hAll := all1_any w9 (HT.out.ext hxw9) T (HX.out.ext hxw9) w.heap.size w8.heap.size (H08.out.ext hx9) H9.out q HG.out (HQ.out.ext hx59) w11 hx911
          simp only [Pr.val] at hAll
          go_wp2_with fail
          go_at_call 21
          refine hAll.mono ?_
          rintro e w12 ⟨rfl, hx12'⟩
          go_wp2_with fail
          go_ret
          exact ⟨rfl, hxw9.trans (hx911.trans hx12')⟩

set_option maxRecDepth 100000 in
theorem contract (H : Type) (enc : TypeId × Value → H) (W : World) (base : Nat) (args : Array Value) (ds gs : List (DataW H)) (before : List MemPlace)
    (hval0 : ∀ (j : Nat) t v, Tryd.f6.params[j]? = some t → args[j]? = some v → Value.okWide Tryd.prog W .any base t v)
    (hW : DataW.Whole enc Tryd.prog Tryd.f6.params.toList Rows.predtypePartsSpec.vars false W args.toList ds gs before)
    (hsz0 : (DataW.weightsEach Tryd.prog (Tryd.f6.params.toList ++ (OpenSpec.ofChange Rows.predtypePartsSpec).bare.plain.varTypes Tryd.prog) (ds ++ gs)).all (· ≤ reachBytes) = true) (hL : laidMetH Tryd.prog Rows.predtypePartsRow.laid W) :
    Calls Tryd.prog 6 args W fun e W' => ∃ v, e = .returned v ∧ Rows.predtypePartsSpec.post enc Tryd.prog Tryd.f6 false true false false W args v W' := by
  have hsz1 := hsz0
  have hval := hval0
  clear hsz0
  have hW' := hW
  obtain ⟨p, q, hA0, hV, rfl, hfz, hnd⟩ := hW
  have hA : DataW.TrodAll enc Tryd.prog W 0 (fun _ => true) true Tryd.f6.params.toList args.toList ds p := hA0
  rw [Tryd.params6] at hA hval hsz1
  obtain ⟨v0, vs0, d0, ds0, p0, q0, hargs, rfl, rfl, h0, r0⟩ := trodAll_cons hA
  obtain ⟨v1, vs1, d1, ds1, p1, q1, rfl, rfl, rfl, h1, r1⟩ := trodAll_cons r0
  obtain ⟨rfl, rfl, rfl⟩ := trodAll_nil r1
  obtain rfl : args = #[v0, v1] := by cases args; simp_all
  obtain ⟨rfl, rfl⟩ := trodVars_none hV
  obtain ⟨T0, rfl, hX0⟩ := arg_trace (hval 0 24 v0 rfl rfl) h0 (small_of hsz1 (j := 0) rfl rfl)
  obtain ⟨P1, rfl, hX1⟩ := arg_pred (hval 1 27 v1 rfl rfl) h1 (small_of hsz1 (j := 1) rfl rfl)
  clear hA0 hval0 hsz1
  simp only [List.append_nil] at hW'
  have hl1 : ∀ x ∈ p1, x.block < W.heap.size := fun x hx => hW'.lt x (by simp [hx])
  have hl0 : ∀ x ∈ p0, x.block < W.heap.size := fun x hx => hW'.lt x (by simp [hx])
  refine (walk T0 P1 W hX0 hX1 (tab_of hL)).mono fun e W' ⟨he, hg⟩ => ?_
  subst he
  exact ⟨_, rfl, post_ext1 (pa := (p0 ++ (p1 ++ []))) (pv := []) hW' (fun _ _ _ => (trodAll_cons_mk (shut_bool Tryd.underlying4 _) trodAll_mk0)) (trodAll_cons_mk (Below.trod laid14 (by kernel_rfl) (of_decide_eq_true (by kernel_rfl)) h0 hg.below hl0) (trodAll_cons_mk (Below.trod laid14 (by kernel_rfl) (of_decide_eq_true (by kernel_rfl)) h1 hg.below hl1) trodAll_mk0)) rfl hg⟩

abbrev arg0 : Value := .agg #[.slice none 0 0]
abbrev arg1 : Value := .agg #[.int .i64 0, .int .i64 0, .int .i64 0, .int .i64 0, .string ⟨#[]⟩, .slice none 0 0]
set_option maxRecDepth 100000 in
theorem laid_met (os : Os) : laidMet Tryd.prog Rows.predtypePartsRow.laid ((laidWorld os).forCall (fun _ _ => 0) ⟨#[], #[arg0, arg1], []⟩).memory :=
  laidMet_of_run' 8 (by kernel_rfl) (by kernel_rfl)
set_option maxRecDepth 100000 in
theorem reads (os : Os) {H : Type} (enc : TypeId × Value → H) : ∃ d places, DataW.whole enc Tryd.prog ((laidWorld os).forCall (fun _ _ => 0) ⟨#[], #[arg0, arg1], []⟩).memory Tryd.f6.params.toList Rows.predtypePartsSpec.vars false #[arg0, arg1].toList 8 = some (d, [], places) :=
  ⟨[.agg [.nil], .agg [.lit (.int .i64 0), .lit (.int .i64 0), .lit (.int .i64 0), .lit (.int .i64 0), .lit (.string []), .nil]], [], by kernel_rfl⟩
set_option maxRecDepth 100000 in
theorem lifted (os : Os) (started : os.Started) (H : Type) (enc : TypeId × Value → H) (F : Stop.Interp) :
    ReturnsInHanded {} Tryd.checked os 6 .any ((OpenSpec.ofChange Rows.predtypePartsSpec).preRow enc Tryd.prog Tryd.f6 Rows.predtypePartsRow.domain false Rows.predtypePartsRow.laid) (((OpenSpec.ofChange Rows.predtypePartsSpec).at F).post enc Tryd.prog Tryd.f6 false true false false) := by
  obtain ⟨d, places, hx⟩ := reads os enc
  refine returnsInHanded_of_row (C := Tryd.checked) (s := OpenSpec.ofChange Rows.predtypePartsSpec) own14 started (by kernel_rfl) Tryd.func6
    (witness_row_at (enc := enc) (C := Tryd.checked) false (laidWorld os) #[arg0, arg1] rfl (by kernel_rfl) (by kernel_rfl) (by kernel_rfl)
      (OpenSpec.preRow_of_cond 8 hx (by kernel_rfl) (fun k hk => by cases hk) (by kernel_rfl) (laid_met os))) ?_
  intro W base args ds gs before hval hW _ _ hsz hL _ _
  exact contract H enc W base args ds gs before hval hW hsz hL

theorem over : Rows.PredtypePartsSaid :=
  OpenClaim.holds_of_cond 6 Tryd.f6 rfl rfl rfl rfl rfl rfl rfl ⟨rfl, rfl, rfl, rfl, rfl⟩ rfl rfl rfl rfl rfl (by kernel_rfl) Tryd.func6 (by kernel_rfl)
    (of_decide_eq_true (by kernel_rfl)) (by unfold Func.isWrapper; first | (rw [if_pos (by decide +kernel)]; kernel_rfl) | (rw [if_neg (by decide +kernel)]; exact ⟨rfl, rfl⟩))
    (fun os started H enc _ F => by rw [OpenClaim.pre_eq_preRow]; exact lifted os started H enc F)

theorem plain (f : FuncId) (fn : Func) (hf : Tryd.pinned.checked.prog.funcNamed "antecede/antecedelaw28.PredtypeParts" = some f) (hfn : Tryd.pinned.checked.prog.funcs[f]? = some fn) :
    false = Tryd.pinned.checked.prog.looks [] ∧ ∀ (j : Nat) t, fn.params[j]? = some t → Tryd.pinned.checked.prog.wantsStandIn t = false := by
  obtain rfl : f = 6 := Option.some.inj ((show Tryd.prog.funcNamed "antecede/antecedelaw28.PredtypeParts" = some 6 by kernel_rfl).symm.trans hf) |>.symm
  obtain rfl : fn = Tryd.f6 := (Option.some.inj (Tryd.func6.symm.trans hfn)).symm
  refine ⟨by kernel_rfl, fun j t ht => ?_⟩
  rw [Tryd.params6] at ht
  have hm : t = 24 ∨ t = 27 := by simpa using Array.mem_of_getElem? ht
  rcases hm with rfl | rfl
  · exact (show Tryd.prog.wantsStandIn 24 = false by kernel_rfl)
  · exact (show Tryd.prog.wantsStandIn 27 = false by kernel_rfl)

/-- ████ THE STATEMENT ████ -/
theorem proved : Rows.PredtypePartsCardSaid :=
  Claim7.holds_tied_plain_at .later [] _ _ _ _ over (fun _ h => by cases h) (by kernel_rfl) (fun _ h => by cases h) predtypeParts_row_tie rfl ⟨rfl, rfl⟩ (by kernel_rfl) rfl plain (by kernel_rfl)
#print axioms proved

end Go.Proofs.YtdplphoohnnbcaaDoor.predtypeParts
