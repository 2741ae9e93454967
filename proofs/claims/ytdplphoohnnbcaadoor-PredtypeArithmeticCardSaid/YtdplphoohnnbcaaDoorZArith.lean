/- PROVED HERE: 'PredtypeArithmetic' returns true for every trace and every two trees, in every memory that holds the package's table. -/
import Derived.Test.YtdplphoohnnbcaaDoorHx
import Derived.Test.YtdplphoohnnbcaaDoorHi
import Derived.Test.YtdplphoohnnbcaaDoorHy
namespace Go.Proofs.YtdplphoohnnbcaaDoor.predtypeArithmetic
open Go.ChangeShapes Go.WideShapes Go.ChangeAt Go.RowKit Go.Proofs.YtdplphoohnnbcaaDoor
set_option linter.unusedVariables false

def TruePost (w : World) (e : Ending) (w' : World) : Prop := e = .returned (.bool true) ∧ Ext w w'
theorem _root_.Go.Proofs.YtdplphoohnnbcaaDoor.Tr.BoundIs.code {T : Tr} {p : Pr} {l h c : Int} (b : T.BoundIs p l h c) : c = 0 ∨ c = 1 ∨ c = 9 ∨ c = 13 ∨ c = 14 := by
  obtain ⟨d, hd, hb⟩ := b
  rcases hb with ⟨_, _, _, rfl⟩ | ⟨_, _, _, _, rfl⟩ | ⟨_, _, _, rfl⟩
  · rcases hd with ⟨_, rfl⟩ | ⟨_, _, _, rfl⟩ | ⟨_, _, _, _, rfl⟩ | ⟨_, _, _, _, _, rfl⟩ | ⟨_, _, _, _, _, rfl⟩ <;> decide
  · decide
  · decide
theorem Hold.new2 (W : World) (o : Obj) (c : Array Value) (t : TypeId) : Hold ((W.alloc o).alloc (.cells c t)) (W.heap.size + 1) c := by
  have h := Hold.new (W.alloc o) c t
  have e : (W.alloc o).heap.size = W.heap.size + 1 := by show (W.heap.push _).size = _; simp
  rw [e] at h; exact h
theorem bound_some (W : World) (hTab : TabAt W) (T : TM) (hT : T.At W) (p : Pr) (hp : p.At W) (hV : T.toTr.Valid) (hc : p.cnt ≤ 200) (hd : p.dep ≤ 20) (hI : p.All T.toTr.IntN) {l h : Int} (hx : T.toTr.ival p = some (l, h)) :
    Calls Tryd.prog 10 #[T.val, p.val] W fun e w' => e = .returned (.tuple #[.int .i64 l, .int .i64 h, .int .i64 0]) ∧ Ext W w' := bound_of_int W hTab T hT p hp hV hc hd hI hx
theorem bound_none (W : World) (hTab : TabAt W) (T : TM) (hT : T.At W) (p : Pr) (hp : p.At W) (hV : T.toTr.Valid) (hc : p.cnt ≤ 200) (hd : p.dep ≤ 20) (hI : p.All T.toTr.IntN) (hx : T.toTr.ival p = none) :
    Calls Tryd.prog 10 #[T.val, p.val] W fun e w' => e = .returned (.tuple #[.int .i64 0, .int .i64 0, .int .i64 9]) ∧ Ext W w' := bound_of_int W hTab T hT p hp hV hc hd hI hx
set_option maxRecDepth 100000 in
set_option maxHeartbeats 4000000 in
theorem walk (T : TM) (p q : Pr) (w : World) (hT : T.At w) (hp : p.At w) (hq : q.At w) (hTab : TabAt w) : Calls Tryd.prog 3 #[T.val, p.val, q.val] w (TruePost w) := by
  have HT := Lib.hid hT
  have HP := Lib.hid hp
  have HQ := Lib.hid hq
  have HTab := Lib.hid hTab
  clear hT hp hq hTab
  simp only [Pr.val, TM.val]
  go_enter Tryd.func3, Tryd.ntmps3
  go_upto_region 1 with fail
  refine boxed3 (w := w) (G := fun x => Code.wp _ _ _ _ x) ?_
  intro w1 hx1 hs1 ⟨l0, c0, _, _⟩ ⟨l1, c1, _, _⟩ ⟨l2, c2, _, _⟩
  have hx11 : Ext w1 w1 := Ext.refl _
  have hA := awake_any w1 (HTab.out.ext hx1)
  clear hs1
  go_wp2_with fail
  go_at_call 7
  refine hA.mono ?_
  rintro e w2 ⟨rfl, hx2⟩
  have hxw2 := hx1.trans hx2
  have hx12 := hx2
  clear hA
  go_upto_region 4 with fail
  refine boxed1 (w := w2) (G := fun x => Code.wp _ _ _ _ x) ?_
  intro w3 hx3 hs3 b3
  have hx13 := hx12.trans hx3
  have hx22 := Ext.refl w2
  have hF := few_any w2 w2.heap.size (Nat.le_refl _) p (HP.out.ext hxw2) 200 0 w3 hx3 b3.hold (by omega) (by omega) (by omega) (by omega)
  simp only [Pr.val] at hF
  clear hs3 b3
  go_wp2_with fail
  go_at_call 8
  refine hF.mono ?_
  rintro e w4 ⟨b, rfl, _, hx4, hq1, hq2⟩
  have hxw4 := hxw2.trans hx4
  have hx14 := hx12.trans hx4
  clear hF hq2
  cases b with
  | false =>
    clear hq1
    go_wp2_with fail
    go_ret
    exact ⟨rfl, hxw4⟩
  | true =>
    obtain ⟨hpf, hl4⟩ := hq1 rfl
    have hpc : p.cnt ≤ 200 := by have := hpf.1; omega
    have hF := few_any w2 w2.heap.size (Nat.le_refl _) q (HQ.out.ext hxw2) (200 - p.cnt) 0 w4 hx4 hl4 (by omega) (by omega) (by omega) (by omega)
    simp only [Pr.val] at hF
    clear hpf hl4 hq1
    go_wp2_with fail
    go_at_call 8
    refine hF.mono ?_
    rintro e w5 ⟨b, rfl, _, hx5, hq1, hq2⟩
    have hxw5 := hxw2.trans hx5
    have hx15 := hx12.trans hx5
    clear hF hq1 hq2
    cases b with
    | false =>
      go_wp2_with fail
      go_ret
      exact ⟨rfl, hxw5⟩
    | true =>
      have hF := sml_any w5 T (HT.out.ext hxw5)
      simp only [TM.val] at hF
      go_wp2_with fail
      go_at_call 9
      refine hF.mono ?_
      rintro e w6 ⟨hx6, b, rfl⟩
      have hxw6 := hxw5.trans hx6
      have hx16 := hx15.trans hx6
      clear hF
      cases b with
      | false =>
        go_wp2_with fail
        go_ret
        exact ⟨rfl, hxw6⟩
      | true =>
        have h1 := pBound_any w6 (HTab.out.ext hxw6) T (HT.out.ext hxw6) p (HP.out.ext hxw6)
        simp only [Pr.val, TM.val] at h1
        go_wp2_with fail
        go_at_call 10
        refine h1.mono ?_
        rintro e w7 ⟨hx7, a, b, e1, rfl, hb⟩
        have HB1 := Lib.hid hb
        have hxw7 := hxw6.trans hx7
        have hx17 := hx16.trans hx7
        clear h1 hb
        have h2 := pBound_any w7 (HTab.out.ext hxw7) T (HT.out.ext hxw7) q (HQ.out.ext hxw7)
        simp only [Pr.val, TM.val] at h2
        go_wp2_with fail
        go_at_call 10
        refine h2.mono ?_
        rintro e w8 ⟨hx8, c, d, e2, rfl, hb⟩
        have HB2 := Lib.hid hb
        have hxw8 := hxw7.trans hx8
        have hx18 := hx17.trans hx8
        clear h2 hb
        by_cases he1 : e1 = 0
        · subst he1
          by_cases he2 : e2 = 0
          · subst he2
            obtain ⟨dp, hdp⟩ : ∃ x, x = p.depL 40 := ⟨_, rfl⟩
            obtain ⟨dq, hdq⟩ : ∃ x, x = q.depL 40 := ⟨_, rfl⟩
            obtain ⟨sp, hsp⟩ : ∃ x, x = p.cntL 200 := ⟨_, rfl⟩
            obtain ⟨sq, hsq⟩ : ∃ x, x = q.cntL 200 := ⟨_, rfl⟩
            have hDp : ∀ W, Ext w W → Calls Tryd.prog 11 #[p.val, .int .i64 40] W fun e w' => e = .returned (.int .i64 dp) ∧ Ext W w' := fun W h => by rw [hdp]; exact rDepth_any w p HP.out 40 W h (by decide) (by decide)
            have hDq : ∀ W, Ext w W → Calls Tryd.prog 11 #[q.val, .int .i64 40] W fun e w' => e = .returned (.int .i64 dq) ∧ Ext W w' := fun W h => by rw [hdq]; exact rDepth_any w q HQ.out 40 W h (by decide) (by decide)
            have hSp : ∀ W, Ext w W → Calls Tryd.prog 12 #[p.val] W fun e w' => e = .returned (.int .i64 sp) ∧ Ext W w' := fun W h => by rw [hsp]; exact rSize_any w p HP.out W h
            have hSq : ∀ W, Ext w W → Calls Tryd.prog 12 #[q.val] W fun e w' => e = .returned (.int .i64 sq) ∧ Ext W w' := fun W h => by rw [hsq]; exact rSize_any w q HQ.out W h
            simp only [Pr.val] at hDp hDq hSp hSq
            have HDp := Lib.hid hDp
            have HDq := Lib.hid hDq
            have HSp := Lib.hid hSp
            have HSq := Lib.hid hSq
            have r1 := hdp ▸ p.depL_le 40
            have r2 := hdq ▸ q.depL_le 40
            have r3 := hsp ▸ p.cntL_le 200
            have r4 := hsq ▸ q.cntL_le 200
            have r5 := hsp ▸ p.cntL_pos (l := 200) (by decide)
            have r6 := hsq ▸ q.cntL_pos (l := 200) (by decide)
            have HD1 := Lib.hid hdp
            have HD2 := Lib.hid hdq
            have HD3 := Lib.hid hsp
            have HD4 := Lib.hid hsq
            have hws : IntKind.i64.wrap (sp + sq) = sp + sq := IntWalk.i64_in _ (by omega)
            clear hDp hDq hSp hSq hdp hdq hsp hsq
            by_cases f1 : 15 < dp
            · have g1 : decide (15 < dp) = true := decide_eq_true f1
              have hgw : ∀ d os, Ext w (Sort.grow (redrawn w8 d) os) := fun d os => hxw8.trans (below_regrown w8 d os)
              have hg1 : ∀ d os, Ext w1 (Sort.grow (redrawn w8 d) os) := fun d os => hx18.trans (below_regrown w8 d os)
              go_upto_region 8 with fail
              refine wp_region_quiet_below (by kernel_rfl) (by kernel_rfl) ?_
              repeat (go_big_quiet_step (fail))
              go_big_quiet_step (exact Calls.regrown_of (HDp.out _ (hgw _ _)))
              repeat (go_big_quiet_step (fail))
              refine wpQuiet_nil ?_
              intro _ hw'
              obtain ⟨⟨dz, osz⟩, hw''⟩ := hw'
              subst hw''
              have hxw9 := hgw dz osz
              have hx19 := hg1 dz osz
              clear hgw hg1
              generalize Sort.grow (redrawn w8 dz) osz = w9 at hxw9 hx19 ⊢
              go_wp2_with fail
              go_ret
              exact ⟨rfl, hxw9⟩
            · have g1 : decide (15 < dp) = false := decide_eq_false f1
              by_cases f2 : 15 < dq
              · have g2 : decide (15 < dq) = true := decide_eq_true f2
                have hgw : ∀ d os, Ext w (Sort.grow (redrawn w8 d) os) := fun d os => hxw8.trans (below_regrown w8 d os)
                have hg1 : ∀ d os, Ext w1 (Sort.grow (redrawn w8 d) os) := fun d os => hx18.trans (below_regrown w8 d os)
                go_upto_region 8 with fail
                refine wp_region_quiet_below (by kernel_rfl) (by kernel_rfl) ?_
                repeat (go_big_quiet_step (fail))
                go_big_quiet_step (exact Calls.regrown_of (HDp.out _ (hgw _ _)))
                repeat (go_big_quiet_step (fail))
                go_big_quiet_step (exact Calls.regrown_of (HDq.out _ (hgw _ _)))
                repeat (go_big_quiet_step (fail))
                refine wpQuiet_nil ?_
                intro _ hw'
                obtain ⟨⟨dz, osz⟩, hw''⟩ := hw'
                subst hw''
                have hxw9 := hgw dz osz
                have hx19 := hg1 dz osz
                clear hgw hg1
                generalize Sort.grow (redrawn w8 dz) osz = w9 at hxw9 hx19 ⊢
                go_wp2_with fail
                go_ret
                exact ⟨rfl, hxw9⟩
              · have g2 : decide (15 < dq) = false := decide_eq_false f2
                by_cases f3 : 80 < sp + sq
                · have g3 : decide (80 < sp + sq) = true := decide_eq_true f3
                  have hgw : ∀ d os, Ext w (Sort.grow (redrawn w8 d) os) := fun d os => hxw8.trans (below_regrown w8 d os)
                  have hg1 : ∀ d os, Ext w1 (Sort.grow (redrawn w8 d) os) := fun d os => hx18.trans (below_regrown w8 d os)
                  go_upto_region 8 with fail
                  refine wp_region_quiet_below (by kernel_rfl) (by kernel_rfl) ?_
                  repeat (go_big_quiet_step (fail))
                  go_big_quiet_step (exact Calls.regrown_of (HDp.out _ (hgw _ _)))
                  repeat (go_big_quiet_step (fail))
                  go_big_quiet_step (exact Calls.regrown_of (HDq.out _ (hgw _ _)))
                  repeat (go_big_quiet_step (fail))
                  go_big_quiet_step (exact Calls.regrown_of (HSp.out _ (hgw _ _)))
                  repeat (go_big_quiet_step (fail))
                  go_big_quiet_step (exact Calls.regrown_of (HSq.out _ (hgw _ _)))
                  repeat (go_big_quiet_step (fail))
                  refine wpQuiet_nil ?_
                  intro _ hw'
                  obtain ⟨⟨dz, osz⟩, hw''⟩ := hw'
                  subst hw''
                  have hxw9 := hgw dz osz
                  have hx19 := hg1 dz osz
                  clear hgw hg1
                  generalize Sort.grow (redrawn w8 dz) osz = w9 at hxw9 hx19 ⊢
                  go_wp2_with fail
                  go_ret
                  exact ⟨rfl, hxw9⟩
                · have g3 : decide (80 < sp + sq) = false := decide_eq_false f3
                  have hgw : ∀ d os, Ext w (Sort.grow (redrawn w8 d) os) := fun d os => hxw8.trans (below_regrown w8 d os)
                  have hg1 : ∀ d os, Ext w1 (Sort.grow (redrawn w8 d) os) := fun d os => hx18.trans (below_regrown w8 d os)
                  go_upto_region 8 with fail
                  refine wp_region_quiet_below (by kernel_rfl) (by kernel_rfl) ?_
                  repeat (go_big_quiet_step (fail))
                  go_big_quiet_step (exact Calls.regrown_of (HDp.out _ (hgw _ _)))
                  repeat (go_big_quiet_step (fail))
                  go_big_quiet_step (exact Calls.regrown_of (HDq.out _ (hgw _ _)))
                  repeat (go_big_quiet_step (fail))
                  go_big_quiet_step (exact Calls.regrown_of (HSp.out _ (hgw _ _)))
                  repeat (go_big_quiet_step (fail))
                  go_big_quiet_step (exact Calls.regrown_of (HSq.out _ (hgw _ _)))
                  repeat (go_big_quiet_step (fail))
                  refine wpQuiet_nil ?_
                  intro _ hw'
                  obtain ⟨⟨dz, osz⟩, hw''⟩ := hw'
                  subst hw''
                  have hxw9 := hgw dz osz
                  have hx19 := hg1 dz osz
                  clear hgw hg1
                  generalize Sort.grow (redrawn w8 dz) osz = w9 at hxw9 hx19 ⊢
                  have hdp : p.dep ≤ 15 := by have := HD1.out; unfold Pr.depL at this; split at this <;> omega
                  have hdq : q.dep ≤ 15 := by have := HD2.out; unfold Pr.depL at this; split at this <;> omega
                  have hcc : p.cnt + q.cnt ≤ 80 := by have h1 := HD3.out; have h2 := HD4.out; unfold Pr.cntL at h1 h2; split at h1 <;> split at h2 <;> omega
                  obtain ⟨hV, hpi, hpv⟩ := HB1.out.int
                  obtain ⟨_, hqi, hqv⟩ := HB2.out.int
                  obtain ⟨o1, o2, o3⟩ := Tr.ival_ok hV hpi hpv
                  obtain ⟨o4, o5, o6⟩ := Tr.ival_ok hV hqi hqv
                  have hnq : ∀ g, T.toTr.ival (n1 g q) = some (-d, -c) := fun g => (n1_ival g hqv).trans (if_pos (by show _ ≤ -d ∧ -c ≤ _; omega))
                  have hnp : ∀ g, T.toTr.ival (n1 g p) = some (-b, -a) := fun g => (n1_ival g hpv).trans (if_pos (by show _ ≤ -b ∧ -a ≤ _; omega))
                  have hmi : combI 7 (a, b) (c, d) = (a - d, b - c) := rfl
                  have hpl : combI 6 (a, b) (-d, -c) = (a - d, b - c) := rfl
                  obtain ⟨i, j, hij⟩ : ∃ i j, combI 8 (a, b) (a, b) = (i, j) := ⟨_, _, rfl⟩
                  have hsq := comb_sq (a, b)
                  rw [hij] at hsq
                  obtain ⟨q1, q2, q3⟩ := hsq
                  simp only at o1 o2 o3 o4 o5 o6 q1 q2 q3
                  have HSQ := Lib.hid (show ((-1125899906842624 ≤ i ∧ j ≤ 1125899906842624) ∧ chkI (combI 8 (a, b) (a, b)) = some (i, j) ∧ chkI (combI 8 (-b, -a) (a, b)) = some (-j, -i)) ∨ (chkI (combI 8 (a, b) (a, b)) = none ∧ chkI (combI 8 (-b, -a) (a, b)) = none) by
                    rw [hij, q1]
                    by_cases hk : -1125899906842624 ≤ i ∧ j ≤ 1125899906842624
                    · exact .inl ⟨hk, if_pos hk, if_pos (by show _ ≤ -j ∧ -i ≤ _; omega)⟩
                    · exact .inr ⟨if_neg hk, if_neg (by show ¬ (_ ≤ -j ∧ -i ≤ _); omega)⟩)
                  have HV := Lib.hid hV
                  have HPI := Lib.hid hpi
                  have HQI := Lib.hid hqi
                  have HPV := Lib.hid hpv
                  have HQV := Lib.hid hqv
                  have HNQ := Lib.hid hnq
                  have HNP := Lib.hid hnp
                  have HMI := Lib.hid hmi
                  have HPL := Lib.hid hpl
                  clear hV hpi hqi hpv hqv hnq hnp hmi hpl hij q1 f1 f2 f3 g1 g2 g3 HD1 HD2 HD3 HD4 HDp HDq HSp HSq HB1 HB2 r1 r2 r3 r4 r5 r6 hws
                  go_upto_region 11 with fail
                  refine boxed2 (w := w9) (G := fun x => Code.wp _ _ _ _ x) ?_
                  intro w10 hx10 hs10 b1 ⟨l3, c3, _, _⟩
                  obtain ⟨gn, hgn⟩ : ∃ g, g = w9.heap.size := ⟨_, rfl⟩
                  rw [← hgn] at b1 l3 c3 ⊢
                  have hxw10 := hxw9.trans hx10
                  have hx110 := hx19.trans hx10
                  have hx1010 : Ext w10 w10 := Ext.refl _
                  have HN := Lib.hid (n1_at b1.hold (HQ.out.ext hxw10))
                  clear hs10 b1 hgn
                  have hw1 : IntKind.i64.wrap (-d) = -d := IntWalk.i64_in _ (by omega)
                  have hw2 : IntKind.i64.wrap (-c) = -c := IntWalk.i64_in _ (by omega)
                  have hw3 : IntKind.i64.wrap (a - d) = a - d := IntWalk.i64_in _ (by omega)
                  have hw4 : IntKind.i64.wrap (b - c) = b - c := IntWalk.i64_in _ (by omega)
                  have h3 := bound_some w10 (HTab.out.ext hxw10) T (HT.out.ext hxw10) (n1 gn q) HN.out HV.out (by rw [n1_cnt]; omega) (by rw [n1_dep]; omega) (n1_int gn HQI.out) (HNQ.out gn)
                  go_wp2_with fail
                  go_at_call 10
                  refine (h3).mono ?_
                  rintro e w11 ⟨rfl, hx11'⟩
                  have hxw11 := hxw10.trans hx11'
                  have hx111 := hx110.trans hx11'
                  have hx1011 := hx11'
                  clear h3
                  by_cases hm : -1125899906842624 ≤ a - d ∧ b - c ≤ 1125899906842624
                  · have hmv : chkI (a - d, b - c) = some (a - d, b - c) := if_pos hm
                    have h4 := fun W (h : Ext w W) g hg => bound_some W (HTab.out.ext h) T (HT.out.ext h) (n2 7 g p q) (n2_at (by decide) (by decide) hg (HP.out.ext h) (HQ.out.ext h)) HV.out (by rw [n2_cnt]; omega) (by rw [n2_dep]; omega) (n2_int (by decide) (by decide) g HPI.out HQI.out) ((n2_ival 7 g HPV.out HQV.out).trans hmv)
                    go_wp2_with fail
                    go_at_call 10
                    refine (h4 _ (hxw11.alloc' _) w11.heap.size (Hold.new w11 _ _)).mono ?_
                    rintro e w12 ⟨rfl, hx12'⟩
                    have hxw12 := (hxw11.alloc' _).trans hx12'
                    have hx112 := (hx111.alloc' _).trans hx12'
                    have hx1012 := (hx1011.alloc' _).trans hx12'
                    clear h4
                    have h4 := fun W (h : Ext w W) (h' : Ext w10 W) g hg => bound_some W (HTab.out.ext h) T (HT.out.ext h) (n2 6 g p (n1 gn q)) (n2_at (by decide) (by decide) hg (HP.out.ext h) (HN.out.ext h')) HV.out (by rw [n2_cnt, n1_cnt]; omega) (by rw [n2_dep, n1_dep]; omega) (n2_int (by decide) (by decide) g HPI.out (n1_int gn HQI.out)) ((n2_ival 6 g HPV.out (HNQ.out gn)).trans hmv)
                    go_wp2_with fail
                    go_at_call 10
                    refine (h4 _ (hxw12.alloc' _) (hx1012.alloc' _) w12.heap.size (Hold.new w12 _ _)).mono ?_
                    rintro e w13 ⟨rfl, hx13'⟩
                    have hxw13 := (hxw12.alloc' _).trans hx13'
                    have hx113 := (hx112.alloc' _).trans hx13'
                    clear h4
                    rcases HSQ.out with ⟨⟨u1, u2⟩, hs1, hs2⟩ | ⟨hs1, hs2⟩
                    · have v1 : IntKind.i64.wrap (-j) = -j := IntWalk.i64_in _ (by omega)
                      have v2 : IntKind.i64.wrap (-i) = -i := IntWalk.i64_in _ (by omega)
                      have v3 : decide (i ≤ j) = true := decide_eq_true q2
                      have v4 : decide (0 ≤ j) = true := decide_eq_true q3
                      have h5 := fun W (h : Ext w W) g hg => bound_some W (HTab.out.ext h) T (HT.out.ext h) (n2 8 g p p) (n2_at (by decide) (by decide) hg (HP.out.ext h) (HP.out.ext h)) HV.out (by rw [n2_cnt]; omega) (by rw [n2_dep]; omega) (n2_int (by decide) (by decide) g HPI.out HPI.out) ((n2_ival 8 g HPV.out HPV.out).trans hs1)
                      go_wp2_with fail
                      go_at_call 10
                      refine (h5 _ (hxw13.alloc' _) w13.heap.size (Hold.new w13 _ _)).mono ?_
                      rintro e w14 ⟨rfl, hx14⟩
                      have hxw14 := (hxw13.alloc' _).trans hx14
                      have hx114 := (hx113.alloc' _).trans hx14
                      clear h5
                      have h6 := fun W (h : Ext w W) g1 g2 hg1 hg2 => bound_some W (HTab.out.ext h) T (HT.out.ext h) (n2 8 g2 (n1 g1 p) p) (n2_at (by decide) (by decide) hg2 (n1_at hg1 (HP.out.ext h)) (HP.out.ext h)) HV.out (by rw [n2_cnt, n1_cnt]; omega) (by rw [n2_dep, n1_dep]; omega) (n2_int (by decide) (by decide) g2 (n1_int g1 HPI.out) HPI.out) ((n2_ival 8 g2 (HNP.out g1) HPV.out).trans hs2)
                      go_wp2_with fail
                      go_at_call 10
                      refine (h6 _ ((hxw14.alloc' _).alloc' _) w14.heap.size (w14.heap.size + 1) ((Hold.new w14 _ _).ext (Ext.alloc _ _)) (Hold.new2 w14 _ _ _)).mono ?_
                      rintro e w15 ⟨rfl, hx15⟩
                      have hxw15 := ((hxw14.alloc' _).alloc' _).trans hx15
                      clear h6
                      go_wp2_with fail
                      go_ret
                      exact ⟨rfl, hxw15⟩
                    · have v5 := trivial
                      have h5 := fun W (h : Ext w W) g hg => bound_none W (HTab.out.ext h) T (HT.out.ext h) (n2 8 g p p) (n2_at (by decide) (by decide) hg (HP.out.ext h) (HP.out.ext h)) HV.out (by rw [n2_cnt]; omega) (by rw [n2_dep]; omega) (n2_int (by decide) (by decide) g HPI.out HPI.out) ((n2_ival 8 g HPV.out HPV.out).trans hs1)
                      go_wp2_with fail
                      go_at_call 10
                      refine (h5 _ (hxw13.alloc' _) w13.heap.size (Hold.new w13 _ _)).mono ?_
                      rintro e w14 ⟨rfl, hx14⟩
                      have hxw14 := (hxw13.alloc' _).trans hx14
                      have hx114 := (hx113.alloc' _).trans hx14
                      clear h5
                      have h6 := fun W (h : Ext w W) g1 g2 hg1 hg2 => bound_none W (HTab.out.ext h) T (HT.out.ext h) (n2 8 g2 (n1 g1 p) p) (n2_at (by decide) (by decide) hg2 (n1_at hg1 (HP.out.ext h)) (HP.out.ext h)) HV.out (by rw [n2_cnt, n1_cnt]; omega) (by rw [n2_dep, n1_dep]; omega) (n2_int (by decide) (by decide) g2 (n1_int g1 HPI.out) HPI.out) ((n2_ival 8 g2 (HNP.out g1) HPV.out).trans hs2)
                      go_wp2_with fail
                      go_at_call 10
                      refine (h6 _ ((hxw14.alloc' _).alloc' _) w14.heap.size (w14.heap.size + 1) ((Hold.new w14 _ _).ext (Ext.alloc _ _)) (Hold.new2 w14 _ _ _)).mono ?_
                      rintro e w15 ⟨rfl, hx15⟩
                      have hxw15 := ((hxw14.alloc' _).alloc' _).trans hx15
                      clear h6
                      go_wp2_with fail
                      go_ret
                      exact ⟨rfl, hxw15⟩
                  · have hmv : chkI (a - d, b - c) = none := if_neg hm
                    have h4 := fun W (h : Ext w W) g hg => bound_none W (HTab.out.ext h) T (HT.out.ext h) (n2 7 g p q) (n2_at (by decide) (by decide) hg (HP.out.ext h) (HQ.out.ext h)) HV.out (by rw [n2_cnt]; omega) (by rw [n2_dep]; omega) (n2_int (by decide) (by decide) g HPI.out HQI.out) ((n2_ival 7 g HPV.out HQV.out).trans hmv)
                    go_wp2_with fail
                    go_at_call 10
                    refine (h4 _ (hxw11.alloc' _) w11.heap.size (Hold.new w11 _ _)).mono ?_
                    rintro e w12 ⟨rfl, hx12'⟩
                    have hxw12 := (hxw11.alloc' _).trans hx12'
                    have hx112 := (hx111.alloc' _).trans hx12'
                    have hx1012 := (hx1011.alloc' _).trans hx12'
                    clear h4
                    have h4 := fun W (h : Ext w W) (h' : Ext w10 W) g hg => bound_none W (HTab.out.ext h) T (HT.out.ext h) (n2 6 g p (n1 gn q)) (n2_at (by decide) (by decide) hg (HP.out.ext h) (HN.out.ext h')) HV.out (by rw [n2_cnt, n1_cnt]; omega) (by rw [n2_dep, n1_dep]; omega) (n2_int (by decide) (by decide) g HPI.out (n1_int gn HQI.out)) ((n2_ival 6 g HPV.out (HNQ.out gn)).trans hmv)
                    go_wp2_with fail
                    go_at_call 10
                    refine (h4 _ (hxw12.alloc' _) (hx1012.alloc' _) w12.heap.size (Hold.new w12 _ _)).mono ?_
                    rintro e w13 ⟨rfl, hx13'⟩
                    have hxw13 := (hxw12.alloc' _).trans hx13'
                    have hx113 := (hx112.alloc' _).trans hx13'
                    clear h4
                    rcases HSQ.out with ⟨⟨u1, u2⟩, hs1, hs2⟩ | ⟨hs1, hs2⟩
                    · have v1 : IntKind.i64.wrap (-j) = -j := IntWalk.i64_in _ (by omega)
                      have v2 : IntKind.i64.wrap (-i) = -i := IntWalk.i64_in _ (by omega)
                      have v3 : decide (i ≤ j) = true := decide_eq_true q2
                      have v4 : decide (0 ≤ j) = true := decide_eq_true q3
                      have h5 := fun W (h : Ext w W) g hg => bound_some W (HTab.out.ext h) T (HT.out.ext h) (n2 8 g p p) (n2_at (by decide) (by decide) hg (HP.out.ext h) (HP.out.ext h)) HV.out (by rw [n2_cnt]; omega) (by rw [n2_dep]; omega) (n2_int (by decide) (by decide) g HPI.out HPI.out) ((n2_ival 8 g HPV.out HPV.out).trans hs1)
                      go_wp2_with fail
                      go_at_call 10
                      refine (h5 _ (hxw13.alloc' _) w13.heap.size (Hold.new w13 _ _)).mono ?_
                      rintro e w14 ⟨rfl, hx14⟩
                      have hxw14 := (hxw13.alloc' _).trans hx14
                      have hx114 := (hx113.alloc' _).trans hx14
                      clear h5
                      have h6 := fun W (h : Ext w W) g1 g2 hg1 hg2 => bound_some W (HTab.out.ext h) T (HT.out.ext h) (n2 8 g2 (n1 g1 p) p) (n2_at (by decide) (by decide) hg2 (n1_at hg1 (HP.out.ext h)) (HP.out.ext h)) HV.out (by rw [n2_cnt, n1_cnt]; omega) (by rw [n2_dep, n1_dep]; omega) (n2_int (by decide) (by decide) g2 (n1_int g1 HPI.out) HPI.out) ((n2_ival 8 g2 (HNP.out g1) HPV.out).trans hs2)
                      go_wp2_with fail
                      go_at_call 10
                      refine (h6 _ ((hxw14.alloc' _).alloc' _) w14.heap.size (w14.heap.size + 1) ((Hold.new w14 _ _).ext (Ext.alloc _ _)) (Hold.new2 w14 _ _ _)).mono ?_
                      rintro e w15 ⟨rfl, hx15⟩
                      have hxw15 := ((hxw14.alloc' _).alloc' _).trans hx15
                      clear h6
                      go_wp2_with fail
                      go_ret
                      exact ⟨rfl, hxw15⟩
                    · have v5 := trivial
                      have h5 := fun W (h : Ext w W) g hg => bound_none W (HTab.out.ext h) T (HT.out.ext h) (n2 8 g p p) (n2_at (by decide) (by decide) hg (HP.out.ext h) (HP.out.ext h)) HV.out (by rw [n2_cnt]; omega) (by rw [n2_dep]; omega) (n2_int (by decide) (by decide) g HPI.out HPI.out) ((n2_ival 8 g HPV.out HPV.out).trans hs1)
                      go_wp2_with fail
                      go_at_call 10
                      refine (h5 _ (hxw13.alloc' _) w13.heap.size (Hold.new w13 _ _)).mono ?_
                      rintro e w14 ⟨rfl, hx14⟩
                      have hxw14 := (hxw13.alloc' _).trans hx14
                      have hx114 := (hx113.alloc' _).trans hx14
                      clear h5
                      have h6 := fun W (h : Ext w W) g1 g2 hg1 hg2 => bound_none W (HTab.out.ext h) T (HT.out.ext h) (n2 8 g2 (n1 g1 p) p) (n2_at (by decide) (by decide) hg2 (n1_at hg1 (HP.out.ext h)) (HP.out.ext h)) HV.out (by rw [n2_cnt, n1_cnt]; omega) (by rw [n2_dep, n1_dep]; omega) (n2_int (by decide) (by decide) g2 (n1_int g1 HPI.out) HPI.out) ((n2_ival 8 g2 (HNP.out g1) HPV.out).trans hs2)
                      go_wp2_with fail
                      go_at_call 10
                      refine (h6 _ ((hxw14.alloc' _).alloc' _) w14.heap.size (w14.heap.size + 1) ((Hold.new w14 _ _).ext (Ext.alloc _ _)) (Hold.new2 w14 _ _ _)).mono ?_
                      rintro e w15 ⟨rfl, hx15⟩
                      have hxw15 := ((hxw14.alloc' _).alloc' _).trans hx15
                      clear h6
                      go_wp2_with fail
                      go_ret
                      exact ⟨rfl, hxw15⟩
          · rcases HB2.out.code with rfl | rfl | rfl | rfl | rfl
            · exact absurd rfl he2
            · have v5 := trivial
              have hgw : ∀ d os, Ext w (Sort.grow (redrawn w8 d) os) := fun d os => hxw8.trans (below_regrown w8 d os)
              have hg1 : ∀ d os, Ext w1 (Sort.grow (redrawn w8 d) os) := fun d os => hx18.trans (below_regrown w8 d os)
              go_upto_region 8 with fail
              refine wp_region_quiet_below (by kernel_rfl) (by kernel_rfl) ?_
              repeat (go_big_quiet_step (fail))
              refine wpQuiet_nil ?_
              intro _ hw'
              obtain ⟨⟨dz, osz⟩, hw''⟩ := hw'
              subst hw''
              have hxw9 := hgw dz osz
              have hx19 := hg1 dz osz
              clear hgw hg1
              generalize Sort.grow (redrawn w8 dz) osz = w9 at hxw9 hx19 ⊢
              go_wp2_with fail
              go_ret
              exact ⟨rfl, hxw9⟩
            · have v5 := trivial
              have hgw : ∀ d os, Ext w (Sort.grow (redrawn w8 d) os) := fun d os => hxw8.trans (below_regrown w8 d os)
              have hg1 : ∀ d os, Ext w1 (Sort.grow (redrawn w8 d) os) := fun d os => hx18.trans (below_regrown w8 d os)
              go_upto_region 8 with fail
              refine wp_region_quiet_below (by kernel_rfl) (by kernel_rfl) ?_
              repeat (go_big_quiet_step (fail))
              refine wpQuiet_nil ?_
              intro _ hw'
              obtain ⟨⟨dz, osz⟩, hw''⟩ := hw'
              subst hw''
              have hxw9 := hgw dz osz
              have hx19 := hg1 dz osz
              clear hgw hg1
              generalize Sort.grow (redrawn w8 dz) osz = w9 at hxw9 hx19 ⊢
              go_wp2_with fail
              go_ret
              exact ⟨rfl, hxw9⟩
            · have v5 := trivial
              have hgw : ∀ d os, Ext w (Sort.grow (redrawn w8 d) os) := fun d os => hxw8.trans (below_regrown w8 d os)
              have hg1 : ∀ d os, Ext w1 (Sort.grow (redrawn w8 d) os) := fun d os => hx18.trans (below_regrown w8 d os)
              go_upto_region 8 with fail
              refine wp_region_quiet_below (by kernel_rfl) (by kernel_rfl) ?_
              repeat (go_big_quiet_step (fail))
              refine wpQuiet_nil ?_
              intro _ hw'
              obtain ⟨⟨dz, osz⟩, hw''⟩ := hw'
              subst hw''
              have hxw9 := hgw dz osz
              have hx19 := hg1 dz osz
              clear hgw hg1
              generalize Sort.grow (redrawn w8 dz) osz = w9 at hxw9 hx19 ⊢
              go_wp2_with fail
              go_ret
              exact ⟨rfl, hxw9⟩
            · have v5 := trivial
              have hgw : ∀ d os, Ext w (Sort.grow (redrawn w8 d) os) := fun d os => hxw8.trans (below_regrown w8 d os)
              have hg1 : ∀ d os, Ext w1 (Sort.grow (redrawn w8 d) os) := fun d os => hx18.trans (below_regrown w8 d os)
              go_upto_region 8 with fail
              refine wp_region_quiet_below (by kernel_rfl) (by kernel_rfl) ?_
              repeat (go_big_quiet_step (fail))
              refine wpQuiet_nil ?_
              intro _ hw'
              obtain ⟨⟨dz, osz⟩, hw''⟩ := hw'
              subst hw''
              have hxw9 := hgw dz osz
              have hx19 := hg1 dz osz
              clear hgw hg1
              generalize Sort.grow (redrawn w8 dz) osz = w9 at hxw9 hx19 ⊢
              go_wp2_with fail
              go_ret
              exact ⟨rfl, hxw9⟩
        · rcases HB1.out.code with rfl | rfl | rfl | rfl | rfl
          · exact absurd rfl he1
          · have v5 := trivial
            have hgw : ∀ d os, Ext w (Sort.grow (redrawn w8 d) os) := fun d os => hxw8.trans (below_regrown w8 d os)
            have hg1 : ∀ d os, Ext w1 (Sort.grow (redrawn w8 d) os) := fun d os => hx18.trans (below_regrown w8 d os)
            go_upto_region 8 with fail
            refine wp_region_quiet_below (by kernel_rfl) (by kernel_rfl) ?_
            repeat (go_big_quiet_step (fail))
            refine wpQuiet_nil ?_
            intro _ hw'
            obtain ⟨⟨dz, osz⟩, hw''⟩ := hw'
            subst hw''
            have hxw9 := hgw dz osz
            have hx19 := hg1 dz osz
            clear hgw hg1
            generalize Sort.grow (redrawn w8 dz) osz = w9 at hxw9 hx19 ⊢
            go_wp2_with fail
            go_ret
            exact ⟨rfl, hxw9⟩
          · have v5 := trivial
            have hgw : ∀ d os, Ext w (Sort.grow (redrawn w8 d) os) := fun d os => hxw8.trans (below_regrown w8 d os)
            have hg1 : ∀ d os, Ext w1 (Sort.grow (redrawn w8 d) os) := fun d os => hx18.trans (below_regrown w8 d os)
            go_upto_region 8 with fail
            refine wp_region_quiet_below (by kernel_rfl) (by kernel_rfl) ?_
            repeat (go_big_quiet_step (fail))
            refine wpQuiet_nil ?_
            intro _ hw'
            obtain ⟨⟨dz, osz⟩, hw''⟩ := hw'
            subst hw''
            have hxw9 := hgw dz osz
            have hx19 := hg1 dz osz
            clear hgw hg1
            generalize Sort.grow (redrawn w8 dz) osz = w9 at hxw9 hx19 ⊢
            go_wp2_with fail
            go_ret
            exact ⟨rfl, hxw9⟩
          · have v5 := trivial
            have hgw : ∀ d os, Ext w (Sort.grow (redrawn w8 d) os) := fun d os => hxw8.trans (below_regrown w8 d os)
            have hg1 : ∀ d os, Ext w1 (Sort.grow (redrawn w8 d) os) := fun d os => hx18.trans (below_regrown w8 d os)
            go_upto_region 8 with fail
            refine wp_region_quiet_below (by kernel_rfl) (by kernel_rfl) ?_
            repeat (go_big_quiet_step (fail))
            refine wpQuiet_nil ?_
            intro _ hw'
            obtain ⟨⟨dz, osz⟩, hw''⟩ := hw'
            subst hw''
            have hxw9 := hgw dz osz
            have hx19 := hg1 dz osz
            clear hgw hg1
            generalize Sort.grow (redrawn w8 dz) osz = w9 at hxw9 hx19 ⊢
            go_wp2_with fail
            go_ret
            exact ⟨rfl, hxw9⟩
          · have v5 := trivial
            have hgw : ∀ d os, Ext w (Sort.grow (redrawn w8 d) os) := fun d os => hxw8.trans (below_regrown w8 d os)
            have hg1 : ∀ d os, Ext w1 (Sort.grow (redrawn w8 d) os) := fun d os => hx18.trans (below_regrown w8 d os)
            go_upto_region 8 with fail
            refine wp_region_quiet_below (by kernel_rfl) (by kernel_rfl) ?_
            repeat (go_big_quiet_step (fail))
            refine wpQuiet_nil ?_
            intro _ hw'
            obtain ⟨⟨dz, osz⟩, hw''⟩ := hw'
            subst hw''
            have hxw9 := hgw dz osz
            have hx19 := hg1 dz osz
            clear hgw hg1
            generalize Sort.grow (redrawn w8 dz) osz = w9 at hxw9 hx19 ⊢
            go_wp2_with fail
            go_ret
            exact ⟨rfl, hxw9⟩

set_option maxRecDepth 100000 in
theorem contract (H : Type) (enc : TypeId × Value → H) (W : World) (base : Nat) (args : Array Value) (ds gs : List (DataW H)) (before : List MemPlace)
    (hval0 : ∀ (j : Nat) t v, Tryd.f3.params[j]? = some t → args[j]? = some v → Value.okWide Tryd.prog W .any base t v)
    (hW : DataW.Whole enc Tryd.prog Tryd.f3.params.toList Rows.predtypeArithmeticSpec.vars false W args.toList ds gs before)
    (hsz0 : (DataW.weightsEach Tryd.prog (Tryd.f3.params.toList ++ (OpenSpec.ofChange Rows.predtypeArithmeticSpec).bare.plain.varTypes Tryd.prog) (ds ++ gs)).all (· ≤ reachBytes) = true) (hL : laidMetH Tryd.prog Rows.predtypeArithmeticRow.laid W) :
    Calls Tryd.prog 3 args W fun e W' => ∃ v, e = .returned v ∧ Rows.predtypeArithmeticSpec.post enc Tryd.prog Tryd.f3 false true false false W args v W' := by
  have hsz1 := hsz0
  have hval := hval0
  clear hsz0
  have hW' := hW
  obtain ⟨p, q, hA0, hV, rfl, hfz, hnd⟩ := hW
  have hA : DataW.TrodAll enc Tryd.prog W 0 (fun _ => true) true Tryd.f3.params.toList args.toList ds p := hA0
  rw [Tryd.params3] at hA hval hsz1
  obtain ⟨v0, vs0, d0, ds0, p0, q0, hargs, rfl, rfl, h0, r0⟩ := trodAll_cons hA
  obtain ⟨v1, vs1, d1, ds1, p1, q1, rfl, rfl, rfl, h1, r1⟩ := trodAll_cons r0
  obtain ⟨v2, vs2, d2, ds2, p2, q2, rfl, rfl, rfl, h2, r2⟩ := trodAll_cons r1
  obtain ⟨rfl, rfl, rfl⟩ := trodAll_nil r2
  obtain rfl : args = #[v0, v1, v2] := by cases args; simp_all
  obtain ⟨rfl, rfl⟩ := trodVars_none hV
  obtain ⟨T0, rfl, hX0⟩ := arg_trace (hval 0 24 v0 rfl rfl) h0 (small_of hsz1 (j := 0) rfl rfl)
  obtain ⟨P1, rfl, hX1⟩ := arg_pred (hval 1 27 v1 rfl rfl) h1 (small_of hsz1 (j := 1) rfl rfl)
  obtain ⟨P2, rfl, hX2⟩ := arg_pred (hval 2 27 v2 rfl rfl) h2 (small_of hsz1 (j := 2) rfl rfl)
  clear hA0 hval0 hsz1
  simp only [List.append_nil] at hW'
  have hl2 : ∀ x ∈ p2, x.block < W.heap.size := fun x hx => hW'.lt x (by simp [hx])
  have hl1 : ∀ x ∈ p1, x.block < W.heap.size := fun x hx => hW'.lt x (by simp [hx])
  have hl0 : ∀ x ∈ p0, x.block < W.heap.size := fun x hx => hW'.lt x (by simp [hx])
  refine (walk T0 P1 P2 W hX0 hX1 hX2 (tab_of hL)).mono fun e W' ⟨he, hg⟩ => ?_
  subst he
  exact ⟨_, rfl, post_ext1 (pa := (p0 ++ (p1 ++ (p2 ++ [])))) (pv := []) hW' (fun _ _ _ => (trodAll_cons_mk (shut_bool Tryd.underlying4 _) trodAll_mk0)) (trodAll_cons_mk (Below.trod laid14 (by kernel_rfl) (of_decide_eq_true (by kernel_rfl)) h0 hg.below hl0) (trodAll_cons_mk (Below.trod laid14 (by kernel_rfl) (of_decide_eq_true (by kernel_rfl)) h1 hg.below hl1) (trodAll_cons_mk (Below.trod laid14 (by kernel_rfl) (of_decide_eq_true (by kernel_rfl)) h2 hg.below hl2) trodAll_mk0))) rfl hg⟩

abbrev arg0 : Value := .agg #[.slice none 0 0]
abbrev arg1 : Value := .agg #[.int .i64 0, .int .i64 0, .int .i64 0, .int .i64 0, .string ⟨#[]⟩, .slice none 0 0]
abbrev arg2 : Value := .agg #[.int .i64 0, .int .i64 0, .int .i64 0, .int .i64 0, .string ⟨#[]⟩, .slice none 0 0]
set_option maxRecDepth 100000 in
theorem laid_met (os : Os) : laidMet Tryd.prog Rows.predtypeArithmeticRow.laid ((laidWorld os).forCall (fun _ _ => 0) ⟨#[], #[arg0, arg1, arg2], []⟩).memory :=
  laidMet_of_run' 8 (by kernel_rfl) (by kernel_rfl)
set_option maxRecDepth 100000 in
theorem reads (os : Os) {H : Type} (enc : TypeId × Value → H) : ∃ d places, DataW.whole enc Tryd.prog ((laidWorld os).forCall (fun _ _ => 0) ⟨#[], #[arg0, arg1, arg2], []⟩).memory Tryd.f3.params.toList Rows.predtypeArithmeticSpec.vars false #[arg0, arg1, arg2].toList 8 = some (d, [], places) :=
  ⟨[.agg [.nil], .agg [.lit (.int .i64 0), .lit (.int .i64 0), .lit (.int .i64 0), .lit (.int .i64 0), .lit (.string []), .nil], .agg [.lit (.int .i64 0), .lit (.int .i64 0), .lit (.int .i64 0), .lit (.int .i64 0), .lit (.string []), .nil]], [], by kernel_rfl⟩
set_option maxRecDepth 100000 in
theorem lifted (os : Os) (started : os.Started) (H : Type) (enc : TypeId × Value → H) (F : Stop.Interp) :
    ReturnsInHanded {} Tryd.checked os 3 .any ((OpenSpec.ofChange Rows.predtypeArithmeticSpec).preRow enc Tryd.prog Tryd.f3 Rows.predtypeArithmeticRow.domain false Rows.predtypeArithmeticRow.laid) (((OpenSpec.ofChange Rows.predtypeArithmeticSpec).at F).post enc Tryd.prog Tryd.f3 false true false false) := by
  obtain ⟨d, places, hx⟩ := reads os enc
  refine returnsInHanded_of_row (C := Tryd.checked) (s := OpenSpec.ofChange Rows.predtypeArithmeticSpec) own14 started (by kernel_rfl) Tryd.func3
    (witness_row_at (enc := enc) (C := Tryd.checked) false (laidWorld os) #[arg0, arg1, arg2] rfl (by kernel_rfl) (by kernel_rfl) (by kernel_rfl)
      (OpenSpec.preRow_of_cond 8 hx (by kernel_rfl) (fun k hk => by cases hk) (by kernel_rfl) (laid_met os))) ?_
  intro W base args ds gs before hval hW _ _ hsz hL _ _
  exact contract H enc W base args ds gs before hval hW hsz hL

theorem over : Rows.PredtypeArithmeticSaid :=
  OpenClaim.holds_of_cond 3 Tryd.f3 rfl rfl rfl rfl rfl rfl rfl ⟨rfl, rfl, rfl, rfl, rfl⟩ rfl rfl rfl rfl rfl (by kernel_rfl) Tryd.func3 (by kernel_rfl)
    (of_decide_eq_true (by kernel_rfl)) (by unfold Func.isWrapper; first | (rw [if_pos (by decide +kernel)]; kernel_rfl) | (rw [if_neg (by decide +kernel)]; exact ⟨rfl, rfl⟩))
    (fun os started H enc _ F => by rw [OpenClaim.pre_eq_preRow]; exact lifted os started H enc F)

theorem plain (f : FuncId) (fn : Func) (hf : Tryd.pinned.checked.prog.funcNamed "antecede/antecedelaw28.PredtypeArithmetic" = some f) (hfn : Tryd.pinned.checked.prog.funcs[f]? = some fn) :
    false = Tryd.pinned.checked.prog.looks [] ∧ ∀ (j : Nat) t, fn.params[j]? = some t → Tryd.pinned.checked.prog.wantsStandIn t = false := by
  obtain rfl : f = 3 := Option.some.inj ((show Tryd.prog.funcNamed "antecede/antecedelaw28.PredtypeArithmetic" = some 3 by kernel_rfl).symm.trans hf) |>.symm
  obtain rfl : fn = Tryd.f3 := (Option.some.inj (Tryd.func3.symm.trans hfn)).symm
  refine ⟨by kernel_rfl, fun j t ht => ?_⟩
  rw [Tryd.params3] at ht
  have hm : t = 24 ∨ t = 27 := by simpa using Array.mem_of_getElem? ht
  rcases hm with rfl | rfl
  · exact (show Tryd.prog.wantsStandIn 24 = false by kernel_rfl)
  · exact (show Tryd.prog.wantsStandIn 27 = false by kernel_rfl)

/-- ████ THE STATEMENT ████ -/
theorem proved : Rows.PredtypeArithmeticCardSaid :=
  Claim7.holds_tied_plain_at .later [] _ _ _ _ over (fun _ h => by cases h) (by kernel_rfl) (fun _ h => by cases h) predtypeArithmetic_row_tie rfl ⟨rfl, rfl⟩ (by kernel_rfl) rfl plain (by kernel_rfl)
#print axioms proved

end Go.Proofs.YtdplphoohnnbcaaDoor.predtypeArithmetic
