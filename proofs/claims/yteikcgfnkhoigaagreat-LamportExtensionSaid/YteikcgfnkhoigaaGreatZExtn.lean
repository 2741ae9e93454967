/-
  PROVED HERE: 'LamportExtension' returns true for every trace, in every memory: no condition.
  (The row's step follows the shell that the kit's program wrote for 'LamportSteps'.)
-/
import Derived.Test.YteikcgfnkhoigaaGreatRows
import Derived.WalkKit
import Derived.Test.YteikcgfnkhoigaaGreatKl
import Derived.Test.YteikcgfnkhoigaaGreatKq
import Derived.Test.YteikcgfnkhoigaaGreatKr
import Derived.Test.YteikcgfnkhoigaaGreatKp
import Derived.Test.YteikcgfnkhoigaaGreatKv
import Derived.Test.YteikcgfnkhoigaaGreatKx
import Derived.Test.YteikcgfnkhoigaaGreatKw
namespace Go.Proofs.YteikcgfnkhoigaaGreat.lamportExtension
open Go.ChangeShapes Go.WideShapes Go.ChangeAt Go.RowKit Go.Proofs.YteikcgfnkhoigaaGreat
set_option linter.unusedVariables false

/-- a row of the stamps, and a stamp in it -/
theorem st_cells {w : World} {M : MM} {base k i : Nat} (hM : M.At w) (hb : M.a = some ⟨base, 0, none⟩) (hk : k < M.n) (hi : i < M.rn k) : ∃ b o c,
    (∀ w', Ext w w' → w'.cell? ⟨base, k, none⟩ = some (.slice (some ⟨b, o, none⟩) (M.rn k) c)) ∧ (∀ w', Ext w w' → b < w'.heap.size) ∧ (∀ w', Ext w w' → w'.cell? ⟨b, o + i, none⟩ = some (.int .i64 (M.val k i))) := by
  refine ⟨M.rb k, M.ro k, M.rc k, fun w' h => ?_, hM.rb k hk (by omega), fun w' h => hM.r0 w' h k i hk hi⟩
  have h1 := hM.p0 w' h k hk
  have h2 := hM.pa (by omega)
  rw [hb] at h2
  simp only [Option.some.injEq, Addr.mk.injEq, and_true] at h2
  rw [← h2.1, ← h2.2, Nat.zero_add] at h1
  rw [h1, hM.ra k hk (by omega)]
def TruePost (w : World) (e : Ending) (w' : World) : Prop := e = .returned (.bool true) ∧ Ext w w'
set_option maxRecDepth 100000 in
set_option maxHeartbeats 4000000 in
theorem walk (T : TM) (w : World) (hT : T.At w) :
    Calls Tryz.prog 8 #[T.val] w (TruePost w) := by
  have HT := Lib.hid hT
  clear hT
  go_enter Tryz.func8, Tryz.ntmps8
  go_upto_region 1 with fail
  refine boxed1 (w := w) (G := fun x => Code.wp _ _ _ _ x) ?_
  intro w1 hx1 hs1 ⟨l0, c0, _, _⟩
  have hx11 : Ext w1 w1 := Ext.refl _
  clear hs1
  go_wp2_with fail
  go_at_call 33
  refine (awake_any _).mono ?_
  rintro e w2 ⟨rfl, hx2⟩
  have hxw2 := hx1.trans hx2
  have hF := few_any w2 T (HT.out.ext hxw2)
  go_wp2_with fail
  go_at_call 34
  refine hF.mono ?_
  rintro e w3 ⟨hx3, c, rfl, hfw⟩
  have hxw3 := hxw2.trans hx3
  have hx13 := hx2.trans hx3
  clear hF
  cases c with
  | false =>
    clear hfw
    go_wp2_with fail
    go_at_call 33
    refine (awake_any _).mono ?_
    rintro e w9 ⟨rfl, hx9⟩
    go_wp2_with fail
    go_ret
    exact ⟨rfl, hxw3.trans hx9⟩
  | true =>
    have hfew := hfw rfl
    clear hfw
    have hEv := fun W (h : Ext w W) => levents_any W T (HT.out.ext h) hfew.1 hfew.2
    have HEv := Lib.hid hEv
    have hE3 := hEv w3 hxw3
    have HTS := Lib.hid hfew.2
    clear hEv hfew
    go_wp2_with fail
    go_at_call 44
    refine hE3.mono ?_
    rintro e w4 ⟨hx4, v4, rfl, hown4⟩
    obtain ⟨a4, g4, c4, rfl, _⟩ := hown4.evs
    have hxw4 := hxw3.trans hx4
    have hx14 := hx13.trans hx4
    obtain ⟨N, hN⟩ : ∃ N, N = T.toTr.evs.length := ⟨_, rfl⟩
    rw [← hN]
    have HN := Lib.hid hN
    clear hE3 hown4 hN
    by_cases h30 : 30 < N
    · have b1 : decide ((30 : Int) < (N : Int)) = true := decide_eq_true (by omega)
      have b1' : decide (30 < N) = true := decide_eq_true h30
      go_wp2_with fail
      go_at_call 33
      refine (awake_any _).mono ?_
      rintro e w9 ⟨rfl, hx9⟩
      go_wp2_with fail
      go_ret
      exact ⟨rfl, hxw4.trans hx9⟩
    · have b1 : decide ((30 : Int) < (N : Int)) = false := decide_eq_false (by omega)
      have b1' : decide (30 < N) = false := decide_eq_false h30
      have hVa := rvalid_any w4 T (HT.out.ext hxw4)
      go_wp2_with fail
      go_at_call 38
      refine hVa.mono ?_
      rintro e w5 ⟨b, rfl, hb, hx5⟩
      have hxw5 := hxw4.trans hx5
      have hx15 := hx14.trans hx5
      clear hVa
      cases b with
      | false =>
        clear hb
        go_wp2_with fail
        go_at_call 33
        refine (awake_any _).mono ?_
        rintro e w9 ⟨rfl, hx9⟩
        go_wp2_with fail
        go_ret
        exact ⟨rfl, hxw5.trans hx9⟩
      | true =>
        have HV := Lib.hid (hb.1 rfl)
        clear hb
        have hn1 := HV.out.n1
        have hn8 := HV.out.n8
        have HE8 := Lib.hid (show ∀ k, k < T.n → T.en k ≤ 64 from fun k hk => (HV.out.pr k hk).2.2.2.2)
        have hTo := total_yes w5 T (HT.out.ext hxw5) HV.out (fun k hk => by have := HE8.out k hk; omega)
        go_wp2_with fail
        go_at_call 35
        refine hTo.mono ?_
        rintro e w6 ⟨hx6, ⟨hn, _⟩ | ⟨_, rows1, l1, v1, hR1, rfl, hperm, hsort, hrow, _, cp1, rfl, hcap⟩⟩
        · exact absurd HV.out hn
        have hll : l1.length = N := by rw [HN.out]; exact hperm.length_eq
        obtain ⟨a1, g1, o1, cp, hv1, hL1⟩ := RowHas.evL (l := l1.map fun x => evI x.1) (by rw [List.length_map]; exact hrow) (by rw [List.length_map, hll]; omega)
        rw [List.length_map] at hv1
        cases hv1
        have HL1 := Lib.hid hL1
        have hLT := tot_sorted (evs_apart hR1) hperm hsort
        have HLT := Lib.hid (show ∀ j i (hj : j < l1.length) (hi : i < l1.length), j < i → tLt (T.toTr.stI rows1) T.toTr.prI l1[j] l1[i] from fun j i hj hi h => List.pairwise_iff_getElem.1 hLT j i hj hi h)
        rw [hll] at hcap ⊢
        have HLL := Lib.hid hll
        have HR1 := Lib.hid hR1
        have hxw6 := hxw5.trans hx6
        have hx16 := hx15.trans hx6
        have hSt := stamps_yes w6 T (HT.out.ext hxw6) HV.out (fun k hk => by have := HE8.out k hk; omega)
        clear hTo hLT hsort hperm hrow hll hL1 hR1
        go_wp2_with fail
        go_at_call 45
        refine hSt.mono ?_
        rintro e w7 ⟨hx7, ⟨hn, _⟩ | ⟨_, base, cap, rows, vs, hbl, rfl, hst, hR⟩⟩
        · exact absurd HV.out hn
        have hxw7 := hxw6.trans hx7
        have hx17 := hx16.trans hx7
        obtain ⟨M, hM⟩ : ∃ M, M = stMM base T.n cap rows vs := ⟨_, rfl⟩
        have HMA := Lib.hid (show M.At w7 from by rw [hM]; exact hst.mm)
        have HMV := Lib.hid (show ∀ k i, k < T.n → i < T.en k → M.val k i = stOf rows1 (k, i) from fun k i hk hi => by rw [hM]; exact Tr.Stamps.uniq HV.out hR HR1.out (k, i) ⟨hk, hi⟩)
        have HMR := Lib.hid (show ∀ k, k < T.n → M.rn k = T.en k from fun k hk => by rw [hM]; exact hR.len k hk)
        have HMN := Lib.hid (show M.a = some ⟨base, 0, none⟩ ∧ M.n = T.n ∧ M.cap = cap from by rw [hM]; exact ⟨rfl, rfl, rfl⟩)
        have hFt := rfits_any w7 T (HT.out.ext hxw7) M HMA.out
        have HFI := Lib.hid (show T.toTr.FitsM M.toMx from ⟨HMN.out.2.1, fun k hk => HMR.out k (by have := HMN.out.2.1; omega)⟩)
        rw [HMN.out.1, HMN.out.2.1, HMN.out.2.2] at hFt
        clear hSt hst hR hbl hM
        go_wp2_with fail
        go_at_call 46
        refine hFt.mono ?_
        rintro e w8 ⟨b, rfl, hb, hx8⟩
        obtain rfl : b = true := hb.2 HFI.out
        have hxw8 := hxw7.trans hx8
        have hx18 := hx17.trans hx8
        have hE8' := HEv.out w8 hxw8
        clear hFt hb
        go_wp2_with fail
        go_at_call 44
        refine hE8'.mono ?_
        rintro e w9 ⟨hx9, v9, rfl, hown9⟩
        obtain ⟨a9, g9, c9, rfl, _⟩ := hown9.evs
        rw [← HN.out]
        have hxw9 := hxw8.trans hx9
        have hx19 := hx18.trans hx9
        have hx69 := hx7.trans (hx8.trans hx9)
        have hx79 := hx8.trans hx9
        have HM9 := Lib.hid (HMA.out.ext hx79)
        have HL9 := Lib.hid (HL1.out.ext hx69)
        have mb : ∀ w', Ext w9 w' → base < w'.heap.size := fun w' h => by
          have h1 := HM9.out.pb (by have := HMN.out.2.1; omega) w' h
          have h2 := HM9.out.pa (by have := HMN.out.2.1; omega)
          rw [HMN.out.1] at h2
          simp only [Option.some.injEq, Addr.mk.injEq, and_true] at h2
          rw [← h2.1] at h1
          exact h1
        clear hE8' hown9 HEv b1 b1'
        go_wp2_with fail
        go_loopg [64] N (fun gg v64 wr => ∃ i : Nat, i ≤ N ∧ gg = N - i ∧ v64 = .int .i64 i ∧ Ext w9 wr)
        case atStart => exact ⟨0, by omega, rfl, rfl, Ext.refl _⟩
        case round =>
          obtain ⟨i, hi, rfl, rfl, hxr⟩ := hrel
          by_cases hlt : i < N
          · have hlt' : (i : Int) < (N : Int) := by omega
            have hil : i < l1.length := by rw [HLL.out]; exact hlt
            obtain ⟨x, hxe⟩ : ∃ x, x = l1[i] := ⟨_, rfl⟩
            have hil2 : i < (l1.map fun x => evI x.1).length := by rw [List.length_map]; exact hil
            have q0 : ∀ w', Ext w9 w' → w'.cell? ⟨g1, o1 + i * 2, none⟩ = some (.int .i64 x.1.1) := fun w' h => by rw [HL9.out.p0 w' h i hil2, hxe]; simp
            have q1 : ∀ w', Ext w9 w' → w'.cell? ⟨g1, o1 + i * 2 + 1, none⟩ = some (.int .i64 ((x.1.2 : Int) + 1)) := fun w' h => by rw [HL9.out.p1 w' h i hil2, hxe]; simp
            have qb := HL9.out.pb (by omega)
            obtain rfl := HL9.out.pa (by omega)
            have HXE := Lib.hid hxe
            obtain ⟨⟨xp, xi⟩, hxp, hxi⟩ := x
            dsimp only at hxp hxi q0 q1
            obtain ⟨xq, hxq⟩ : ∃ q : Int, q = (xi : Int) + 1 := ⟨_, rfl⟩
            rw [← hxq] at q1
            have HXQ := Lib.hid hxq
            clear hxe hil2 hxq
            go_upto_region 10 with fail
            refine boxed1 (w := wr) (G := fun x => Code.wp _ _ _ _ x) ?_
            intro w10 hx10 hs10 ⟨l10, c10, _, _⟩
            have hx1010 : Ext w10 w10 := Ext.refl _
            have hx910 := hxr.trans hx10
            have hx110 := hx19.trans hx910
            have hxw10 := hxw9.trans hx910
            have hIs := revent_any w10 T (HT.out.ext hxw10) (xp : Int) xq true ⟨fun _ => ⟨by omega, by omega, by have := HXQ.out; omega, by
              have e : ((xp : Int)).toNat = xp := by omega
              have := HXQ.out
              rw [e]; omega⟩, fun _ => rfl⟩
            clear hs10 q0 q1
            generalize wr.heap.size = xb at l10 c10 ⊢
            go_wp2_with fail
            go_at_call 42
            refine hIs.mono ?_
            rintro e w11 ⟨rfl, hx11'⟩
            have hx111 := hx110.trans hx11'
            have hx911 := hx910.trans hx11'
            have hx1011 := hx1010.trans hx11'
            have hx1111 : Ext w11 w11 := Ext.refl _
            have hcap2 : i ≤ cp1 := by omega
            have hcap3 : (i : Int) ≤ (cp1 : Int) := by omega
            clear hIs
            go_wp2_with fail
            go_loopg [77] i (fun gg v77 wi => ∃ j : Nat, j ≤ i ∧ gg = i - j ∧ v77 = .int .i64 j ∧ Ext w11 wi)
            case atStart => exact ⟨0, by omega, rfl, rfl, hx1111⟩
            case round =>
              obtain ⟨j, hj, rfl, rfl, hxj⟩ := hrel
              have hx9j := hx911.trans hxj
              by_cases hlj : j < i
              · have hlj' : (j : Int) < (i : Int) := by omega
                have hjl : j < l1.length := by rw [HLL.out]; omega
                have hLT := HLT.out j i hjl hil hlj
                rw [← HXE.out] at hLT
                obtain ⟨y, hye⟩ : ∃ y, y = l1[j] := ⟨_, rfl⟩
                rw [← hye] at hLT
                have hjl2 : j < (l1.map fun x => evI x.1).length := by rw [List.length_map]; exact hjl
                have q0 : ∀ w', Ext w9 w' → w'.cell? ⟨g1, o1 + j * 2, none⟩ = some (.int .i64 y.1.1) := fun w' h => by rw [HL9.out.p0 w' h j hjl2, hye]; simp
                have q1 : ∀ w', Ext w9 w' → w'.cell? ⟨g1, o1 + j * 2 + 1, none⟩ = some (.int .i64 ((y.1.2 : Int) + 1)) := fun w' h => by rw [HL9.out.p1 w' h j hjl2, hye]; simp
                obtain ⟨⟨yp, yi⟩, hyp, hyi⟩ := y
                dsimp only at hyp hyi q0 q1
                obtain ⟨yq, hyq⟩ : ∃ q : Int, q = (yi : Int) + 1 := ⟨_, rfl⟩
                rw [← hyq] at q1
                have hnb : ¬ T.toTr.Bef (xp, xi) (yp, yi) := fun h => by
                  have h1 := HR1.out.bef_lt (x := (xp, xi)) (y := (yp, yi)) ⟨hyp, hyi⟩ h
                  unfold tLt Tr.stI at hLT
                  dsimp only at hLT
                  omega
                obtain ⟨bx, ox, cx, sx0, sx1, sx2⟩ := st_cells HM9.out HMN.out.1 (k := xp) (i := xi) (by rw [HMN.out.2.1]; exact hxp) (by rw [HMR.out xp hxp]; exact hxi)
                obtain ⟨by', oy, cy, sy0, sy1, sy2⟩ := st_cells HM9.out HMN.out.1 (k := yp) (i := yi) (by rw [HMN.out.2.1]; exact hyp) (by rw [HMR.out yp hyp]; exact hyi)
                rw [HMV.out xp xi hxp hxi] at sx2
                rw [HMV.out yp yi hyp hyi] at sy2
                rw [HMR.out xp hxp] at sx0
                rw [HMR.out yp hyp] at sy0
                obtain ⟨sx, hsx⟩ : ∃ s, s = stOf rows1 (xp, xi) := ⟨_, rfl⟩
                obtain ⟨sy, hsy⟩ : ∃ s, s = stOf rows1 (yp, yi) := ⟨_, rfl⟩
                rw [← hsx] at sx2
                rw [← hsy] at sy2
                have hcmp : sy < sx ∨ (sy = sx ∧ (yp : Int) < (xp : Int)) := by
                  unfold tLt Tr.stI Tr.prI at hLT
                  dsimp only at hLT
                  rw [hsx, hsy]; exact hLT
                have hne : ¬ (xp = yp ∧ xq = yq) := fun ⟨h1, h2⟩ => by
                  have h3 : xi = yi := by have := HXQ.out; omega
                  rw [h1, h3, ← hsy] at hsx
                  omega
                have HYQ := Lib.hid hyq
                clear hyq
                go_upto_region 15 with fail
                refine boxed1 (w := wr) (G := fun x => Code.wp _ _ _ _ x) ?_
                intro w14 hx14a hs14 ⟨l14, c14, _, _⟩
                have hx1414 : Ext w14 w14 := Ext.refl _
                have hx1114 := hxj.trans hx14a
                have hx914 := hx9j.trans hx14a
                have hxw14 := hxw9.trans hx914
                have hx114 := hx19.trans hx914
                have hx1014 := hx1011.trans hx1114
                have hB := cbefore_any w14 T (HT.out.ext hxw14) HV.out (xp, xi) (yp, yi) ⟨hxp, hxi⟩ ⟨hyp, hyi⟩ false ⟨fun h => (by cases h), fun h => absurd h hnb⟩
                dsimp only at hB
                rw [← HXQ.out, ← HYQ.out] at hB
                have hxq' : 1 ≤ xq ∧ xq ≤ 64 := by have := HE8.out xp hxp; have := HXQ.out; omega
                have hyq' : 1 ≤ yq ∧ yq ≤ 64 := by have := HE8.out yp hyp; have := HYQ.out; omega
                have hx0 : IntKind.i64.wrap (xq - 1) = (xi : Int) := by rw [IntWalk.i64_in _ (by omega)]; have := HXQ.out; omega
                have hy0 : IntKind.i64.wrap (yq - 1) = (yi : Int) := by rw [IntWalk.i64_in _ (by omega)]; have := HYQ.out; omega
                have hxpi : (xp : Int) < (T.n : Int) := by omega
                have hypi : (yp : Int) < (T.n : Int) := by omega
                have hxii : (xi : Int) < (T.en xp : Int) := by omega
                have hyii : (yi : Int) < (T.en yp : Int) := by omega
                clear hs14 q0 q1 hnb hLT hsx hsy
                generalize wr.heap.size = yb at l14 c14 ⊢
                go_wp2_with fail
                go_at_call 47
                refine hB.mono ?_
                rintro e w15 ⟨rfl, hx15a⟩
                have hx1515 : Ext w15 w15 := Ext.refl _
                have hx1415 := hx15a
                have hx115 := hx114.trans hx15a
                have hx915 := hx914.trans hx15a
                have hx615 := hx1114.trans hx15a
                have hx1015 := hx1014.trans hx15a
                clear hB
                have de : ((xp : Int) == (yp : Int) && xq == yq) = false := by
                  rw [Bool.and_eq_false_iff]
                  by_cases h1 : xp = yp
                  · exact .inr (by simpa using fun h2 => hne ⟨h1, h2⟩)
                  · exact .inl (by simpa using fun h2 : (xp : Int) = yp => h1 (by omega))
                rcases hcmp with hcmp | ⟨hcmp, hpp⟩
                · have d1 : decide (sx < sy) = false := decide_eq_false (by omega)
                  have d2 : (sy == sx) = false := by simpa using fun h : sy = sx => by omega
                  clear hcmp
                  by_cases e : xp = yp
                  · have e2 : (xq == yq) = false := beq_eq_false_iff_ne.2 fun h2 => hne ⟨e, h2⟩
                    have e1 : ((xp : Int) == (yp : Int)) = true := by rw [e]; simp
                    have e1' : (xp == yp) = true := by simpa using e
                    clear de hne e
                    go_upto_region 16 with fail
                    go_quiet (fail)
                    go_wp2_with fail
                    go_roundg (i - (j + 1))
                    case rel => exact ⟨j + 1, by omega, rfl, by go_num, by repeat (first | exact hx615 | refine Ext.drewN ?_ _)⟩
                    case measure => omega
                  · have e1 : ((xp : Int) == (yp : Int)) = false := by simpa using fun h2 : (xp : Int) = yp => e (by omega)
                    have e1' : (xp == yp) = false := by simpa using e
                    clear de hne e
                    go_upto_region 16 with fail
                    go_quiet (fail)
                    go_wp2_with fail
                    go_roundg (i - (j + 1))
                    case rel => exact ⟨j + 1, by omega, rfl, by go_num, by repeat (first | exact hx615 | refine Ext.drewN ?_ _)⟩
                    case measure => omega
                · subst hcmp
                  have d1 : decide (sy < sy) = false := decide_eq_false (by omega)
                  have d3 : decide ((xp : Int) ≤ (yp : Int)) = false := decide_eq_false (by omega)
                  have d3' : decide (xp ≤ yp) = false := decide_eq_false (by omega)
                  go_upto_region 16 with fail
                  go_quiet (fail)
                  go_wp2_with fail
                  go_roundg (i - (j + 1))
                  case rel => exact ⟨j + 1, by omega, rfl, by go_num, by repeat (first | exact hx615 | refine Ext.drewN ?_ _)⟩
                  case measure => omega
              · obtain rfl : j = i := by omega
                go_wp2_with fail
                go_roundg (N - (j + 1))
                case rel => exact ⟨j + 1, by omega, rfl, by go_num, hx9j⟩
                case measure => omega
          · obtain rfl : i = N := by omega
            go_wp2_with fail
            go_ret
            exact ⟨rfl, hxw9.trans hxr⟩
set_option maxRecDepth 100000 in
theorem lifted (os : Os) (started : os.Started) (H : Type) (enc : TypeId × Value → H) :
    ReturnsInHanded {} Tryz.checked os 8 .any (Rows.lamportExtensionSpec.pre6 enc Tryz.prog Tryz.f8 Rows.lamportExtensionRow.domain false) (Rows.lamportExtensionSpec.post enc Tryz.prog Tryz.f8 false true false false) := by
  refine returnsInHanded_of_change_sized (C := Tryz.checked) own14 started (by kernel_rfl) Tryz.func8
    (ChangeSpec.witness6 (enc := enc) (C := Tryz.checked) false ⟨#[], #[.agg #[.slice none 0 0]], []⟩ 8 (by kernel_rfl) (by kernel_rfl) (by kernel_rfl) (by kernel_rfl)) ?_
  intro W base args ds gs before hval0 hW _ hsz0 _
  have hsz1 : (DataW.weightsEach Tryz.prog (Tryz.f8.params.toList ++ Rows.lamportExtensionSpec.plain.varTypes Tryz.prog) (ds ++ gs)).all (· ≤ reachBytes) = true := hsz0
  clear hsz0
  have hval : ∀ (j : Nat) t v, Tryz.f8.params[j]? = some t → args[j]? = some v → Value.okWide Tryz.prog W .any base t v := hval0
  have hW' := hW
  obtain ⟨p, q, hA0, hV, rfl, hfz, hnd⟩ := hW
  have hA : DataW.TrodAll enc Tryz.prog W 0 (fun _ => true) true Tryz.f8.params.toList args.toList ds p := hA0
  rw [Tryz.params8] at hA hval hsz1
  obtain ⟨v0, vs0, d0, ds0, p0, q0, hargs, rfl, rfl, h0, r0⟩ := trodAll_cons hA
  obtain ⟨rfl, rfl, rfl⟩ := trodAll_nil r0
  obtain rfl : args = #[v0] := by cases args; simp_all
  obtain ⟨rfl, rfl⟩ := trodVars_none hV
  obtain ⟨T0, rfl, hT0⟩ := arg_trace (hval 0 24 v0 rfl rfl) h0 (small_of hsz1 (j := 0) rfl rfl)
  clear hA0 hval0 hsz1
  simp only [List.append_nil] at hW'
  have hl0 : ∀ x ∈ p0, x.block < W.heap.size := fun x hx => hW'.lt x (by simp [hx])
  refine (walk T0 W hT0).mono fun e W' ⟨he, hg⟩ => ?_
  subst he
  exact ⟨_, rfl, post_ext1 (pa := (p0 ++ [])) (pv := []) hW' (fun _ _ _ => (trodAll_cons_mk (shut_bool Tryz.underlying4 _) trodAll_mk0)) (trodAll_cons_mk (Below.trod laid14 (by kernel_rfl) (of_decide_eq_true (by kernel_rfl)) h0 hg.below hl0) trodAll_mk0) rfl hg⟩

theorem over : Rows.lamportExtensionRow.holds Tryz.pinned (OpenSpec.ofChange Rows.lamportExtensionSpec) :=
  OpenClaim.holds_of_wide 8 Tryz.f8 rfl rfl rfl rfl rfl rfl rfl ⟨rfl, rfl, rfl, rfl, rfl⟩ rfl rfl rfl rfl rfl (by kernel_rfl) Tryz.func8 (by kernel_rfl)
    (of_decide_eq_true (by kernel_rfl)) (by unfold Func.isWrapper; first | (rw [if_pos (by decide +kernel)]; kernel_rfl) | (rw [if_neg (by decide +kernel)]; exact ⟨rfl, rfl⟩))
    (fun os started H enc _ => lifted os started H enc)

/-- ████ THE STATEMENT ████ -/
theorem proved : Rows.LamportExtensionSaid :=
  over
#print axioms proved
end Go.Proofs.YteikcgfnkhoigaaGreat.lamportExtension

