/-
  PROVED HERE: 'LamportOrder' returns true for every trace and every list of lists of numbers, in every memory: no condition.
  (The row's step follows the shell that the kit's program wrote for 'LamportSteps'.)
-/
import Derived.Test.YtecgigeeolindaaRows
import Derived.WalkKit
import Derived.Test.YtecgigeeolindaaGk
import Derived.Test.YtecgigeeolindaaGr
import Derived.Test.YtecgigeeolindaaGb
import Derived.Test.YtecgigeeolindaaGp
namespace Go.Proofs.Ytecgigeeolindaa.lamportOrder
open Go.ChangeShapes Go.WideShapes Go.ChangeAt Go.RowKit Go.Proofs.Ytecgigeeolindaa
set_option linter.unusedVariables false

set_option maxHeartbeats 400000 in
theorem clos_any (w : World) (a : Option Addr) (n cap : Nat) :
    Calls Try.prog 26 #[.slice a n cap] w fun r w' => r = .returned (.bool (decide (80 < (n : Int)))) ∧ Ext w w' := by
  go_enter Try.func26, Try.ntmps26
  go_wp2
  go_ret
  exact ⟨ret_bool (by simp), Ext.refl _⟩
def TruePost (w : World) (e : Ending) (w' : World) : Prop := e = .returned (.bool true) ∧ Ext w w'
set_option maxRecDepth 100000 in
set_option maxHeartbeats 2000000 in
theorem walk (T : TM) (M : MM) (w : World) (hT : T.At w) (hM : M.At w) :
    Calls Try.prog 7 #[T.val, .slice M.a M.n M.cap] w (TruePost w) := by
  have hmn := hM.hn
  have HT := Lib.hid hT
  have HM := Lib.hid hM
  clear hT hM
  go_enter Try.func7, Try.ntmps7
  go_upto_region 1 with fail
  refine boxed1 (w := w) (G := fun x => Code.wp _ _ _ _ x) ?_
  intro w1 hx1 hs1 ⟨l0, c0, _, _⟩
  have hx11 : Ext w1 w1 := Ext.refl _
  clear hs1
  go_wp2_with fail
  go_at_call 9
  refine (awake_any _).mono ?_
  rintro e w2 ⟨rfl, hx2⟩
  have hxw2 := hx1.trans hx2
  have hF := few_any w2 T (HT.out.ext hxw2)
  go_wp2_with fail
  go_at_call 11
  refine hF.mono ?_
  rintro e w3 ⟨hx3, b, rfl, hb⟩
  have hxw3 := hxw2.trans hx3
  have hx13 := hx2.trans hx3
  clear hF
  cases b with
  | false =>
    clear hb
    go_wp2_with fail
    go_at_call 9
    refine (awake_any _).mono ?_
    rintro e w9 ⟨rfl, hx9⟩
    go_wp2_with fail
    go_ret
    exact ⟨rfl, hxw3.trans hx9⟩
  | true =>
    have hfew := hb rfl
    clear hb
    have hEv := fun W (h : Ext w W) => levents_any W T (HT.out.ext h) hfew.1 hfew.2
    have HEv := Lib.hid hEv
    have hE3 := hEv w3 hxw3
    clear hEv hfew
    go_wp2_with fail
    go_at_call 25
    refine hE3.mono ?_
    rintro e w4 ⟨hx4, v4, rfl, hown4⟩
    obtain ⟨a4, g4, c4, rfl, _⟩ := hown4.evs
    have hxw4 := hxw3.trans hx4
    have hx14 := hx13.trans hx4
    obtain ⟨N, hN⟩ : ∃ N, N = T.toTr.evs.length := ⟨_, rfl⟩
    rw [← hN]
    have HN := Lib.hid hN
    clear hE3 hown4 hN
    by_cases h30 : 30 < N
    · have b1 : decide ((30 : Int) < (N : Int)) = true := decide_eq_true (by omega)
      have b1' : decide (30 < N) = true := decide_eq_true h30
      go_wp2_with fail
      go_at_call 9
      refine (awake_any _).mono ?_
      rintro e w9 ⟨rfl, hx9⟩
      go_wp2_with fail
      go_ret
      exact ⟨rfl, hxw4.trans hx9⟩
    · have b1 : decide ((30 : Int) < (N : Int)) = false := decide_eq_false (by omega)
      have b1' : decide (30 < N) = false := decide_eq_false h30
      have hVa := rvalid_any w4 T (HT.out.ext hxw4)
      go_wp2_with fail
      go_at_call 12
      refine hVa.mono ?_
      rintro e w5 ⟨b, rfl, hb, hx5⟩
      have hxw5 := hxw4.trans hx5
      have hx15 := hx14.trans hx5
      clear hVa
      cases b with
      | false =>
        clear hb
        go_wp2_with fail
        go_at_call 9
        refine (awake_any _).mono ?_
        rintro e w9 ⟨rfl, hx9⟩
        go_wp2_with fail
        go_ret
        exact ⟨rfl, hxw5.trans hx9⟩
      | true =>
        have HV := Lib.hid (hb.1 rfl)
        clear hb
        by_cases h12 : 12 < M.n
        · have b2 : decide ((12 : Int) < (M.n : Int)) = true := decide_eq_true (by omega)
          have b2' : decide (12 < M.n) = true := decide_eq_true h12
          go_wp2_with fail
          go_at_call 9
          refine (awake_any _).mono ?_
          rintro e w9 ⟨rfl, hx9⟩
          go_wp2_with fail
          go_ret
          exact ⟨rfl, hxw5.trans hx9⟩
        · have b2 : decide ((12 : Int) < (M.n : Int)) = false := decide_eq_false (by omega)
          have b2' : decide (12 < M.n) = false := decide_eq_false h12
          have hIv := has_Ints w5 M.a M.b M.off M.n M.cap (fun i => .slice (M.ra i) (M.rn i) (M.rc i)) 26 #[] (fun i => decide (80 < (M.rn i : Int))) hmn (fun h => HM.out.pa h) (fun w' hx i hi => HM.out.p0 w' (hxw5.trans hx) i hi)
            (enters_of Try.func26 (by kernel_rfl) rfl) (fun i hi w' hx => clos_any w' _ _ _)
          cases hE : anyB (fun i => decide (80 < (M.rn i : Int))) M.n with
          | true =>
            rw [hE] at hIv
            clear hE
            go_wp2_with fail
            go_at_call 22
            refine hIv.mono ?_
            rintro e w6 ⟨rfl, hx6⟩
            have hxw6 := hxw5.trans hx6
            clear hIv
            go_wp2_with fail
            go_at_call 9
            refine (awake_any _).mono ?_
            rintro e w9 ⟨rfl, hx9⟩
            go_wp2_with fail
            go_ret
            exact ⟨rfl, hxw6.trans hx9⟩
          | false =>
            rw [hE] at hIv
            clear hE
            go_wp2_with fail
            go_at_call 22
            refine hIv.mono ?_
            rintro e w6 ⟨rfl, hx6⟩
            have hxw6 := hxw5.trans hx6
            have hx16 := hx15.trans hx6
            have hn1 := HV.out.n1
            have hSt := stamps_yes w6 T (HT.out.ext hxw6) HV.out (fun k hk => by have := (HV.out.pr k hk).2.2.2.2; omega)
            have hSk := fun W (h : Ext w W) => skipped_yes W T (HT.out.ext h) HV.out (by rw [← HN.out]; omega)
            have HSk := Lib.hid hSk
            have HE8 := Lib.hid (show ∀ k, k < T.n → T.en k ≤ 64 from fun k hk => (HV.out.pr k hk).2.2.2.2)
            have hn8 := HV.out.n8
            clear hIv hSk
            go_wp2_with fail
            go_at_call 14
            refine hSt.mono ?_
            rintro e w7 ⟨hx7, ⟨hn, _⟩ | ⟨_, base, cap, rows, vs, hbl, rfl, hst, hR⟩⟩
            · exact absurd HV.out hn
            · have hxw7 := hxw6.trans hx7
              have hx17 := hx16.trans hx7
              have HST := Lib.hid hst
              have HR := Lib.hid hR
              have hS7 := HSk.out w7 hxw7
              clear hst hR hSt hbl HSk
              go_wp2_with fail
              go_at_call 27
              refine hS7.mono ?_
              rintro e w8 ⟨hx8, ⟨hn, _⟩ | ⟨_, rows2, hR2, rfl⟩⟩
              · exact absurd HV.out hn
              · have hxw8 := hxw7.trans hx8
                have hx18 := hx17.trans hx8
                have hst8 := HST.out.ext (by omega) hx8
                obtain ⟨sn, hsn⟩ : ∃ sn, sn = T.toTr.skipN rows2 := ⟨_, rfl⟩
                have HSN := Lib.hid (show sn = T.toTr.skipN rows by rw [hsn]; exact Tr.skipN_eq HV.out hR2 HR.out)
                rw [← hsn]
                have hFt := rfits_any w8 T (HT.out.ext hxw8) (stMM base T.n cap rows vs) hst8.mm
                simp only [stMM] at hFt
                clear hsn hS7 hst8 hR2
                go_wp2_with fail
                go_at_call 16
                refine hFt.mono ?_
                rintro e w9 ⟨b, rfl, hb, hx9⟩
                obtain rfl : b = true := hb.2 ⟨rfl, fun k hk => HR.out.len k hk⟩
                have hxw9 := hxw8.trans hx9
                have hx19 := hx18.trans hx9
                have hC := lcheck_yes w9 T (HT.out.ext hxw9) HV.out M (HM.out.ext hxw9)
                clear hFt hb
                go_wp2_with fail
                go_at_call 21
                refine hC.mono ?_
                rintro e w10 ⟨o, rfl, ho, hx10⟩
                have hxw10 := hxw9.trans hx10
                have hx110 := hx19.trans hx10
                have HO := Lib.hid ho
                clear hC ho
                have hEv10 := HEv.out w10 hxw10
                have hF10 := rfits_any w10 T (HT.out.ext hxw10) M (HM.out.ext hxw10)
                have hst10 := HST.out.ext (by omega) (hx8.trans (hx9.trans hx10))
                have HST10 := Lib.hid hst10
                have HF10 := Lib.hid hF10
                clear hF10 hst10 HST
                -- 'other' and the fit
                have fin : ∀ w11, Ext w w11 → Ext w1 w11 → StS base base T.n rows vs w11 → (∀ v, EvOwn w11 w10.heap.size v (T.toTr.evs.map fun x => evI x.1) → True) → True := fun _ _ _ _ _ => trivial
                clear fin
                cases o with
                | true =>
                  have HCP := Lib.hid (HO.out.1 rfl)
                  go_wp2_with fail
                  go_at_call 16
                  refine HF10.out.mono ?_
                  rintro e w11 ⟨b, rfl, hb, hx11'⟩
                  obtain rfl : b = true := hb.2 HCP.out.2.1
                  have hxw11 := hxw10.trans hx11'
                  have hx111 := hx110.trans hx11'
                  have hE11 := HEv.out w11 hxw11
                  have HST11 := Lib.hid (HST10.out.ext (by omega) hx11')
                  have ma := HM.out.pa (by have := HCP.out.2.1.1; omega)
                  have mb := HM.out.pb (by have := HCP.out.2.1.1; omega)
                  clear hb hEv10 HST10 HF10 HO
                  go_wp2_with fail
                  go_at_call 25
                  refine hE11.mono ?_
                  rintro e w12 ⟨hx12, v12, rfl, hown12⟩
                  obtain ⟨a12, g12, c12, rfl, hall⟩ := hown12.evs
                  have hxw12 := hxw11.trans hx12
                  have hx112 := hx111.trans hx12
                  rw [← HN.out] at hall ⊢
                  have HALL := Lib.hid hall
                  have HST12 := Lib.hid (HST11.out.ext (by omega) hx12)
                  have HSL := Lib.hid (show ∀ x y, y ≤ N → tot (T.toTr.sk rows x) y ≤ 30 from fun x y hy => Nat.le_trans (tot_small (c := 1) fun k _ => T.toTr.sk_le rows x k) (by omega))
                  have HSL2 := Lib.hid (show ∀ x, x ≤ N → tot (fun x => tot (T.toTr.sk rows x) N) x ≤ 900 from fun x hx => Nat.le_trans (tot_small (c := 30) fun k _ => HSL.out k N (Nat.le_refl _)) (by omega))
                  clear hall hown12 hE11 HST11 HEv b1 b1' b2 b2'
                  go_wp2_with fail
                  go_loopg [11, 83] N (fun gg v11 v83 wr => ∃ x : Nat, x ≤ N ∧ gg = N - x ∧ v11 = .int .i64 (tot (fun x => tot (T.toTr.sk rows x) N) x) ∧ v83 = .int .i64 x ∧ Ext w12 wr)
                  case atStart => exact ⟨0, by omega, rfl, rfl, rfl, Ext.refl _⟩
                  case round =>
                    obtain ⟨x, hx, rfl, rfl, rfl, hxr⟩ := hrel
                    have hb1 := HSL2.out x hx
                    by_cases hlt : x < N
                    · have hlt' : (x : Int) < (N : Int) := by omega
                      obtain ⟨rfl, lg, ex0, ex1⟩ := HALL.out x hlt
                      have hVx := T.toTr.evN_V x (by have := HN.out; omega)
                      obtain ⟨⟨xp, xi⟩, hxe⟩ : ∃ z, z = T.toTr.evN x := ⟨_, rfl⟩
                      rw [← hxe] at hVx ex0 ex1
                      have HXE := Lib.hid hxe
                      have HVX := Lib.hid hVx
                      dsimp only at ex0 ex1
                      clear hxe hVx
                      go_upto_region 15 with fail
                      refine boxed1 (w := wr) (G := fun x => Code.wp _ _ _ _ x) ?_
                      intro w13 hx13a hs13 ⟨l13, c13, _, _⟩
                      have hx1313 : Ext w13 w13 := Ext.refl _
                      have hx1213 := hxr.trans hx13a
                      clear hs13 ex0 ex1
                      generalize wr.heap.size = xb at l13 c13 ⊢
                      go_wp2_with fail
                      go_loopg [11, 89] N (fun gg v11 v89 wi => ∃ y : Nat, y ≤ N ∧ gg = N - y ∧ v11 = .int .i64 ((tot (fun x => tot (T.toTr.sk rows x) N) x + tot (T.toTr.sk rows x) y : Nat) : Int) ∧ v89 = .int .i64 y ∧ Ext w13 wi)
                      case atStart => exact ⟨0, by omega, rfl, rfl, rfl, hx1313⟩
                      case round =>
                        obtain ⟨y, hy, rfl, rfl, rfl, hxj⟩ := hrel
                        have hb2 := HSL.out x y hy
                        have hx12j := hx1213.trans hxj
                        by_cases hly : y < N
                        · have hly' : (y : Int) < (N : Int) := by omega
                          obtain ⟨_, _, ey0, ey1⟩ := HALL.out y hly
                          have hVy := T.toTr.evN_V y (by have := HN.out; omega)
                          obtain ⟨⟨yp, yi⟩, hye⟩ : ∃ z, z = T.toTr.evN y := ⟨_, rfl⟩
                          rw [← hye] at hVy ey0 ey1
                          have HYE := Lib.hid hye
                          dsimp only at ey0 ey1
                          clear hye
                          go_upto_region 18 with fail
                          refine boxed1 (w := wr) (G := fun x => Code.wp _ _ _ _ x) ?_
                          intro w14 hx14a hs14 ⟨l14, c14, _, _⟩
                          have hx1414 : Ext w14 w14 := Ext.refl _
                          have hx1314 := hxj.trans hx14a
                          have hx1214 := hx12j.trans hx14a
                          have hxw14 := hxw12.trans hx1214
                          have hx114 := hx112.trans hx1214
                          clear hs14 ey0 ey1
                          generalize wr.heap.size = yb at l14 c14 ⊢
                          obtain ⟨b, hbb⟩ := exists_bool (T.toTr.Bef (xp, xi) (yp, yi))
                          have hB := cbefore_any w14 T (HT.out.ext hxw14) HV.out (xp, xi) (yp, yi) HVX.out hVy b hbb
                          dsimp only at hB
                          have HBB := Lib.hid hbb
                          have HVY := Lib.hid hVy
                          clear hbb hVy
                          go_wp2_with fail
                          go_at_call 17
                          refine hB.mono ?_
                          rintro e w15 ⟨rfl, hx15a⟩
                          have hx1515 : Ext w15 w15 := Ext.refl _
                          have hx1415 := hx14a
                          have hx1215 := hx1214.trans hx15a
                          have hx1315 := hx1314.trans hx15a
                          have hx115 := hx114.trans hx15a
                          have hxw15 := hxw14.trans hx15a
                          have hxp : xp < T.n := HVX.out.1
                          have hxi : xi < T.en xp := HVX.out.2
                          have hyp : yp < T.n := HVY.out.1
                          have hyi : yi < T.en yp := HVY.out.2
                          have hxe8 := HE8.out xp hxp
                          have hye8 := HE8.out yp hyp
                          have hxl : (rows xp).length = T.en xp := HR.out.len xp hxp
                          have hyl : (rows yp).length = T.en yp := HR.out.len yp hyp
                          obtain ⟨gx, cx, sx0, sx1, sx2⟩ := HST12.out.read hxp (by rw [hxl]; exact hxi)
                          obtain ⟨gy, cy, sy0, sy1, sy2⟩ := HST12.out.read hyp (by rw [hyl]; exact hyi)
                          rw [hxl] at sx0
                          rw [hyl] at sy0
                          have hsb : ∀ w', Ext w12 w' → base < w'.heap.size := fun w' h => Nat.lt_of_lt_of_le (cell_lt (HST12.out.cell xp hxp) : base < w12.heap.size) h.le
                          obtain ⟨sx, hsx⟩ : ∃ s, s = stOf rows (xp, xi) := ⟨_, rfl⟩
                          obtain ⟨sy, hsy⟩ : ∃ s, s = stOf rows (yp, yi) := ⟨_, rfl⟩
                          have sx3 : ∀ w', Ext w12 w' → w'.cell? ⟨gx, xi, none⟩ = some (.int .i64 sx) := fun w' h => by rw [hsx]; exact sx2 w' h
                          have sy3 : ∀ w', Ext w12 w' → w'.cell? ⟨gy, yi, none⟩ = some (.int .i64 sy) := fun w' h => by rw [hsy]; exact sy2 w' h
                          have HSX := Lib.hid (show sx = stOf rows (T.toTr.evN x) by rw [← HXE.out]; exact hsx)
                          have HSY := Lib.hid (show sy = stOf rows (T.toTr.evN y) by rw [← HYE.out]; exact hsy)
                          have HLT := Lib.hid (show b = true → sx < sy from fun h => by rw [hsx, hsy]; exact HR.out.bef_lt HVY.out (HBB.out.1 h))
                          have hxp' : (xp : Int) < (T.n : Int) := by omega
                          have hyp' : (yp : Int) < (T.n : Int) := by omega
                          have hxi' : (xi : Int) < (T.en xp : Int) := by omega
                          have hyi' : (yi : Int) < (T.en yp : Int) := by omega
                          have hw1 : IntKind.i64.wrap (xi : Int) = (xi : Int) := IntWalk.i64_in _ (by omega)
                          have hw2 : IntKind.i64.wrap (yi : Int) = (yi : Int) := IntWalk.i64_in _ (by omega)
                          have HBE := Lib.hid (show T.toTr.bef x y ↔ b = true by rw [HBB.out, HXE.out, HYE.out]; exact Iff.rfl)
                          clear hsx hsy sx2 sy2 hxl hyl hB
                          cases b with
                          | true =>
                            have hss := HLT.out rfl
                            have HBF := Lib.hid (HBB.out.1 rfl)
                            have ds : decide (sx < sy) = true := decide_eq_true hss
                            have HSK := Lib.hid (show T.toTr.sk rows x y = 0 from Tr.sk_no fun h => h.2 (HBE.out.2 rfl))
                            clear hss
                            go_upto_region 21 with fail
                            go_quiet (fail)
                            clear sx0 sx1 sx3 sy0 sy1 sy3 hxi' hyi'
                            try have hmv := HCP.out.bef_lt HVY.out HBF.out
                            try have dm : decide (M.val yp yi ≤ M.val xp xi) = false := decide_eq_false (by dsimp only at hmv; omega)
                            try have hmn2 : M.n = T.n := HCP.out.2.1.1
                            try have hrx : M.rn xp = T.en xp := HCP.out.2.1.2 xp hxp
                            try have hry : M.rn yp = T.en yp := HCP.out.2.1.2 yp hyp
                            try have hmx : xp < M.n := by omega
                            try have hmy : yp < M.n := by omega
                            try have hmx' : (xp : Int) < (M.n : Int) := by omega
                            try have hmy' : (yp : Int) < (M.n : Int) := by omega
                            try have hrx' : (xi : Int) < (M.rn xp : Int) := by omega
                            try have hry' : (yi : Int) < (M.rn yp : Int) := by omega
                            try have m0x : ∀ w', Ext w w' → w'.cell? ⟨M.b, M.off + xp, none⟩ = some (.slice (M.ra xp) (M.rn xp) (M.rc xp)) := fun w' h => HM.out.p0 w' h xp hmx
                            try have m0y : ∀ w', Ext w w' → w'.cell? ⟨M.b, M.off + yp, none⟩ = some (.slice (M.ra yp) (M.rn yp) (M.rc yp)) := fun w' h => HM.out.p0 w' h yp hmy
                            try have mbx := HM.out.rb xp hmx (by omega)
                            try have mby := HM.out.rb yp hmy (by omega)
                            try have mcx : ∀ w', Ext w w' → w'.cell? ⟨M.rb xp, M.ro xp + xi, none⟩ = some (.int .i64 (M.val xp xi)) := fun w' h => HM.out.r0 w' h xp xi hmx (by omega)
                            try have mcy : ∀ w', Ext w w' → w'.cell? ⟨M.rb yp, M.ro yp + yi, none⟩ = some (.int .i64 (M.val yp yi)) := fun w' h => HM.out.r0 w' h yp yi hmy (by omega)
                            try have mrx := HM.out.ra xp hmx (by omega)
                            try have mry := HM.out.ra yp hmy (by omega)
                            try clear hmv hmn2 hrx hry
                            go_upto_region 22 with fail
                            go_quiet (fail)
                            go_wp2_with fail
                            go_roundg (N - (y + 1))
                            case rel => exact ⟨y + 1, by omega, rfl, by show _ = Value.int .i64 ((tot (fun x => tot (T.toTr.sk rows x) N) x + (tot (T.toTr.sk rows x) y + T.toTr.sk rows x y) : Nat) : Int); rw [HSK.out]; go_num, by go_num, (by first | exact (hx1315.drewN _).drewN _ | exact hx1315.drewN _)⟩
                            case measure => omega
                          | false =>
                            by_cases hss : sx < sy
                            · have ds : decide (sx < sy) = true := decide_eq_true hss
                              have HSK := Lib.hid (show T.toTr.sk rows x y = 1 from Tr.sk_yes (by rw [← HSX.out, ← HSY.out]; exact hss) fun h => by have := HBE.out.1 h; cases this)
                              clear hss
                              go_upto_region 21 with fail
                              go_quiet (fail)
                              go_upto_region 22 with fail
                              go_quiet (fail)
                              go_wp2_with fail
                              go_roundg (N - (y + 1))
                              case rel => exact ⟨y + 1, by omega, rfl, by show _ = Value.int .i64 ((tot (fun x => tot (T.toTr.sk rows x) N) x + (tot (T.toTr.sk rows x) y + T.toTr.sk rows x y) : Nat) : Int); rw [HSK.out]; go_num, by go_num, (by first | exact (hx1315.drewN _).drewN _ | exact hx1315.drewN _)⟩
                              case measure => omega
                            · have ds : decide (sx < sy) = false := decide_eq_false hss
                              have HSK := Lib.hid (show T.toTr.sk rows x y = 0 from Tr.sk_no fun h => hss (by rw [HSX.out, HSY.out]; exact h.1))
                              clear hss
                              go_upto_region 21 with fail
                              go_quiet (fail)
                              go_upto_region 22 with fail
                              go_quiet (fail)
                              go_wp2_with fail
                              go_roundg (N - (y + 1))
                              case rel => exact ⟨y + 1, by omega, rfl, by show _ = Value.int .i64 ((tot (fun x => tot (T.toTr.sk rows x) N) x + (tot (T.toTr.sk rows x) y + T.toTr.sk rows x y) : Nat) : Int); rw [HSK.out]; go_num, by go_num, (by first | exact (hx1315.drewN _).drewN _ | exact hx1315.drewN _)⟩
                              case measure => omega
                        · have hye : y = N := by omega
                          subst hye
                          go_wp2_with fail
                          go_roundg (y - (x + 1))
                          case rel => exact ⟨x + 1, by omega, rfl, rfl, by go_num, hx12j⟩
                          case measure => omega
                    · have hxe : x = N := by omega
                      subst hxe
                      have HSE := Lib.hid (show (tot (fun z => tot (T.toTr.sk rows z) x) x : Nat) = sn by rw [HSN.out]; unfold Tr.skipN; rw [← HN.out])
                      have hse : ((tot (fun z => tot (T.toTr.sk rows z) x) x : Nat) : Int) = (sn : Int) := by rw [HSE.out]
                      go_wp2_with fail
                      go_ret
                      exact ⟨ret_bool (by simp), hxw12.trans hxr⟩
                | false =>
                  have hE11 := hEv10
                  have HST11 := HST10
                  clear hEv10 HST10 HF10 HO
                  go_wp2_with fail
                  go_at_call 25
                  refine hE11.mono ?_
                  rintro e w12 ⟨hx12, v12, rfl, hown12⟩
                  obtain ⟨a12, g12, c12, rfl, hall⟩ := hown12.evs
                  have hxw12 := hxw10.trans hx12
                  have hx112 := hx110.trans hx12
                  rw [← HN.out] at hall ⊢
                  have HALL := Lib.hid hall
                  have HST12 := Lib.hid (HST11.out.ext (by omega) hx12)
                  have HSL := Lib.hid (show ∀ x y, y ≤ N → tot (T.toTr.sk rows x) y ≤ 30 from fun x y hy => Nat.le_trans (tot_small (c := 1) fun k _ => T.toTr.sk_le rows x k) (by omega))
                  have HSL2 := Lib.hid (show ∀ x, x ≤ N → tot (fun x => tot (T.toTr.sk rows x) N) x ≤ 900 from fun x hx => Nat.le_trans (tot_small (c := 30) fun k _ => HSL.out k N (Nat.le_refl _)) (by omega))
                  clear hall hown12 hE11 HST11 HEv b1 b1' b2 b2'
                  go_wp2_with fail
                  go_loopg [11, 83] N (fun gg v11 v83 wr => ∃ x : Nat, x ≤ N ∧ gg = N - x ∧ v11 = .int .i64 (tot (fun x => tot (T.toTr.sk rows x) N) x) ∧ v83 = .int .i64 x ∧ Ext w12 wr)
                  case atStart => exact ⟨0, by omega, rfl, rfl, rfl, Ext.refl _⟩
                  case round =>
                    obtain ⟨x, hx, rfl, rfl, rfl, hxr⟩ := hrel
                    have hb1 := HSL2.out x hx
                    by_cases hlt : x < N
                    · have hlt' : (x : Int) < (N : Int) := by omega
                      obtain ⟨rfl, lg, ex0, ex1⟩ := HALL.out x hlt
                      have hVx := T.toTr.evN_V x (by have := HN.out; omega)
                      obtain ⟨⟨xp, xi⟩, hxe⟩ : ∃ z, z = T.toTr.evN x := ⟨_, rfl⟩
                      rw [← hxe] at hVx ex0 ex1
                      have HXE := Lib.hid hxe
                      have HVX := Lib.hid hVx
                      dsimp only at ex0 ex1
                      clear hxe hVx
                      go_upto_region 15 with fail
                      refine boxed1 (w := wr) (G := fun x => Code.wp _ _ _ _ x) ?_
                      intro w13 hx13a hs13 ⟨l13, c13, _, _⟩
                      have hx1313 : Ext w13 w13 := Ext.refl _
                      have hx1213 := hxr.trans hx13a
                      clear hs13 ex0 ex1
                      generalize wr.heap.size = xb at l13 c13 ⊢
                      go_wp2_with fail
                      go_loopg [11, 89] N (fun gg v11 v89 wi => ∃ y : Nat, y ≤ N ∧ gg = N - y ∧ v11 = .int .i64 ((tot (fun x => tot (T.toTr.sk rows x) N) x + tot (T.toTr.sk rows x) y : Nat) : Int) ∧ v89 = .int .i64 y ∧ Ext w13 wi)
                      case atStart => exact ⟨0, by omega, rfl, rfl, rfl, hx1313⟩
                      case round =>
                        obtain ⟨y, hy, rfl, rfl, rfl, hxj⟩ := hrel
                        have hb2 := HSL.out x y hy
                        have hx12j := hx1213.trans hxj
                        by_cases hly : y < N
                        · have hly' : (y : Int) < (N : Int) := by omega
                          obtain ⟨_, _, ey0, ey1⟩ := HALL.out y hly
                          have hVy := T.toTr.evN_V y (by have := HN.out; omega)
                          obtain ⟨⟨yp, yi⟩, hye⟩ : ∃ z, z = T.toTr.evN y := ⟨_, rfl⟩
                          rw [← hye] at hVy ey0 ey1
                          have HYE := Lib.hid hye
                          dsimp only at ey0 ey1
                          clear hye
                          go_upto_region 18 with fail
                          refine boxed1 (w := wr) (G := fun x => Code.wp _ _ _ _ x) ?_
                          intro w14 hx14a hs14 ⟨l14, c14, _, _⟩
                          have hx1414 : Ext w14 w14 := Ext.refl _
                          have hx1314 := hxj.trans hx14a
                          have hx1214 := hx12j.trans hx14a
                          have hxw14 := hxw12.trans hx1214
                          have hx114 := hx112.trans hx1214
                          clear hs14 ey0 ey1
                          generalize wr.heap.size = yb at l14 c14 ⊢
                          obtain ⟨b, hbb⟩ := exists_bool (T.toTr.Bef (xp, xi) (yp, yi))
                          have hB := cbefore_any w14 T (HT.out.ext hxw14) HV.out (xp, xi) (yp, yi) HVX.out hVy b hbb
                          dsimp only at hB
                          have HBB := Lib.hid hbb
                          have HVY := Lib.hid hVy
                          clear hbb hVy
                          go_wp2_with fail
                          go_at_call 17
                          refine hB.mono ?_
                          rintro e w15 ⟨rfl, hx15a⟩
                          have hx1515 : Ext w15 w15 := Ext.refl _
                          have hx1415 := hx14a
                          have hx1215 := hx1214.trans hx15a
                          have hx1315 := hx1314.trans hx15a
                          have hx115 := hx114.trans hx15a
                          have hxw15 := hxw14.trans hx15a
                          have hxp : xp < T.n := HVX.out.1
                          have hxi : xi < T.en xp := HVX.out.2
                          have hyp : yp < T.n := HVY.out.1
                          have hyi : yi < T.en yp := HVY.out.2
                          have hxe8 := HE8.out xp hxp
                          have hye8 := HE8.out yp hyp
                          have hxl : (rows xp).length = T.en xp := HR.out.len xp hxp
                          have hyl : (rows yp).length = T.en yp := HR.out.len yp hyp
                          obtain ⟨gx, cx, sx0, sx1, sx2⟩ := HST12.out.read hxp (by rw [hxl]; exact hxi)
                          obtain ⟨gy, cy, sy0, sy1, sy2⟩ := HST12.out.read hyp (by rw [hyl]; exact hyi)
                          rw [hxl] at sx0
                          rw [hyl] at sy0
                          have hsb : ∀ w', Ext w12 w' → base < w'.heap.size := fun w' h => Nat.lt_of_lt_of_le (cell_lt (HST12.out.cell xp hxp) : base < w12.heap.size) h.le
                          obtain ⟨sx, hsx⟩ : ∃ s, s = stOf rows (xp, xi) := ⟨_, rfl⟩
                          obtain ⟨sy, hsy⟩ : ∃ s, s = stOf rows (yp, yi) := ⟨_, rfl⟩
                          have sx3 : ∀ w', Ext w12 w' → w'.cell? ⟨gx, xi, none⟩ = some (.int .i64 sx) := fun w' h => by rw [hsx]; exact sx2 w' h
                          have sy3 : ∀ w', Ext w12 w' → w'.cell? ⟨gy, yi, none⟩ = some (.int .i64 sy) := fun w' h => by rw [hsy]; exact sy2 w' h
                          have HSX := Lib.hid (show sx = stOf rows (T.toTr.evN x) by rw [← HXE.out]; exact hsx)
                          have HSY := Lib.hid (show sy = stOf rows (T.toTr.evN y) by rw [← HYE.out]; exact hsy)
                          have HLT := Lib.hid (show b = true → sx < sy from fun h => by rw [hsx, hsy]; exact HR.out.bef_lt HVY.out (HBB.out.1 h))
                          have hxp' : (xp : Int) < (T.n : Int) := by omega
                          have hyp' : (yp : Int) < (T.n : Int) := by omega
                          have hxi' : (xi : Int) < (T.en xp : Int) := by omega
                          have hyi' : (yi : Int) < (T.en yp : Int) := by omega
                          have hw1 : IntKind.i64.wrap (xi : Int) = (xi : Int) := IntWalk.i64_in _ (by omega)
                          have hw2 : IntKind.i64.wrap (yi : Int) = (yi : Int) := IntWalk.i64_in _ (by omega)
                          have HBE := Lib.hid (show T.toTr.bef x y ↔ b = true by rw [HBB.out, HXE.out, HYE.out]; exact Iff.rfl)
                          clear hsx hsy sx2 sy2 hxl hyl hB
                          cases b with
                          | true =>
                            have hss := HLT.out rfl
                            have HBF := Lib.hid (HBB.out.1 rfl)
                            have ds : decide (sx < sy) = true := decide_eq_true hss
                            have HSK := Lib.hid (show T.toTr.sk rows x y = 0 from Tr.sk_no fun h => h.2 (HBE.out.2 rfl))
                            clear hss
                            go_upto_region 21 with fail
                            go_quiet (fail)
                            clear sx0 sx1 sx3 sy0 sy1 sy3 hxi' hyi'
                            try have hmv := HCP.out.bef_lt HVY.out HBF.out
                            try have dm : decide (M.val yp yi ≤ M.val xp xi) = false := decide_eq_false (by dsimp only at hmv; omega)
                            try have hmn2 : M.n = T.n := HCP.out.2.1.1
                            try have hrx : M.rn xp = T.en xp := HCP.out.2.1.2 xp hxp
                            try have hry : M.rn yp = T.en yp := HCP.out.2.1.2 yp hyp
                            try have hmx : xp < M.n := by omega
                            try have hmy : yp < M.n := by omega
                            try have hmx' : (xp : Int) < (M.n : Int) := by omega
                            try have hmy' : (yp : Int) < (M.n : Int) := by omega
                            try have hrx' : (xi : Int) < (M.rn xp : Int) := by omega
                            try have hry' : (yi : Int) < (M.rn yp : Int) := by omega
                            try have m0x : ∀ w', Ext w w' → w'.cell? ⟨M.b, M.off + xp, none⟩ = some (.slice (M.ra xp) (M.rn xp) (M.rc xp)) := fun w' h => HM.out.p0 w' h xp hmx
                            try have m0y : ∀ w', Ext w w' → w'.cell? ⟨M.b, M.off + yp, none⟩ = some (.slice (M.ra yp) (M.rn yp) (M.rc yp)) := fun w' h => HM.out.p0 w' h yp hmy
                            try have mbx := HM.out.rb xp hmx (by omega)
                            try have mby := HM.out.rb yp hmy (by omega)
                            try have mcx : ∀ w', Ext w w' → w'.cell? ⟨M.rb xp, M.ro xp + xi, none⟩ = some (.int .i64 (M.val xp xi)) := fun w' h => HM.out.r0 w' h xp xi hmx (by omega)
                            try have mcy : ∀ w', Ext w w' → w'.cell? ⟨M.rb yp, M.ro yp + yi, none⟩ = some (.int .i64 (M.val yp yi)) := fun w' h => HM.out.r0 w' h yp yi hmy (by omega)
                            try have mrx := HM.out.ra xp hmx (by omega)
                            try have mry := HM.out.ra yp hmy (by omega)
                            try clear hmv hmn2 hrx hry
                            go_upto_region 22 with fail
                            go_quiet (fail)
                            go_wp2_with fail
                            go_roundg (N - (y + 1))
                            case rel => exact ⟨y + 1, by omega, rfl, by show _ = Value.int .i64 ((tot (fun x => tot (T.toTr.sk rows x) N) x + (tot (T.toTr.sk rows x) y + T.toTr.sk rows x y) : Nat) : Int); rw [HSK.out]; go_num, by go_num, (by first | exact (hx1315.drewN _).drewN _ | exact hx1315.drewN _)⟩
                            case measure => omega
                          | false =>
                            by_cases hss : sx < sy
                            · have ds : decide (sx < sy) = true := decide_eq_true hss
                              have HSK := Lib.hid (show T.toTr.sk rows x y = 1 from Tr.sk_yes (by rw [← HSX.out, ← HSY.out]; exact hss) fun h => by have := HBE.out.1 h; cases this)
                              clear hss
                              go_upto_region 21 with fail
                              go_quiet (fail)
                              go_upto_region 22 with fail
                              go_quiet (fail)
                              go_wp2_with fail
                              go_roundg (N - (y + 1))
                              case rel => exact ⟨y + 1, by omega, rfl, by show _ = Value.int .i64 ((tot (fun x => tot (T.toTr.sk rows x) N) x + (tot (T.toTr.sk rows x) y + T.toTr.sk rows x y) : Nat) : Int); rw [HSK.out]; go_num, by go_num, (by first | exact (hx1315.drewN _).drewN _ | exact hx1315.drewN _)⟩
                              case measure => omega
                            · have ds : decide (sx < sy) = false := decide_eq_false hss
                              have HSK := Lib.hid (show T.toTr.sk rows x y = 0 from Tr.sk_no fun h => hss (by rw [HSX.out, HSY.out]; exact h.1))
                              clear hss
                              go_upto_region 21 with fail
                              go_quiet (fail)
                              go_upto_region 22 with fail
                              go_quiet (fail)
                              go_wp2_with fail
                              go_roundg (N - (y + 1))
                              case rel => exact ⟨y + 1, by omega, rfl, by show _ = Value.int .i64 ((tot (fun x => tot (T.toTr.sk rows x) N) x + (tot (T.toTr.sk rows x) y + T.toTr.sk rows x y) : Nat) : Int); rw [HSK.out]; go_num, by go_num, (by first | exact (hx1315.drewN _).drewN _ | exact hx1315.drewN _)⟩
                              case measure => omega
                        · have hye : y = N := by omega
                          subst hye
                          go_wp2_with fail
                          go_roundg (y - (x + 1))
                          case rel => exact ⟨x + 1, by omega, rfl, rfl, by go_num, hx12j⟩
                          case measure => omega
                    · have hxe : x = N := by omega
                      subst hxe
                      have HSE := Lib.hid (show (tot (fun z => tot (T.toTr.sk rows z) x) x : Nat) = sn by rw [HSN.out]; unfold Tr.skipN; rw [← HN.out])
                      have hse : ((tot (fun z => tot (T.toTr.sk rows z) x) x : Nat) : Int) = (sn : Int) := by rw [HSE.out]
                      go_wp2_with fail
                      go_ret
                      exact ⟨ret_bool (by simp), hxw12.trans hxr⟩
set_option maxRecDepth 100000 in
theorem lifted (os : Os) (started : os.Started) (H : Type) (enc : TypeId × Value → H) :
    ReturnsInHanded {} Try.checked os 7 .any (Rows.lamportOrderSpec.pre6 enc Try.prog Try.f7 Rows.lamportOrderRow.domain false) (Rows.lamportOrderSpec.post enc Try.prog Try.f7 false true false false) := by
  refine returnsInHanded_of_change_sized (C := Try.checked) own14 started (by kernel_rfl) Try.func7
    (ChangeSpec.witness6 (enc := enc) (C := Try.checked) false ⟨#[], #[.agg #[.slice none 0 0], .slice none 0 0], []⟩ 8 (by kernel_rfl) (by kernel_rfl) (by kernel_rfl) (by kernel_rfl)) ?_
  intro W base args ds gs before hval0 hW _ hsz0 _
  have hsz1 : (DataW.weightsEach Try.prog (Try.f7.params.toList ++ Rows.lamportOrderSpec.plain.varTypes Try.prog) (ds ++ gs)).all (· ≤ reachBytes) = true := hsz0
  clear hsz0
  have hval : ∀ (j : Nat) t v, Try.f7.params[j]? = some t → args[j]? = some v → Value.okWide Try.prog W .any base t v := hval0
  have hW' := hW
  obtain ⟨p, q, hA0, hV, rfl, hfz, hnd⟩ := hW
  have hA : DataW.TrodAll enc Try.prog W 0 (fun _ => true) true Try.f7.params.toList args.toList ds p := hA0
  rw [Try.params7] at hA hval hsz1
  obtain ⟨v0, vs0, d0, ds0, p0, q0, hargs, rfl, rfl, h0, r0⟩ := trodAll_cons hA
  obtain ⟨v1, vs1, d1, ds1, p1, q1, rfl, rfl, rfl, h1, r1⟩ := trodAll_cons r0
  obtain ⟨rfl, rfl, rfl⟩ := trodAll_nil r1
  obtain rfl : args = #[v0, v1] := by cases args; simp_all
  obtain ⟨rfl, rfl⟩ := trodVars_none hV
  obtain ⟨T0, rfl, hT0⟩ := arg_trace (hval 0 29 v0 rfl rfl) h0 (small_of hsz1 (j := 0) rfl rfl)
  obtain ⟨M1, rfl, hM1, hMv1, _⟩ := arg_mm (hval 1 34 v1 rfl rfl) h1 (small_of hsz1 (j := 1) rfl rfl)
  clear hA0 hval0 hsz1
  simp only [List.append_nil] at hW'
  have hl1 : ∀ x ∈ p1, x.block < W.heap.size := fun x hx => hW'.lt x (by simp [hx])
  have hl0 : ∀ x ∈ p0, x.block < W.heap.size := fun x hx => hW'.lt x (by simp [hx])
  refine (walk T0 M1 W hT0 hM1).mono fun e W' ⟨he, hg⟩ => ?_
  subst he
  exact ⟨_, rfl, post_ext1 (pa := (p0 ++ (p1 ++ []))) (pv := []) hW' (fun _ _ _ => (trodAll_cons_mk (shut_bool Try.underlying4 _) trodAll_mk0)) (trodAll_cons_mk (Below.trod laid14 (by kernel_rfl) (of_decide_eq_true (by kernel_rfl)) h0 hg.below hl0) (trodAll_cons_mk (Below.trod laid14 (by kernel_rfl) (of_decide_eq_true (by kernel_rfl)) h1 hg.below hl1) trodAll_mk0)) rfl hg⟩

theorem over : Rows.lamportOrderRow.holds Try.pinned (OpenSpec.ofChange Rows.lamportOrderSpec) :=
  OpenClaim.holds_of_wide 7 Try.f7 rfl rfl rfl rfl rfl rfl rfl ⟨rfl, rfl, rfl, rfl, rfl⟩ rfl rfl rfl rfl rfl (by kernel_rfl) Try.func7 (by kernel_rfl)
    (of_decide_eq_true (by kernel_rfl)) (by unfold Func.isWrapper; first | (rw [if_pos (by decide +kernel)]; kernel_rfl) | (rw [if_neg (by decide +kernel)]; exact ⟨rfl, rfl⟩))
    (fun os started H enc _ => lifted os started H enc)

/-- ████ THE STATEMENT ████ -/
theorem proved : Rows.LamportOrderSaid :=
  over
#print axioms proved
end Go.Proofs.Ytecgigeeolindaa.lamportOrder

