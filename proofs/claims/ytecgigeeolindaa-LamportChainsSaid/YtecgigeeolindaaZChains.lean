/-
  PROVED HERE: 'LamportChains' returns true for every trace and every event, in every memory: no condition.
  (The row's step follows the shell that the kit's program wrote for 'LamportSteps'.)
-/
import Derived.Test.YtecgigeeolindaaRows
import Derived.WalkKit
import Derived.Test.YtecgigeeolindaaGk
import Derived.Test.YtecgigeeolindaaGo
import Derived.Test.YtecgigeeolindaaGs
namespace Go.Proofs.Ytecgigeeolindaa.lamportChains
open Go.ChangeShapes Go.WideShapes Go.ChangeAt Go.RowKit Go.Proofs.Ytecgigeeolindaa
set_option linter.unusedVariables false

def TruePost (w : World) (e : Ending) (w' : World) : Prop := e = .returned (.bool true) ∧ Ext w w'
set_option maxRecDepth 100000 in
set_option maxHeartbeats 2000000 in
theorem walk (T : TM) (a b : Int) (w : World) (hT : T.At w) (hE : okI a ∧ okI b) :
    Calls Try.prog 4 #[T.val, .agg #[.int .i64 a, .int .i64 b]] w (TruePost w) := by
  have HT := Lib.hid hT
  clear hT hE
  go_enter Try.func4, Try.ntmps4
  go_upto_region 1 with fail
  refine boxed2 (w := w) (G := fun x => Code.wp _ _ _ _ x) ?_
  intro w1 hx1 hs1 ⟨l0, c0, _, _⟩ ⟨l1, c1, _, _⟩
  have hx11 : Ext w1 w1 := Ext.refl _
  clear hs1
  go_wp2_with fail
  go_at_call 9
  refine (awake_any _).mono ?_
  rintro e w2 ⟨rfl, hx2⟩
  have hxw2 := hx1.trans hx2
  have hF := few_any w2 T (HT.out.ext hxw2)
  go_wp2_with fail
  go_at_call 11
  refine hF.mono ?_
  rintro e w3 ⟨hx3, c, rfl, _⟩
  have hxw3 := hxw2.trans hx3
  have hx13 := hx2.trans hx3
  clear hF
  cases c with
  | false =>
    go_wp2_with fail
    go_at_call 9
    refine (awake_any _).mono ?_
    rintro e w9 ⟨rfl, hx9⟩
    go_wp2_with fail
    go_ret
    exact ⟨rfl, hxw3.trans hx9⟩
  | true =>
    have hVa := rvalid_any w3 T (HT.out.ext hxw3)
    go_wp2_with fail
    go_at_call 12
    refine hVa.mono ?_
    rintro e w4 ⟨c, rfl, hb, hx4⟩
    have hxw4 := hxw3.trans hx4
    have hx14 := hx13.trans hx4
    clear hVa
    cases c with
    | false =>
      clear hb
      go_wp2_with fail
      go_at_call 9
      refine (awake_any _).mono ?_
      rintro e w9 ⟨rfl, hx9⟩
      go_wp2_with fail
      go_ret
      exact ⟨rfl, hxw4.trans hx9⟩
    | true =>
      have HV := Lib.hid (hb.1 rfl)
      clear hb
      obtain ⟨c, hc⟩ := exists_bool (T.toTr.Is a b)
      have hIs := revent_any w4 T (HT.out.ext hxw4) a b c hc
      have HC := Lib.hid hc
      clear hc
      go_wp2_with fail
      go_at_call 13
      refine hIs.mono ?_
      rintro e w5 ⟨rfl, hx5⟩
      have hxw5 := hxw4.trans hx5
      have hx15 := hx14.trans hx5
      clear hIs
      cases c with
      | false =>
        clear HC
        go_wp2_with fail
        go_at_call 9
        refine (awake_any _).mono ?_
        rintro e w9 ⟨rfl, hx9⟩
        go_wp2_with fail
        go_ret
        exact ⟨rfl, hxw5.trans hx9⟩
      | true =>
        have hIs := HC.out.1 rfl
        obtain ⟨xp, rfl⟩ := Int.eq_ofNat_of_zero_le hIs.1
        obtain ⟨xi, hxi0⟩ : ∃ xi : Nat, b = (xi : Int) + 1 := ⟨(b - 1).toNat, by have := hIs.2.2.1; omega⟩
        subst hxi0
        have hxp : xp < T.n := by have := hIs.2.1; omega
        have hxi : xi < T.en xp := by have := hIs.2.2.2; simp at this; omega
        clear hIs HC
        have hn1 := HV.out.n1
        have hn8 := HV.out.n8
        have HE8 := Lib.hid (show ∀ k, k < T.n → T.en k ≤ 64 from fun k hk => (HV.out.pr k hk).2.2.2.2)
        have hxe8 := HE8.out xp hxp
        have hSt := stamps_yes w5 T (HT.out.ext hxw5) HV.out (fun k hk => by have := HE8.out k hk; omega)
        go_wp2_with fail
        go_at_call 14
        refine hSt.mono ?_
        rintro e w6 ⟨hx6, ⟨hn, _⟩ | ⟨_, base, cap, rows, vs, hbl, rfl, hst, hR⟩⟩
        · exact absurd HV.out hn
        · have hxw6 := hxw5.trans hx6
          have hx16 := hx15.trans hx6
          have HST := Lib.hid hst
          have HR := Lib.hid hR
          have hLg := longest_yes w6 T (HT.out.ext hxw6) HV.out (fun k hk => by have := HE8.out k hk; omega) (xp, xi) ⟨hxp, hxi⟩
          dsimp only at hLg
          clear hst hR hSt hbl
          go_wp2_with fail
          go_at_call 15
          refine hLg.mono ?_
          rintro e w7 ⟨hx7, ⟨hn, _⟩ | ⟨_, hn, _⟩ | ⟨_, rows2, x2, g, lcap, hR2, hx2V, e1, e2, hg7, rfl, hrow⟩⟩
          · exact absurd HV.out hn
          · exact absurd ⟨by omega, by omega, by omega, by simp; omega⟩ hn
          · have hxw7 := hxw6.trans hx7
            have hx17 := hx16.trans hx7
            obtain rfl : x2 = (xp, xi) := Prod.ext (by show x2.1 = xp; omega) (by show x2.2 = xi; omega)
            have hU : ∀ y, T.toTr.V y → stOf rows2 y = stOf rows y := Tr.Stamps.uniq HV.out hR2 HR.out
            have hpos := HR.out.pos (x := (xp, xi)) ⟨hxp, hxi⟩
            obtain ⟨L, hL⟩ : ∃ L, L = (stOf rows2 (xp, xi)).toNat := ⟨_, rfl⟩
            have hLs : (L : Int) = stOf rows (xp, xi) := by rw [hL, hU _ ⟨hxp, hxi⟩]; omega
            have hLp : 0 < L := by omega
            have hts : tot T.en T.n ≤ 512 := by have h := tot_small HE8.out; omega
            have hL5 : L ≤ 512 := by omega
            rw [← hL] at hrow ⊢
            -- the j-th event of the list
            have hY : ∀ j, j < L → T.toTr.V (T.toTr.prvN rows2 (xp, xi) (L - 1 - j)) ∧ stOf rows (T.toTr.prvN rows2 (xp, xi) (L - 1 - j)) = (j : Int) + 1 := fun j hj => by
              have h := hR2.prvN (x := (xp, xi)) ⟨hxp, hxi⟩ (L - 1 - j) (by rw [hU _ ⟨hxp, hxi⟩, ← hLs]; omega)
              refine ⟨h.1, ?_⟩
              rw [← hU _ h.1, h.2, hU _ ⟨hxp, hxi⟩, ← hLs]; omega
            have hB : ∀ j, j + 1 < L → T.toTr.Bef (T.toTr.prvN rows2 (xp, xi) (L - 1 - j)) (T.toTr.prvN rows2 (xp, xi) (L - 1 - (j + 1))) := fun j hj => by
              have h1 := hY j (by omega)
              have h2 := hY (j + 1) hj
              have e : T.toTr.prvN rows2 (xp, xi) (L - 1 - j) = T.toTr.prv rows2 (T.toTr.prvN rows2 (xp, xi) (L - 1 - (j + 1))) := by
                rw [show L - 1 - j = (L - 1 - (j + 1)) + 1 by omega]; rfl
              have h3 := hR2.prv h2.1 (by rw [hU _ h2.1, h2.2]; omega)
              refine ⟨fun e' => ?_, ?_⟩
              · rw [e', h2.2] at h1; have := h1.2; omega
              · rw [e]; exact .step .self h3.2.1
            obtain ⟨K, rfl⟩ : ∃ K, L = K + 1 := ⟨L - 1, by omega⟩
            have HY := Lib.hid hY
            have HB := Lib.hid hB
            have HROW := Lib.hid hrow
            have HL := Lib.hid hLs
            have hgl : g < w7.heap.size := cell_lt (hrow.c0 0 hLp)
            have HST7 := Lib.hid (HST.out.ext (by omega) hx7)
            have hx77 : Ext w7 w7 := Ext.refl _
            have hlast := hrow.c0 K (by omega)
            have hlast' := hrow.c1 K (by omega)
            rw [show K + 1 - 1 - K = 0 by omega] at hlast hlast'
            have z0 : ∀ w', Ext w7 w' → w'.cell? ⟨g, K * 2, none⟩ = some (.int .i64 xp) := fun w' h => h.cell hlast
            have z1 : ∀ w', Ext w7 w' → w'.cell? ⟨g, K * 2 + 1, none⟩ = some (.int .i64 (xi + 1)) := fun w' h => h.cell hlast'
            have zl : ∀ w', Ext w7 w' → g < w'.heap.size := fun w' h => Nat.lt_of_lt_of_le hgl h.le
            have hxl : (rows xp).length = T.en xp := HR.out.len xp hxp
            obtain ⟨gx, cx, sx0, sx1, sx2⟩ := HST7.out.read hxp (by rw [hxl]; exact hxi)
            rw [hxl] at sx0
            have sx3 : ∀ w', Ext w7 w' → w'.cell? ⟨gx, xi, none⟩ = some (.int .i64 ((K : Int) + 1)) := fun w' h => by
              have h2 := sx2 w' h
              have h3 : (rows xp).getD xi 0 = (K : Int) + 1 := by have := hLs; rw [Int.natCast_add] at this; exact this.symm
              rw [h3] at h2; exact h2
            have hsb : ∀ w', Ext w7 w' → base < w'.heap.size := fun w' h => Nat.lt_of_lt_of_le (cell_lt (HST7.out.cell xp hxp) : base < w7.heap.size) h.le
            have hFt : ∀ W, Ext w7 W → Calls Try.prog 16 #[T.val, .slice (some ⟨base, 0, none⟩) T.n cap] W fun e w' => e = .returned (.bool true) ∧ Ext W w' := fun W hx => by
              refine (rfits_any W T (HT.out.ext (hxw7.trans hx)) (stMM base T.n cap rows vs) (HST7.out.ext (by omega) hx).mm).mono ?_
              rintro e w' ⟨c, rfl, hc, hx'⟩
              exact ⟨ret_bool (hc.2 ⟨rfl, fun k hk => HR.out.len k hk⟩), hx'⟩
            have hLt : ∀ W, Ext w7 W → Calls Try.prog 18 #[T.val, .slice (some ⟨base, 0, none⟩) T.n cap, .agg #[.int .i64 xp, .int .i64 (xi + 1)]] W fun e w' => e = .returned (.int .i64 K) ∧ Ext W w' := fun W hx => by
              refine (rlatest_any W T (HT.out.ext (hxw7.trans hx)) (Tr.valid_iff.1 HV.out).1 (stMM base T.n cap rows vs) (HST7.out.ext (by omega) hx).mm ⟨rfl, fun k hk => HR.out.len k hk⟩ xp xi hxp hxi).mono ?_
              rintro e w' ⟨rfl, hx'⟩
              exact ⟨ret_int (by rw [HR.out.latest hxp hxi rfl, ← hLs]; omega), hx'⟩
            have HFt := Lib.hid hFt
            have HLt := Lib.hid hLt
            have hxp' : (xp : Int) < (T.n : Int) := by omega
            have hxi' : (xi : Int) < (T.en xp : Int) := by omega
            have hw1 : IntKind.i64.wrap (xi : Int) = (xi : Int) := IntWalk.i64_in _ (by omega)
            have hw2 : IntKind.i64.wrap (K : Int) = (K : Int) := IntWalk.i64_in _ (by omega)
            have hk0 : ((K : Int) + 1 == 0) = false := by simp; omega
            have hk0' : (K + 1 == 0) = false := by simp
            have hg7' : ∀ d os, Ext w7 (Sort.grow (redrawn w7 d) os) := fun d os => below_regrown w7 d os
            have hg1 : ∀ d os, Ext w1 (Sort.grow (redrawn w7 d) os) := fun d os => hx17.trans (below_regrown w7 d os)
            clear hL hpos hts hY hB hrow hLg e1 e2 hR2 hU hLs HST hlast hlast' sx2 hxl hFt hLt
            go_upto_region 5 with fail
            refine wp_region_quiet_below (by kernel_rfl) (by kernel_rfl) ?_
            repeat (go_big_quiet_step (exact Calls.regrown_of (HFt.out _ (hg7' _ _))))
            refine wpQuiet_nil ?_
            intro _ hw'
            obtain ⟨⟨dq, osq⟩, hw''⟩ := hw'
            subst hw''
            have hx78 := hg7' dq osq
            have hx18 := hg1 dq osq
            clear hg7' hg1
            generalize Sort.grow (redrawn w7 dq) osq = w8 at hx78 hx18 ⊢
            clear z0 z1 hk0 hk0' hw2
            go_wp2_with fail
            go_loopg [87] (K + 1) (fun gg v wr => ∃ j : Nat, j ≤ K + 1 ∧ gg = K + 1 - j ∧ v = .int .i64 j ∧ Ext w7 wr)
            case atStart => exact ⟨0, by omega, rfl, rfl, hx78⟩
            case round =>
              obtain ⟨j, hj, rfl, rfl, hxr⟩ := hrel
              have hx1r := hx17.trans hxr
              have hxwr := hxw7.trans hxr
              by_cases hlt : j < K + 1
              · have hlt' : (j : Int) < (K : Int) + 1 := by omega
                obtain ⟨⟨yp, yi⟩, hye⟩ : ∃ z, z = T.toTr.prvN rows2 (xp, xi) (K + 1 - 1 - j) := ⟨_, rfl⟩
                have hYj := HY.out j hlt
                have y0 := HROW.out.c0 j hlt
                have y1 := HROW.out.c1 j hlt
                rw [← hye] at hYj y0 y1
                have HYE := Lib.hid hye
                have hyp : yp < T.n := hYj.1.1
                have hyi : yi < T.en yp := hYj.1.2
                have hye8 := HE8.out yp hyp
                have HYJ := Lib.hid hYj
                have y2 : ∀ w', Ext w7 w' → w'.cell? ⟨g, j * 2, none⟩ = some (.int .i64 yp) := fun w' h => h.cell y0
                have y3 : ∀ w', Ext w7 w' → w'.cell? ⟨g, j * 2 + 1, none⟩ = some (.int .i64 (yi + 1)) := fun w' h => h.cell y1
                clear hye y0 y1 hYj
                go_upto_region 10 with fail
                refine boxed1 (w := wr) (G := fun x => Code.wp _ _ _ _ x) ?_
                intro w9 hx9a hs9 ⟨l9, c9, _, _⟩
                have hx99 : Ext w9 w9 := Ext.refl _
                have hx79 := hxr.trans hx9a
                have hx19 := hx1r.trans hx9a
                clear hs9 y2 y3
                generalize wr.heap.size = yb at l9 c9 ⊢
                have hyl : (rows yp).length = T.en yp := HR.out.len yp hyp
                obtain ⟨gy, cy, sy0, sy1, sy2⟩ := HST7.out.read hyp (by rw [hyl]; exact hyi)
                rw [hyl] at sy0
                have sy3 : ∀ w', Ext w7 w' → w'.cell? ⟨gy, yi, none⟩ = some (.int .i64 ((j : Int) + 1)) := fun w' h => by
                  have h2 := sy2 w' h
                  have h3 : (rows yp).getD yi 0 = (j : Int) + 1 := HYJ.out.2
                  rw [h3] at h2; exact h2
                have hEv : ∀ W, Ext w7 W → Calls Try.prog 13 #[T.val, .agg #[.int .i64 yp, .int .i64 (yi + 1)]] W fun e w' => e = .returned (.bool true) ∧ Ext W w' := fun W hx =>
                  revent_any W T (HT.out.ext (hxw7.trans hx)) yp (yi + 1) true ⟨fun _ => ⟨by omega, by omega, by omega, by simp; omega⟩, fun _ => rfl⟩
                have HEvt := Lib.hid hEv
                have hyp' : (yp : Int) < (T.n : Int) := by omega
                have hyi' : (yi : Int) < (T.en yp : Int) := by omega
                have hw3 : IntKind.i64.wrap (yi : Int) = (yi : Int) := IntWalk.i64_in _ (by omega)
                have hw4 : IntKind.i64.wrap ((j : Int) + 1) = (j : Int) + 1 := IntWalk.i64_in _ (by omega)
                have hg7' : ∀ d os, Ext w7 (Sort.grow (redrawn w9 d) os) := fun d os => hx79.trans (below_regrown w9 d os)
                have hg1 : ∀ d os, Ext w1 (Sort.grow (redrawn w9 d) os) := fun d os => hx19.trans (below_regrown w9 d os)
                have hg9 : ∀ d os, Ext w9 (Sort.grow (redrawn w9 d) os) := fun d os => below_regrown w9 d os
                clear sy2 hyl hEv
                go_upto_region 10 with fail
                refine wp_region_quiet_below (by kernel_rfl) (by kernel_rfl) ?_
                repeat (go_big_quiet_step (exact Calls.regrown_of (HEvt.out _ (hg7' _ _))))
                refine wpQuiet_nil ?_
                intro _ hw'
                obtain ⟨⟨dq, osq⟩, hw''⟩ := hw'
                subst hw''
                have hx710 := hg7' dq osq
                have hx110 := hg1 dq osq
                have hx910 := hg9 dq osq
                clear hg7' hg1 hg9 sy0 sy1 sy3 hw3 hw4
                generalize Sort.grow (redrawn w9 dq) osq = w10 at hx710 hx110 hx910 ⊢
                cases j with
                | zero =>
                  go_wp2_with fail
                  go_roundg (K + 1 - (0 + 1))
                  case rel => exact ⟨0 + 1, by omega, rfl, by go_num, hx710⟩
                  case measure => omega
                | succ m =>
                  have hz := HY.out m (by omega)
                  have hbf := HB.out m (by omega)
                  have q0 := HROW.out.c0 m (by omega)
                  have q1 := HROW.out.c1 m (by omega)
                  rw [← HYE.out] at hbf
                  obtain ⟨⟨zp, zi⟩, hze⟩ : ∃ z, z = T.toTr.prvN rows2 (xp, xi) (K + 1 - 1 - m) := ⟨_, rfl⟩
                  rw [← hze] at hz hbf q0 q1
                  have q2 : ∀ w', Ext w7 w' → w'.cell? ⟨g, m * 2, none⟩ = some (.int .i64 zp) := fun w' h => h.cell q0
                  have q3 : ∀ w', Ext w7 w' → w'.cell? ⟨g, m * 2 + 1, none⟩ = some (.int .i64 (zi + 1)) := fun w' h => h.cell q1
                  have hBc : ∀ W, Ext w7 W → Calls Try.prog 17 #[T.val, .agg #[.int .i64 zp, .int .i64 (zi + 1)], .agg #[.int .i64 yp, .int .i64 (yi + 1)]] W fun e w' => e = .returned (.tuple #[.bool true, .int .i64 0]) ∧ Ext W w' := fun W hx =>
                    cbefore_any W T (HT.out.ext (hxw7.trans hx)) HV.out (zp, zi) (yp, yi) hz.1 HYJ.out.1 true ⟨fun _ => hbf, fun _ => rfl⟩
                  have HBc := Lib.hid hBc
                  have hmb : ((m : Int) + 1 == 0) = false := by simp; omega
                  have hmb' : (m + 1 == 0) = false := by simp
                  have hm1 : (m : Int) < (K : Int) + 1 := by omega
                  have hm2 : (m : Int) < (K : Int) := by omega
                  have hw5 : IntKind.i64.wrap (m : Int) = (m : Int) := IntWalk.i64_in _ (by omega)
                  have hg7' : ∀ d os, Ext w7 (Sort.grow (redrawn w10 d) os) := fun d os => hx710.trans (below_regrown w10 d os)
                  have hg1 : ∀ d os, Ext w1 (Sort.grow (redrawn w10 d) os) := fun d os => hx110.trans (below_regrown w10 d os)
                  have hg9 : ∀ d os, Ext w9 (Sort.grow (redrawn w10 d) os) := fun d os => hx910.trans (below_regrown w10 d os)
                  clear hz hbf q0 q1 hze hBc
                  go_upto_region 13 with fail
                  refine wp_region_quiet_below (by kernel_rfl) (by kernel_rfl) ?_
                  repeat (go_big_quiet_step (exact Calls.regrown_of (HBc.out _ (hg7' _ _))))
                  refine wpQuiet_nil ?_
                  intro _ hw'
                  obtain ⟨⟨dq, osq⟩, hw''⟩ := hw'
                  subst hw''
                  have hx711 := hg7' dq osq
                  clear hg7' hg1 hg9 q2 q3 hw5
                  generalize Sort.grow (redrawn w10 dq) osq = w11 at hx711 ⊢
                  go_wp2_with fail
                  go_roundg (K + 1 - (m + 1 + 1))
                  case rel => exact ⟨m + 1 + 1, by omega, rfl, by go_num, hx711⟩
                  case measure => omega
              · have hje : j = K + 1 := by omega
                subst hje
                have hg7' : ∀ d os, Ext w7 (Sort.grow (redrawn wr d) os) := fun d os => hxr.trans (below_regrown wr d os)
                have hg1 : ∀ d os, Ext w1 (Sort.grow (redrawn wr d) os) := fun d os => hx1r.trans (below_regrown wr d os)
                have hw2 : IntKind.i64.wrap (K : Int) = (K : Int) := IntWalk.i64_in _ (by omega)
                go_upto_region 17 with fail
                refine wp_region_quiet_below (by kernel_rfl) (by kernel_rfl) ?_
                repeat (go_big_quiet_step (exact Calls.regrown_of (HLt.out _ (hg7' _ _))))
                refine wpQuiet_nil ?_
                intro _ hw'
                obtain ⟨⟨dq, osq⟩, hw''⟩ := hw'
                subst hw''
                have hx79 := hg7' dq osq
                generalize Sort.grow (redrawn wr dq) osq = w9 at hx79 ⊢
                go_wp2_with fail
                go_ret
                exact ⟨by simp, hxw7.trans hx79⟩
set_option maxRecDepth 100000 in
theorem lifted (os : Os) (started : os.Started) (H : Type) (enc : TypeId × Value → H) :
    ReturnsInHanded {} Try.checked os 4 .any (Rows.lamportChainsSpec.pre6 enc Try.prog Try.f4 Rows.lamportChainsRow.domain false) (Rows.lamportChainsSpec.post enc Try.prog Try.f4 false true false false) := by
  refine returnsInHanded_of_change_sized (C := Try.checked) own14 started (by kernel_rfl) Try.func4
    (ChangeSpec.witness6 (enc := enc) (C := Try.checked) false ⟨#[], #[.agg #[.slice none 0 0], .agg #[.int .i64 0, .int .i64 0]], []⟩ 8 (by kernel_rfl) (by kernel_rfl) (by kernel_rfl) (by kernel_rfl)) ?_
  intro W base args ds gs before hval0 hW _ hsz0 _
  have hsz1 : (DataW.weightsEach Try.prog (Try.f4.params.toList ++ Rows.lamportChainsSpec.plain.varTypes Try.prog) (ds ++ gs)).all (· ≤ reachBytes) = true := hsz0
  clear hsz0
  have hval : ∀ (j : Nat) t v, Try.f4.params[j]? = some t → args[j]? = some v → Value.okWide Try.prog W .any base t v := hval0
  have hW' := hW
  obtain ⟨p, q, hA0, hV, rfl, hfz, hnd⟩ := hW
  have hA : DataW.TrodAll enc Try.prog W 0 (fun _ => true) true Try.f4.params.toList args.toList ds p := hA0
  rw [Try.params4] at hA hval hsz1
  obtain ⟨v0, vs0, d0, ds0, p0, q0, hargs, rfl, rfl, h0, r0⟩ := trodAll_cons hA
  obtain ⟨v1, vs1, d1, ds1, p1, q1, rfl, rfl, rfl, h1, r1⟩ := trodAll_cons r0
  obtain ⟨rfl, rfl, rfl⟩ := trodAll_nil r1
  obtain rfl : args = #[v0, v1] := by cases args; simp_all
  obtain ⟨rfl, rfl⟩ := trodVars_none hV
  obtain ⟨T0, rfl, hT0⟩ := arg_trace (hval 0 29 v0 rfl rfl) h0 (small_of hsz1 (j := 0) rfl rfl)
  obtain ⟨a1, b1, rfl, hE1⟩ := arg_event (hval 1 31 v1 rfl rfl) h1 (small_of hsz1 (j := 1) rfl rfl)
  clear hA0 hval0 hsz1
  simp only [List.append_nil] at hW'
  have hl1 : ∀ x ∈ p1, x.block < W.heap.size := fun x hx => hW'.lt x (by simp [hx])
  have hl0 : ∀ x ∈ p0, x.block < W.heap.size := fun x hx => hW'.lt x (by simp [hx])
  refine (walk T0 a1 b1 W hT0 hE1).mono fun e W' ⟨he, hg⟩ => ?_
  subst he
  exact ⟨_, rfl, post_ext1 (pa := (p0 ++ (p1 ++ []))) (pv := []) hW' (fun _ _ _ => (trodAll_cons_mk (shut_bool Try.underlying4 _) trodAll_mk0)) (trodAll_cons_mk (Below.trod laid14 (by kernel_rfl) (of_decide_eq_true (by kernel_rfl)) h0 hg.below hl0) (trodAll_cons_mk (Below.trod laid14 (by kernel_rfl) (of_decide_eq_true (by kernel_rfl)) h1 hg.below hl1) trodAll_mk0)) rfl hg⟩

theorem over : Rows.lamportChainsRow.holds Try.pinned (OpenSpec.ofChange Rows.lamportChainsSpec) :=
  OpenClaim.holds_of_wide 4 Try.f4 rfl rfl rfl rfl rfl rfl rfl ⟨rfl, rfl, rfl, rfl, rfl⟩ rfl rfl rfl rfl rfl (by kernel_rfl) Try.func4 (by kernel_rfl)
    (of_decide_eq_true (by kernel_rfl)) (by unfold Func.isWrapper; first | (rw [if_pos (by decide +kernel)]; kernel_rfl) | (rw [if_neg (by decide +kernel)]; exact ⟨rfl, rfl⟩))
    (fun os started H enc _ => lifted os started H enc)

/-- ████ THE STATEMENT ████ -/
theorem proved : Rows.LamportChainsSaid :=
  over
#print axioms proved
end Go.Proofs.Ytecgigeeolindaa.lamportChains

