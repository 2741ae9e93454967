/-
  PROVED HERE: 'LamportLeast' returns true for every trace, every list of lists of numbers and every small number, in every memory: no condition.
  (The row's step follows the shell that the kit's program wrote for 'LamportSteps'.)
-/
import Derived.Test.YtecgigeeolindaaRows
import Derived.WalkKit
import Derived.Test.YtecgigeeolindaaGk
import Derived.Test.YtecgigeeolindaaGr
import Derived.Test.YtecgigeeolindaaGb
import Derived.Test.YtecgigeeolindaaGt
import Derived.Test.YtecgigeeolindaaGp
namespace Go.Proofs.Ytecgigeeolindaa.lamportLeast
open Go.ChangeShapes Go.WideShapes Go.ChangeAt Go.RowKit Go.Proofs.Ytecgigeeolindaa
set_option linter.unusedVariables false

set_option maxHeartbeats 400000 in
theorem clos_any (w : World) (a : Option Addr) (n cap : Nat) :
    Calls Try.prog 28 #[.slice a n cap] w fun r w' => r = .returned (.bool (decide (80 < (n : Int)))) ∧ Ext w w' := by
  go_enter Try.func28, Try.ntmps28
  go_wp2
  go_ret
  exact ⟨ret_bool (by simp), Ext.refl _⟩
theorem u8_range {v : Int} (h : (Lit.int .u8 v).wf = true) : 0 ≤ v ∧ v ≤ 255 := by
  have e1 : IntKind.u8.min = 0 := by decide
  have e2 : IntKind.u8.max = 255 := by decide
  simp only [Lit.wf, Bool.and_eq_true, decide_eq_true_eq, e1, e2] at h
  exact h
theorem setdr {w : World} {p : Addr} {v : Value} {G : World → Prop} (h : ∀ w7, w7 = (w.setCell p v).drew → G w7) : G ((w.setCell p v).drew) := h _ rfl
theorem drewd1 {w : World} {G : World → Prop} (h : ∀ w7, Ext w w7 → G w7) : G w.drew := h _ (Ext.refl _).drew
def TruePost (w : World) (e : Ending) (w' : World) : Prop := e = .returned (.bool true) ∧ Ext w w'
set_option maxRecDepth 100000 in
set_option maxHeartbeats 4000000 in
theorem walk (T : TM) (M : MM) (m : Int) (w : World) (hT : T.At w) (hM : M.At w) (hm : 0 ≤ m ∧ m ≤ 255) :
    Calls Try.prog 8 #[T.val, .slice M.a M.n M.cap, .int .u8 m] w (TruePost w) := by
  obtain ⟨i0, hi0, hz0, hz1, hz2⟩ := info_parts infoInts
  obtain ⟨mm, rfl⟩ := Int.eq_ofNat_of_zero_le hm.1
  have hm2 : mm ≤ 255 := by omega
  clear hm
  have hmn := hM.hn
  have HT := Lib.hid hT
  have HM := Lib.hid hM
  clear hT hM
  go_enter Try.func8, Try.ntmps8
  go_upto_region 1 with fail
  refine boxed1 (w := w) (G := fun x => Code.wp _ _ _ _ x) ?_
  intro w1 hx1 hs1 ⟨l0, c0, _, _⟩
  have hx11 : Ext w1 w1 := Ext.refl _
  clear hs1
  go_wp2_with fail
  go_at_call 9
  refine (awake_any _).mono ?_
  rintro e w2 ⟨rfl, hx2⟩
  have hxw2 := hx1.trans hx2
  have hF := few_any w2 T (HT.out.ext hxw2)
  go_wp2_with fail
  go_at_call 11
  refine hF.mono ?_
  rintro e w3 ⟨hx3, b, rfl, hb⟩
  have hxw3 := hxw2.trans hx3
  have hx13 := hx2.trans hx3
  clear hF
  cases b with
  | false =>
    clear hb
    go_wp2_with fail
    go_at_call 9
    refine (awake_any _).mono ?_
    rintro e w9 ⟨rfl, hx9⟩
    go_wp2_with fail
    go_ret
    exact ⟨rfl, hxw3.trans hx9⟩
  | true =>
    have hfew := hb rfl
    clear hb
    have hEv := fun W (h : Ext w W) => levents_any W T (HT.out.ext h) hfew.1 hfew.2
    have HEv := Lib.hid hEv
    have HTS := Lib.hid (show tot T.en T.n ≤ 80 from hfew.2)
    obtain ⟨N, hN⟩ : ∃ N, N = T.toTr.evs.length := ⟨_, rfl⟩
    have HN := Lib.hid hN
    have hN80 : N ≤ 80 := by rw [hN, T.toTr.evs_tot]; exact hfew.2
    clear hfew hEv hN
    have hVa := rvalid_any w3 T (HT.out.ext hxw3)
    go_wp2_with fail
    go_at_call 12
    refine hVa.mono ?_
    rintro e w5 ⟨b, rfl, hb, hx5⟩
    have hxw5 := hxw3.trans hx5
    have hx15 := hx13.trans hx5
    clear hVa
    cases b with
    | false =>
      clear hb
      go_wp2_with fail
      go_at_call 9
      refine (awake_any _).mono ?_
      rintro e w9 ⟨rfl, hx9⟩
      go_wp2_with fail
      go_ret
      exact ⟨rfl, hxw5.trans hx9⟩
    | true =>
      have HV := Lib.hid (hb.1 rfl)
      clear hb
      by_cases h12 : 12 < M.n
      · have b2 : decide ((12 : Int) < (M.n : Int)) = true := decide_eq_true (by omega)
        have b2' : decide (12 < M.n) = true := decide_eq_true h12
        go_wp2_with fail
        go_at_call 9
        refine (awake_any _).mono ?_
        rintro e w9 ⟨rfl, hx9⟩
        go_wp2_with fail
        go_ret
        exact ⟨rfl, hxw5.trans hx9⟩
      · have b2 : decide ((12 : Int) < (M.n : Int)) = false := decide_eq_false (by omega)
        have b2' : decide (12 < M.n) = false := decide_eq_false h12
        have hIv := has_Ints w5 M.a M.b M.off M.n M.cap (fun i => .slice (M.ra i) (M.rn i) (M.rc i)) 28 #[] (fun i => decide (80 < (M.rn i : Int))) hmn (fun h => HM.out.pa h) (fun w' hx i hi => HM.out.p0 w' (hxw5.trans hx) i hi)
          (enters_of Try.func28 (by kernel_rfl) rfl) (fun i hi w' hx => clos_any w' _ _ _)
        cases hE : anyB (fun i => decide (80 < (M.rn i : Int))) M.n with
        | true =>
          rw [hE] at hIv
          clear hE
          go_wp2_with fail
          go_at_call 22
          refine hIv.mono ?_
          rintro e w6 ⟨rfl, hx6⟩
          have hxw6 := hxw5.trans hx6
          clear hIv
          go_wp2_with fail
          go_at_call 9
          refine (awake_any _).mono ?_
          rintro e w9 ⟨rfl, hx9⟩
          go_wp2_with fail
          go_ret
          exact ⟨rfl, hxw6.trans hx9⟩
        | false =>
          rw [hE] at hIv
          clear hE
          go_wp2_with fail
          go_at_call 22
          refine hIv.mono ?_
          rintro e w6 ⟨rfl, hx6⟩
          have hxw6 := hxw5.trans hx6
          have hx16 := hx15.trans hx6
          have hn1 := HV.out.n1
          have hSt := stamps_yes w6 T (HT.out.ext hxw6) HV.out (fun k hk => by have := (HV.out.pr k hk).2.2.2.2; omega)
          have HE8 := Lib.hid (show ∀ k, k < T.n → T.en k ≤ 64 from fun k hk => (HV.out.pr k hk).2.2.2.2)
          have hn8 := HV.out.n8
          clear hIv
          go_wp2_with fail
          go_at_call 14
          refine hSt.mono ?_
          rintro e w7 ⟨hx7, ⟨hn, _⟩ | ⟨_, base, cap, rows, vs, hbl, rfl, hst, hR⟩⟩
          · exact absurd HV.out hn
          · have hxw7 := hxw6.trans hx7
            have hx17 := hx16.trans hx7
            have HST := Lib.hid hst
            have HR := Lib.hid hR
            have hFt := rfits_any w7 T (HT.out.ext hxw7) (stMM base T.n cap rows vs) hst.mm
            simp only [stMM] at hFt
            clear hst hR hSt hbl
            go_wp2_with fail
            go_at_call 16
            refine hFt.mono ?_
            rintro e w9 ⟨b, rfl, hb, hx9⟩
            obtain rfl : b = true := hb.2 ⟨rfl, fun k hk => HR.out.len k hk⟩
            have hxw9 := hxw7.trans hx9
            have hx19 := hx17.trans hx9
            have hC := lcheck_yes w9 T (HT.out.ext hxw9) HV.out M (HM.out.ext hxw9)
            clear hFt hb
            go_wp2_with fail
            go_at_call 21
            refine hC.mono ?_
            rintro e w10 ⟨o, rfl, ho, hx10⟩
            have hxw10 := hxw9.trans hx10
            have hx110 := hx19.trans hx10
            have hx1010 : Ext w10 w10 := Ext.refl _
            have HO := Lib.hid ho
            have HST10 := Lib.hid (HST.out.ext (by omega) (hx9.trans hx10))
            clear hC ho HST
            cases o with
            | true =>
              have HCP := Lib.hid (HO.out.1 rfl)
              have hFt := rfits_any w10 T (HT.out.ext hxw10) M (HM.out.ext hxw10)
              go_wp2_with fail
              go_at_call 16
              refine hFt.mono ?_
              rintro e w11 ⟨b, rfl, hb, hx11'⟩
              obtain rfl : b = true := hb.2 HCP.out.2.1
              have hxw11 := hxw10.trans hx11'
              have hx111 := hx110.trans hx11'
              have hx1111 : Ext w11 w11 := Ext.refl _
              have HST11 := Lib.hid (HST10.out.ext (by omega) hx11')
              have hmn2 : M.n = T.n := HCP.out.2.1.1
              have ma := HM.out.pa (by omega)
              have mb := HM.out.pb (by omega)
              clear hb hFt HO
              go_wp2_with fail
              go_loopg [59] T.n (fun gg v wr => ∃ k : Nat, k ≤ T.n ∧ gg = T.n - k ∧ v = .int .i64 k ∧ Ext w11 wr)
              case atStart => exact ⟨0, by omega, rfl, rfl, hx1111⟩
              case round =>
                obtain ⟨k, hk, rfl, rfl, hxr⟩ := hrel
                have hx1r := hx111.trans hxr
                have hxwr := hxw11.trans hxr
                by_cases hlt : k < T.n
                · have hlt' : (k : Int) < (T.n : Int) := by omega
                  have hltm' : (k : Int) < (M.n : Int) := by omega
                  have hrk : (rows k).length = T.en k := HR.out.len k hlt
                  have hek := HE8.out k hlt
                  have hmk : M.rn k = T.en k := HCP.out.2.1.2 k hlt
                  have hf := (HST11.out.own k hlt).form
                  obtain ⟨va, hva⟩ : ∃ a, a = vAddr (vs k) := ⟨_, rfl⟩
                  have sx0 : ∀ w', Ext w11 w' → w'.cell? ⟨base, k, none⟩ = some (.slice va (T.en k) (vCap (vs k))) := fun w' h => by rw [h.cell (HST11.out.cell k hlt), hva, ← hrk]; exact congrArg some hf.1
                  have hsb : ∀ w', Ext w11 w' → base < w'.heap.size := fun w' h => Nat.lt_of_lt_of_le (cell_lt (HST11.out.cell k hlt) : base < w11.heap.size) h.le
                  have HVA := Lib.hid hva
                  clear hf hrk hva
                  go_wp2_with fail
                  go_loopg [67] (T.en k) (fun gg v wi => ∃ i : Nat, i ≤ T.en k ∧ gg = T.en k - i ∧ v = .int .i64 i ∧ Ext w11 wi)
                  case atStart => exact ⟨0, by omega, rfl, rfl, hxr⟩
                  case round =>
                    obtain ⟨i, hi, rfl, rfl, hxi⟩ := hrel
                    have hx1i := hx111.trans hxi
                    have hxwi := hxw11.trans hxi
                    by_cases hli : i < T.en k
                    · have hli' : (i : Int) < (T.en k : Int) := by omega
                      have hlm' : (i : Int) < (M.rn k : Int) := by omega
                      obtain ⟨gx, cx, q0, q1, q2⟩ := HST11.out.read hlt (by rw [HR.out.len k hlt]; exact hli)
                      obtain rfl : va = some ⟨gx, 0, none⟩ := by
                        have e := (sx0 _ (Ext.refl _)).symm.trans (q0 _ (Ext.refl _))
                        simp at e; exact e.1
                      obtain ⟨sx, hsx⟩ : ∃ s, s = stOf rows (k, i) := ⟨_, rfl⟩
                      have sx3 : ∀ w', Ext w11 w' → w'.cell? ⟨gx, i, none⟩ = some (.int .i64 sx) := fun w' h => by rw [hsx]; exact q2 w' h
                      have hle : sx ≤ M.val k i := by rw [hsx]; exact HR.out.least HV.out HCP.out (k, i) ⟨hlt, hli⟩
                      have dl : decide (M.val k i < sx) = false := decide_eq_false (by omega)
                      have m0 : ∀ w', Ext w w' → w'.cell? ⟨M.b, M.off + k, none⟩ = some (.slice (M.ra k) (M.rn k) (M.rc k)) := fun w' h => HM.out.p0 w' h k (by omega)
                      have m1 := HM.out.rb k (by omega) (by omega)
                      have m2 := HM.out.ra k (by omega) (by omega)
                      have m3 : ∀ w', Ext w w' → w'.cell? ⟨M.rb k, M.ro k + i, none⟩ = some (.int .i64 (M.val k i)) := fun w' h => HM.out.r0 w' h k i (by omega) (by omega)
                      clear q0 q2 hsx hle
                      go_upto_region 15 with fail
                      go_quiet (fail)
                      go_wp2_with fail
                      go_roundg (T.en k - (i + 1))
                      case rel => exact ⟨i + 1, by omega, rfl, by go_num, hxi.drewN _⟩
                      case measure => omega
                    · have hie : i = T.en k := by omega
                      subst hie
                      go_wp2_with fail
                      go_roundg (T.n - (k + 1))
                      case rel => exact ⟨k + 1, by omega, rfl, by go_num, hxi⟩
                      case measure => omega
                · have hke : k = T.n := by omega
                  subst hke
                  clear HST10 ma mb HM HCP
                  have HST10 := HST11
                  clear HST11
                  have hE11 := HEv.out wr hxwr
                  have HST11 := Lib.hid (HST10.out.ext (by omega) hxr)
                  clear HST10 HEv
                  go_wp2_with fail
                  go_at_call 25
                  refine hE11.mono ?_
                  rintro e w12 ⟨hx12, v12, rfl, hown12⟩
                  obtain ⟨a12, g12, c12, rfl, hall⟩ := hown12.evs
                  have hxw12 := hxwr.trans hx12
                  have hx112 := hx1r.trans hx12
                  have hx1212 : Ext w12 w12 := Ext.refl _
                  have HST12 := Lib.hid (HST11.out.ext (by omega) hx12)
                  clear hown12 hE11 HST11
                  by_cases hN0 : N = 0
                  · rw [← HN.out] at hall ⊢
                    subst hN0
                    go_wp2_with fail
                    go_ret
                    exact ⟨rfl, hxw12⟩
                  · have hNp : 0 < N := by omega
                    rw [← HN.out] at hall ⊢
                    obtain ⟨x, hxe⟩ : ∃ x, x = mm % N := ⟨_, rfl⟩
                    have hxN : x < N := by rw [hxe]; exact Nat.mod_lt _ hNp
                    have hxN' : (x : Int) < (N : Int) := by omega
                    have hn0' : ((N : Int) == 0) = false := by simp; omega
                    have hn0 : (N == 0) = false := by simp; omega
                    have hnz : ¬ ((N : Int) = 0) := by omega
                    have hmod : Int.tmod (mm : Int) (N : Int) = (x : Int) := by rw [hxe]; rfl
                    have hmod2 : (mm : Int) % (N : Int) = (x : Int) := by rw [hxe]; rfl
                    have hwm : IntKind.i64.wrap (mm : Int) = (mm : Int) := IntWalk.i64_in _ (by omega)
                    have hwx : IntKind.i64.wrap (x : Int) = (x : Int) := IntWalk.i64_in _ (by omega)
                    obtain ⟨rfl, lg, ex0, ex1⟩ := hall x hxN
                    have hVx := T.toTr.evN_V x (by have := HN.out; omega)
                    obtain ⟨⟨xp, xi⟩, hxe2⟩ : ∃ z, z = T.toTr.evN x := ⟨_, rfl⟩
                    rw [← hxe2] at hVx ex0 ex1
                    have HVX := Lib.hid hVx
                    have HXE := Lib.hid hxe
                    dsimp only at ex0 ex1
                    clear hxe2 hVx hall hxe
                    go_upto_region 23 with fail
                    refine boxed1 (w := w12) (G := fun x => Code.wp _ _ _ _ x) ?_
                    intro w13 hx13 hs13 ⟨l13, c13, _, _⟩
                    have hx1313 : Ext w13 w13 := Ext.refl _
                    have hx113 := hx112.trans hx13
                    have hxw13 := hxw12.trans hx13
                    clear hs13 ex0 ex1 lg hmod hmod2 hwm hwx hn0 hn0' hnz hxN'
                    generalize w12.heap.size = xb at l13 c13 ⊢
                    go_upto_region 24 with (at_make; refine wpList_make_full _ rfl _ _ 34 rfl w13.heap.size 41 i0 (.slice none 0 0) 1 Try.underlying34 hi0 hz0 hz1 .i64 .i64 _ _ T.n rfl rfl rfl rfl (by rw [hz2]; omega) (by unfold maxLen; omega) (Nat.le_refl _) ?_; intro w14 hown14 hg14)
                    have hx14 : Ext w13 w14 := (Below.refl _ _).grown hg14 (Nat.le_refl _) (by simp)
                    have hS14 := StS.made hown14 (by omega)
                    have HL14 := Lib.hid (show LsI T.n w13.heap.size 0 rows (fun _ => .slice none 0 0) w14 from ⟨hS14.cell, fun o => hS14.froz o, cell_lt (hS14.cell 0 (by omega)), fun j hj => absurd hj (by omega), fun j hj => absurd hj (by omega), fun i j hi => absurd hi (by omega)⟩)
                    clear hown14 hg14 hS14
                    obtain ⟨lb, hlb⟩ : ∃ b, b = w13.heap.size := ⟨_, rfl⟩
                    rw [← hlb] at HL14 ⊢
                    have HLB := Lib.hid hlb
                    have HST13 := Lib.hid (HST12.out.ext (by omega) hx13)
                    clear hlb HST12
                    go_wp2_with fail
                    go_loopg [105] T.n (fun gg v wr => ∃ (k : Nat) (ws : Nat → Value), k ≤ T.n ∧ gg = T.n - k ∧ v = .int .i64 k ∧ Ext w13 wr ∧ LsI T.n lb k rows ws wr)
                    case atStart => exact ⟨0, _, by omega, rfl, rfl, hx14, HL14.out⟩
                    case round =>
                      obtain ⟨k, ws, hk, rfl, rfl, hxr, hls⟩ := hrel
                      have HLS := Lib.hid hls
                      have hxwr := hxw13.trans hxr
                      have hx1r := hx113.trans hxr
                      have hrr : Ext wr wr := Ext.refl _
                      clear hls
                      by_cases hlt : k < T.n
                      · have hlt' : (k : Int) < (T.n : Int) := by omega
                        have hstr := HST13.out.ext (by omega) hxr
                        have s0 : ∀ w', Ext w13 w' → w'.cell? ⟨base, k, none⟩ = some (vs k) := fun w' h => h.cell (HST13.out.cell k hlt)
                        have sl : ∀ w', Ext w13 w' → base < w'.heap.size := fun w' h => Nat.lt_of_lt_of_le (cell_lt (HST13.out.cell k hlt) : base < w13.heap.size) h.le
                        have hCl := clone_any wr base (vs k) (rows k) (hstr.own k hlt) (by have := HR.out.len k hlt; have := HE8.out k hlt; omega)
                        have ll : ∀ w', Ext wr w' → lb < w'.heap.size := fun w' h => Nat.lt_of_lt_of_le HLS.out.lt h.le
                        have lf : ∀ w', Ext wr w' → w'.frozen? ⟨lb, k, none⟩ = false := fun w' h => (h.frozen (p := ⟨lb, k, none⟩) HLS.out.lt).trans (HLS.out.froz k)
                        have lc : ∀ w', Ext wr w' → w'.cell? ⟨lb, k, none⟩ = some (ws k) := fun w' h => h.cell (HLS.out.cell k hlt)
                        clear hstr
                        go_wp2_with (go_at_call 29; refine hCl.mono ?_; rintro e w15 ⟨v15, rfl, hq15, hx15⟩; obtain ⟨a15, c15, rfl⟩ := hq15.slice; have HQ15 := Lib.hid hq15; clear hq15)
                        go_roundg (T.n - (k + 1))
                        case rel =>
                          exact ⟨k + 1, _, by omega, rfl, by go_num, (hxr.trans hx15).setCell (by show w13.heap.size ≤ lb; have := HLB.out; omega) _, HLS.out.put hlt hx15 HQ15.out⟩
                        case measure => omega
                      · have hke : k = T.n := by omega
                        subst hke
                        have hxp : xp < T.n := HVX.out.1
                        have hxi : xi < T.en xp := HVX.out.2
                        have hxl : (rows xp).length = T.en xp := HR.out.len xp hxp
                        have hxe8 := HE8.out xp hxp
                        have hpos := HR.out.pos (x := (xp, xi)) ⟨hxp, hxi⟩
                        have hts := HTS.out
                        obtain ⟨b, off, c, r0, r1, r2, r3, r4, r5, hmm⟩ := HLS.out.mm (cap := T.n) (by omega) (fun k hk => by have := HR.out.len k hk; have := HE8.out k hk; omega) hxp (by rw [hxl]; exact hxi)
                        obtain ⟨sx, hsx⟩ : ∃ s, s = stOf rows (xp, xi) := ⟨_, rfl⟩
                        have hsx2 : (rows xp).getD xi 0 = sx := hsx.symm
                        rw [hsx2] at r4
                        rw [← hsx] at hpos
                        rw [hxl] at r0
                        have HMM := Lib.hid hmm
                        have HSX := Lib.hid hsx
                        have HR3 := Lib.hid r3
                        have z0 : ∀ w', Ext wr w' → w'.cell? ⟨lb, xp, none⟩ = some (.slice (some ⟨b, off, none⟩) (T.en xp) c) := fun w' h => (h.cell (HLS.out.cell xp hxp)).trans (congrArg some r0)
                        have z1 : ∀ w', Ext wr w' → lb < w'.heap.size := fun w' h => Nat.lt_of_lt_of_le HLS.out.lt h.le
                        have z2 : ∀ w', Ext wr w' → b < w'.heap.size := fun w' h => Nat.lt_of_lt_of_le r1 h.le
                        have z3 : ∀ w', Ext wr w' → w'.cell? ⟨b, off + xi, none⟩ = some (.int .i64 sx) := fun w' h => h.cell r4
                        have z4 : ∀ w', Ext wr w' → w'.frozen? ⟨b, off + xi, none⟩ = false := fun w' h => (h.frozen (p := ⟨b, off + xi, none⟩) r1).trans r5
                        have hxp' : (xp : Int) < (T.n : Int) := by omega
                        have hxi' : (xi : Int) < (T.en xp : Int) := by omega
                        have hw1 : IntKind.i64.wrap (xi : Int) = (xi : Int) := IntWalk.i64_in _ (by omega)
                        have hw2 : IntKind.i64.wrap (sx - 1) = sx - 1 := IntWalk.i64_in _ (by omega)
                        clear hmm hsx hsx2 r0 r1 r2 r3 r4 r5 hxl HST13
                        go_upto_region 29 with fail
                        refine wp_region_reads 12 (by kernel_rfl) (by kernel_rfl) ?_
                        simp only [List.take_succ_cons, List.take_zero]
                        repeat still_step
                        refine wpStill_nil ?_
                        refine wpAny_ready (rs := [12]) (by kernel_rfl) (by simp) ?_
                        refine AllReady.cons rfl (fun K hK => ?_) AllReady.nil
                        go_simp
                        refine hK _ _ ?_; clear hK K
                        refine wpAny_done (by kernel_rfl) ?_ _
                        go_upto_region 30 with fail
                        refine setdr (w := wr) (G := fun x => Code.wp _ _ _ _ x) ?_
                        intro w17 hw17
                        obtain ⟨M2, e1, e2, e3, e4, hat, e5, e6⟩ := HMM.out (sx - 1)
                        have hx17b : Ext w13 w17 := by rw [hw17]; exact (hxr.setCell (by show w13.heap.size ≤ b; have := HLB.out; have := HR3.out; omega) _).drew
                        have hat17 : M2.At w17 := by rw [hw17]; exact hat.ext (Ext.refl _).drew
                        have hxw17 := hxw13.trans hx17b
                        have hx117 := hx113.trans hx17b
                        have hx1717 : Ext w17 w17 := Ext.refl _
                        have hC2 := lcheck_yes w17 T (HT.out.ext hxw17) HV.out M2 hat17
                        rw [e1, e3, e4] at hC2
                        have HNC := Lib.hid (show ¬ T.toTr.CheckP M2.toMx from HR.out.less hxp hxi (by show M2.val xp xi = _; rw [e5, HSX.out]) (fun k j hk hj hne => by show M2.val k j = _; rw [e6 k j hk (by rw [HR.out.len k hk]; exact hj) hne]))
                        clear e1 e2 e3 e4 e5 e6 hat hat17 hw17 z0 z1 z2 z3 z4
                        go_wp2_with fail
                        go_at_call 21
                        refine hC2.mono ?_
                        rintro e w18 ⟨o2, rfl, ho2, hx18⟩
                        obtain rfl : o2 = false := Bool.eq_false_iff.2 fun h => HNC.out (ho2.1 h)
                        go_wp2_with fail
                        go_ret
                        exact ⟨rfl, hxw17.trans hx18⟩
            | false =>
              clear HO HM
              have hE11 := HEv.out w10 hxw10
              have HST11 := Lib.hid (HST10.out.ext (by omega) hx1010)
              clear HST10 HEv
              go_wp2_with fail
              go_at_call 25
              refine hE11.mono ?_
              rintro e w12 ⟨hx12, v12, rfl, hown12⟩
              obtain ⟨a12, g12, c12, rfl, hall⟩ := hown12.evs
              have hxw12 := hxw10.trans hx12
              have hx112 := hx110.trans hx12
              have hx1212 : Ext w12 w12 := Ext.refl _
              have HST12 := Lib.hid (HST11.out.ext (by omega) hx12)
              clear hown12 hE11 HST11
              by_cases hN0 : N = 0
              · rw [← HN.out] at hall ⊢
                subst hN0
                go_wp2_with fail
                go_ret
                exact ⟨rfl, hxw12⟩
              · have hNp : 0 < N := by omega
                rw [← HN.out] at hall ⊢
                obtain ⟨x, hxe⟩ : ∃ x, x = mm % N := ⟨_, rfl⟩
                have hxN : x < N := by rw [hxe]; exact Nat.mod_lt _ hNp
                have hxN' : (x : Int) < (N : Int) := by omega
                have hn0' : ((N : Int) == 0) = false := by simp; omega
                have hn0 : (N == 0) = false := by simp; omega
                have hnz : ¬ ((N : Int) = 0) := by omega
                have hmod : Int.tmod (mm : Int) (N : Int) = (x : Int) := by rw [hxe]; rfl
                have hmod2 : (mm : Int) % (N : Int) = (x : Int) := by rw [hxe]; rfl
                have hwm : IntKind.i64.wrap (mm : Int) = (mm : Int) := IntWalk.i64_in _ (by omega)
                have hwx : IntKind.i64.wrap (x : Int) = (x : Int) := IntWalk.i64_in _ (by omega)
                obtain ⟨rfl, lg, ex0, ex1⟩ := hall x hxN
                have hVx := T.toTr.evN_V x (by have := HN.out; omega)
                obtain ⟨⟨xp, xi⟩, hxe2⟩ : ∃ z, z = T.toTr.evN x := ⟨_, rfl⟩
                rw [← hxe2] at hVx ex0 ex1
                have HVX := Lib.hid hVx
                have HXE := Lib.hid hxe
                dsimp only at ex0 ex1
                clear hxe2 hVx hall hxe
                go_upto_region 23 with fail
                refine boxed1 (w := w12) (G := fun x => Code.wp _ _ _ _ x) ?_
                intro w13 hx13 hs13 ⟨l13, c13, _, _⟩
                have hx1313 : Ext w13 w13 := Ext.refl _
                have hx113 := hx112.trans hx13
                have hxw13 := hxw12.trans hx13
                clear hs13 ex0 ex1 lg hmod hmod2 hwm hwx hn0 hn0' hnz hxN'
                generalize w12.heap.size = xb at l13 c13 ⊢
                go_upto_region 24 with (at_make; refine wpList_make_full _ rfl _ _ 34 rfl w13.heap.size 41 i0 (.slice none 0 0) 1 Try.underlying34 hi0 hz0 hz1 .i64 .i64 _ _ T.n rfl rfl rfl rfl (by rw [hz2]; omega) (by unfold maxLen; omega) (Nat.le_refl _) ?_; intro w14 hown14 hg14)
                have hx14 : Ext w13 w14 := (Below.refl _ _).grown hg14 (Nat.le_refl _) (by simp)
                have hS14 := StS.made hown14 (by omega)
                have HL14 := Lib.hid (show LsI T.n w13.heap.size 0 rows (fun _ => .slice none 0 0) w14 from ⟨hS14.cell, fun o => hS14.froz o, cell_lt (hS14.cell 0 (by omega)), fun j hj => absurd hj (by omega), fun j hj => absurd hj (by omega), fun i j hi => absurd hi (by omega)⟩)
                clear hown14 hg14 hS14
                obtain ⟨lb, hlb⟩ : ∃ b, b = w13.heap.size := ⟨_, rfl⟩
                rw [← hlb] at HL14 ⊢
                have HLB := Lib.hid hlb
                have HST13 := Lib.hid (HST12.out.ext (by omega) hx13)
                clear hlb HST12
                go_wp2_with fail
                go_loopg [105] T.n (fun gg v wr => ∃ (k : Nat) (ws : Nat → Value), k ≤ T.n ∧ gg = T.n - k ∧ v = .int .i64 k ∧ Ext w13 wr ∧ LsI T.n lb k rows ws wr)
                case atStart => exact ⟨0, _, by omega, rfl, rfl, hx14, HL14.out⟩
                case round =>
                  obtain ⟨k, ws, hk, rfl, rfl, hxr, hls⟩ := hrel
                  have HLS := Lib.hid hls
                  have hxwr := hxw13.trans hxr
                  have hx1r := hx113.trans hxr
                  have hrr : Ext wr wr := Ext.refl _
                  clear hls
                  by_cases hlt : k < T.n
                  · have hlt' : (k : Int) < (T.n : Int) := by omega
                    have hstr := HST13.out.ext (by omega) hxr
                    have s0 : ∀ w', Ext w13 w' → w'.cell? ⟨base, k, none⟩ = some (vs k) := fun w' h => h.cell (HST13.out.cell k hlt)
                    have sl : ∀ w', Ext w13 w' → base < w'.heap.size := fun w' h => Nat.lt_of_lt_of_le (cell_lt (HST13.out.cell k hlt) : base < w13.heap.size) h.le
                    have hCl := clone_any wr base (vs k) (rows k) (hstr.own k hlt) (by have := HR.out.len k hlt; have := HE8.out k hlt; omega)
                    have ll : ∀ w', Ext wr w' → lb < w'.heap.size := fun w' h => Nat.lt_of_lt_of_le HLS.out.lt h.le
                    have lf : ∀ w', Ext wr w' → w'.frozen? ⟨lb, k, none⟩ = false := fun w' h => (h.frozen (p := ⟨lb, k, none⟩) HLS.out.lt).trans (HLS.out.froz k)
                    have lc : ∀ w', Ext wr w' → w'.cell? ⟨lb, k, none⟩ = some (ws k) := fun w' h => h.cell (HLS.out.cell k hlt)
                    clear hstr
                    go_wp2_with (go_at_call 29; refine hCl.mono ?_; rintro e w15 ⟨v15, rfl, hq15, hx15⟩; obtain ⟨a15, c15, rfl⟩ := hq15.slice; have HQ15 := Lib.hid hq15; clear hq15)
                    go_roundg (T.n - (k + 1))
                    case rel =>
                      exact ⟨k + 1, _, by omega, rfl, by go_num, (hxr.trans hx15).setCell (by show w13.heap.size ≤ lb; have := HLB.out; omega) _, HLS.out.put hlt hx15 HQ15.out⟩
                    case measure => omega
                  · have hke : k = T.n := by omega
                    subst hke
                    have hxp : xp < T.n := HVX.out.1
                    have hxi : xi < T.en xp := HVX.out.2
                    have hxl : (rows xp).length = T.en xp := HR.out.len xp hxp
                    have hxe8 := HE8.out xp hxp
                    have hpos := HR.out.pos (x := (xp, xi)) ⟨hxp, hxi⟩
                    have hts := HTS.out
                    obtain ⟨b, off, c, r0, r1, r2, r3, r4, r5, hmm⟩ := HLS.out.mm (cap := T.n) (by omega) (fun k hk => by have := HR.out.len k hk; have := HE8.out k hk; omega) hxp (by rw [hxl]; exact hxi)
                    obtain ⟨sx, hsx⟩ : ∃ s, s = stOf rows (xp, xi) := ⟨_, rfl⟩
                    have hsx2 : (rows xp).getD xi 0 = sx := hsx.symm
                    rw [hsx2] at r4
                    rw [← hsx] at hpos
                    rw [hxl] at r0
                    have HMM := Lib.hid hmm
                    have HSX := Lib.hid hsx
                    have HR3 := Lib.hid r3
                    have z0 : ∀ w', Ext wr w' → w'.cell? ⟨lb, xp, none⟩ = some (.slice (some ⟨b, off, none⟩) (T.en xp) c) := fun w' h => (h.cell (HLS.out.cell xp hxp)).trans (congrArg some r0)
                    have z1 : ∀ w', Ext wr w' → lb < w'.heap.size := fun w' h => Nat.lt_of_lt_of_le HLS.out.lt h.le
                    have z2 : ∀ w', Ext wr w' → b < w'.heap.size := fun w' h => Nat.lt_of_lt_of_le r1 h.le
                    have z3 : ∀ w', Ext wr w' → w'.cell? ⟨b, off + xi, none⟩ = some (.int .i64 sx) := fun w' h => h.cell r4
                    have z4 : ∀ w', Ext wr w' → w'.frozen? ⟨b, off + xi, none⟩ = false := fun w' h => (h.frozen (p := ⟨b, off + xi, none⟩) r1).trans r5
                    have hxp' : (xp : Int) < (T.n : Int) := by omega
                    have hxi' : (xi : Int) < (T.en xp : Int) := by omega
                    have hw1 : IntKind.i64.wrap (xi : Int) = (xi : Int) := IntWalk.i64_in _ (by omega)
                    have hw2 : IntKind.i64.wrap (sx - 1) = sx - 1 := IntWalk.i64_in _ (by omega)
                    clear hmm hsx hsx2 r0 r1 r2 r3 r4 r5 hxl HST13
                    go_upto_region 29 with fail
                    refine wp_region_reads 12 (by kernel_rfl) (by kernel_rfl) ?_
                    simp only [List.take_succ_cons, List.take_zero]
                    repeat still_step
                    refine wpStill_nil ?_
                    refine wpAny_ready (rs := [12]) (by kernel_rfl) (by simp) ?_
                    refine AllReady.cons rfl (fun K hK => ?_) AllReady.nil
                    go_simp
                    refine hK _ _ ?_; clear hK K
                    refine wpAny_done (by kernel_rfl) ?_ _
                    go_upto_region 30 with fail
                    refine setdr (w := wr) (G := fun x => Code.wp _ _ _ _ x) ?_
                    intro w17 hw17
                    obtain ⟨M2, e1, e2, e3, e4, hat, e5, e6⟩ := HMM.out (sx - 1)
                    have hx17b : Ext w13 w17 := by rw [hw17]; exact (hxr.setCell (by show w13.heap.size ≤ b; have := HLB.out; have := HR3.out; omega) _).drew
                    have hat17 : M2.At w17 := by rw [hw17]; exact hat.ext (Ext.refl _).drew
                    have hxw17 := hxw13.trans hx17b
                    have hx117 := hx113.trans hx17b
                    have hx1717 : Ext w17 w17 := Ext.refl _
                    have hC2 := lcheck_yes w17 T (HT.out.ext hxw17) HV.out M2 hat17
                    rw [e1, e3, e4] at hC2
                    have HNC := Lib.hid (show ¬ T.toTr.CheckP M2.toMx from HR.out.less hxp hxi (by show M2.val xp xi = _; rw [e5, HSX.out]) (fun k j hk hj hne => by show M2.val k j = _; rw [e6 k j hk (by rw [HR.out.len k hk]; exact hj) hne]))
                    clear e1 e2 e3 e4 e5 e6 hat hat17 hw17 z0 z1 z2 z3 z4
                    go_wp2_with fail
                    go_at_call 21
                    refine hC2.mono ?_
                    rintro e w18 ⟨o2, rfl, ho2, hx18⟩
                    obtain rfl : o2 = false := Bool.eq_false_iff.2 fun h => HNC.out (ho2.1 h)
                    go_wp2_with fail
                    go_ret
                    exact ⟨rfl, hxw17.trans hx18⟩

set_option maxRecDepth 100000 in
theorem lifted (os : Os) (started : os.Started) (H : Type) (enc : TypeId × Value → H) :
    ReturnsInHanded {} Try.checked os 8 .any (Rows.lamportLeastSpec.pre6 enc Try.prog Try.f8 Rows.lamportLeastRow.domain false) (Rows.lamportLeastSpec.post enc Try.prog Try.f8 false true false false) := by
  refine returnsInHanded_of_change_sized (C := Try.checked) own14 started (by kernel_rfl) Try.func8
    (ChangeSpec.witness6 (enc := enc) (C := Try.checked) false ⟨#[], #[.agg #[.slice none 0 0], .slice none 0 0, .int .u8 0], []⟩ 8 (by kernel_rfl) (by kernel_rfl) (by kernel_rfl) (by kernel_rfl)) ?_
  intro W base args ds gs before hval0 hW _ hsz0 _
  have hsz1 : (DataW.weightsEach Try.prog (Try.f8.params.toList ++ Rows.lamportLeastSpec.plain.varTypes Try.prog) (ds ++ gs)).all (· ≤ reachBytes) = true := hsz0
  clear hsz0
  have hval : ∀ (j : Nat) t v, Try.f8.params[j]? = some t → args[j]? = some v → Value.okWide Try.prog W .any base t v := hval0
  have hW' := hW
  obtain ⟨p, q, hA0, hV, rfl, hfz, hnd⟩ := hW
  have hA : DataW.TrodAll enc Try.prog W 0 (fun _ => true) true Try.f8.params.toList args.toList ds p := hA0
  rw [Try.params8] at hA hval hsz1
  obtain ⟨v0, vs0, d0, ds0, p0, q0, hargs, rfl, rfl, h0, r0⟩ := trodAll_cons hA
  obtain ⟨v1, vs1, d1, ds1, p1, q1, rfl, rfl, rfl, h1, r1⟩ := trodAll_cons r0
  obtain ⟨v2, vs2, d2, ds2, p2, q2, rfl, rfl, rfl, h2, r2⟩ := trodAll_cons r1
  obtain ⟨rfl, rfl, rfl⟩ := trodAll_nil r2
  obtain rfl : args = #[v0, v1, v2] := by cases args; simp_all
  obtain ⟨rfl, rfl⟩ := trodVars_none hV
  obtain ⟨T0, rfl, hT0⟩ := arg_trace (hval 0 29 v0 rfl rfl) h0 (small_of hsz1 (j := 0) rfl rfl)
  obtain ⟨M1, rfl, hM1, hMv1, _⟩ := arg_mm (hval 1 34 v1 rfl rfl) h1 (small_of hsz1 (j := 1) rfl rfl)
  obtain ⟨a2, rfl, rfl, rfl, w2⟩ := open_int Try.underlying5 (hval 2 5 v2 rfl rfl) h2
  clear hA0 hval0 hsz1
  simp only [List.append_nil] at hW'
  have hl1 : ∀ x ∈ p1, x.block < W.heap.size := fun x hx => hW'.lt x (by simp [hx])
  have hl0 : ∀ x ∈ p0, x.block < W.heap.size := fun x hx => hW'.lt x (by simp [hx])
  refine (walk T0 M1 a2 W hT0 hM1 (u8_range w2)).mono fun e W' ⟨he, hg⟩ => ?_
  subst he
  exact ⟨_, rfl, post_ext1 (pa := (p0 ++ (p1 ++ ([] ++ [])))) (pv := []) hW' (fun _ _ _ => (trodAll_cons_mk (shut_bool Try.underlying4 _) trodAll_mk0)) (trodAll_cons_mk (Below.trod laid14 (by kernel_rfl) (of_decide_eq_true (by kernel_rfl)) h0 hg.below hl0) (trodAll_cons_mk (Below.trod laid14 (by kernel_rfl) (of_decide_eq_true (by kernel_rfl)) h1 hg.below hl1) (trodAll_cons_mk (shut_int Try.underlying5 w2) trodAll_mk0))) rfl hg⟩

theorem over : Rows.lamportLeastRow.holds Try.pinned (OpenSpec.ofChange Rows.lamportLeastSpec) :=
  OpenClaim.holds_of_wide 8 Try.f8 rfl rfl rfl rfl rfl rfl rfl ⟨rfl, rfl, rfl, rfl, rfl⟩ rfl rfl rfl rfl rfl (by kernel_rfl) Try.func8 (by kernel_rfl)
    (of_decide_eq_true (by kernel_rfl)) (by unfold Func.isWrapper; first | (rw [if_pos (by decide +kernel)]; kernel_rfl) | (rw [if_neg (by decide +kernel)]; exact ⟨rfl, rfl⟩))
    (fun os started H enc _ => lifted os started H enc)

/-- ████ THE STATEMENT ████ -/
theorem proved : Rows.LamportLeastSaid :=
  over
#print axioms proved
end Go.Proofs.Ytecgigeeolindaa.lamportLeast

