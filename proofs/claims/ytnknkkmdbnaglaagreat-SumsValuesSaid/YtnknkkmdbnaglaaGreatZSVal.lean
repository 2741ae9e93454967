/-
  PROVED HERE: 'SumsValues' returns true for every trace, list of numbers and list of terms, in every memory: no condition.
  (The row's step follows the shell that the kit's program wrote for 'LamportSteps'.)
-/
import Derived.Test.YtnknkkmdbnaglaaGreatRows
import Derived.WalkKit
import Derived.Test.YtnknkkmdbnaglaaGreatLm
import Derived.Test.YtnknkkmdbnaglaaGreatLk
import Derived.Test.YtnknkkmdbnaglaaGreatLn
import Derived.Test.YtnknkkmdbnaglaaGreatLo
import Derived.Test.YtnknkkmdbnaglaaGreatLp
import Derived.Test.YtnknkkmdbnaglaaGreatLa
namespace Go.Proofs.YtnknkkmdbnaglaaGreat.sumsValues
open Go.ChangeShapes Go.WideShapes Go.ChangeAt Go.RowKit Go.Proofs.YtnknkkmdbnaglaaGreat
set_option linter.unusedVariables false
def TruePost (w : World) (e : Ending) (w' : World) : Prop := e = .returned (.bool true) ∧ Ext w w'
theorem nofault {T : Tr} {ts : List Trm} {c : Int} (h : T.SumOk ts) (hc : T.SumFault ts c) : c = 0 := hc.uniq (.inr (.inr (.inr (.inr (.inr ⟨h, rfl⟩)))))
theorem unit_iff {T : Tr} {ts : List Trm} : RuniP T ts ↔ (!anyB (fun i => decide (1 < iabs (T.wfn ts i))) (tott T.en T.n)) = true := by
 rw [Bool.not_eq_true', Bool.eq_false_iff, ne_eq, anyB_iff]
 constructor
 ·rintro h ⟨v, hv, h1⟩
  have h2 := of_decide_eq_true h1
  unfold Tr.wfn at h2
  split at h2
  ·next hx =>
   have h3 := h hx.choose.1 hx.choose.2 hx.choose_spec.1.1 hx.choose_spec.1.2
   omega
  ·have : iabs 0 = 0 := rfl
   omega
 ·intro h p i hp hi
  refine Int.not_lt.1 fun hlt => h ⟨tott T.en p + i, tott_lt T.en hp hi, decide_eq_true ?_⟩
  rw [Tr.wfn_at hp hi]; exact hlt
set_option maxRecDepth 100000 in
set_option maxHeartbeats 8000000 in
theorem walk (T : TM) (C : IntD) (D : TmD) (w : World) (hT : T.At w) (hC : C.At w) (hD : D.At w) :
    Calls Tryz.prog 4 #[T.val, .slice C.s.a C.s.n C.s.c, .slice D.s.a D.s.n D.s.c] w (TruePost w) := by
 have hCN : NumAt w C.s.n C.s.a C.s.b C.s.o C.z := ⟨hC.s.hn, hC.s.ha, hC.s.hb, fun k hk => (hC.c k hk).1⟩
 have HT := Lib.hid hT
 have HFEW := Lib.hid (fun W (h : Ext w W) => few39_any W T (hT.ext h))
 have HFLT := Lib.hid (fun W (h : Ext w W) => rflt39_any W T (hT.ext h) D (hD.ext h))
 have HNET := Lib.hid (fun W (h : Ext w W) => sntw_any W T (hT.ext h) D (hD.ext h))
 have HUNI := Lib.hid (fun W (h : Ext w W) => suni_any W T (hT.ext h) D (hD.ext h))
 have HRNT := Lib.hid (fun W (h : Ext w W) hO => rnet_any W T (hT.ext h) D (hD.ext h) hO)
 have HRUN := Lib.hid (fun W (h : Ext w W) hO => runi_any W T (hT.ext h) D (hD.ext h) hO)
 have HVAL := Lib.hid (fun W (h : Ext w W) => sval_any W T (hT.ext h) D (hD.ext h) C.s.a C.s.n C.s.c C.s.b C.s.o C.z (hCN.ext h))
 have HRVL := Lib.hid (fun W (h : Ext w W) (hO : T.SumOk D.l) (hi : T.toTr.IsCut C.s.n C.z) => (show Calls Tryz.prog 31 #[T.val, .slice C.s.a C.s.n C.s.c, .slice D.s.a D.s.n D.s.c] W (fun e w' => e = .returned (.int .i64 (T.sumAt D.l fun p => (C.z p).toNat)) ∧ Ext W w') from by
  have h1 := rval39_any W T (hT.ext h) D (hD.ext h) hO.v hO.known hO.coef hO.len C.s.a C.s.b C.s.o C.s.c (fun p => (C.z p).toNat) ((hCN.ext h).cut hi.1.2 fun p hp => (hi.2.1 p hp).1) (fun p hp => by have := hi.2.1 p hp; omega)
  rw [← hi.1.2] at h1; exact h1))
 have HRC := Lib.hid (fun W (h : Ext w W) (hV : T.toTr.Valid) => rcut39_any W T (hT.ext h) hV C.s.a C.s.b C.s.o C.s.n C.s.c C.z (hCN.ext h))
 have hcn := hC.s.hn
 have hdn := hD.hn
 unfold RnetPost at HRNT
 obtain ⟨ta, hta⟩ : ∃ z, z = T.a := ⟨_, rfl⟩
 obtain ⟨da, hda⟩ : ∃ z, z = D.s.a := ⟨_, rfl⟩
 obtain ⟨n, hn⟩ : ∃ n, n = D.s.n := ⟨_, rfl⟩
 obtain ⟨cn, hcn'⟩ : ∃ n, n = C.s.n := ⟨_, rfl⟩
 simp only [TM.val] at HFEW HFLT HNET HUNI HRNT HRUN HVAL HRVL HRC ⊢
 rw [← hta] at HFEW HFLT HNET HUNI HRNT HRUN HVAL HRVL HRC
 rw [← hda, ← hn] at HFLT HNET HUNI HRNT HRUN HVAL HRVL
 rw [← hta, ← hda, ← hn, ← hcn']
 rw [← hn] at hdn
 rw [← hcn'] at hcn HVAL HRVL HRC
 clear hT hC hD hCN hta hda hn hcn'
 go_enter Tryz.func4, Tryz.ntmps4
 go_upto_region 1 with fail
 refine boxed1 (w := w) (G := fun x => Code.wp _ _ _ _ x) ?_
 intro w1 hx1 hs1 ⟨l0, c0, _, _⟩
 have hx11 : Ext w1 w1 := Ext.refl _
 clear hs1
 go_wp2_with fail
 go_at_call 15
 refine (awake39_any w1).mono ?_
 rintro e w2 ⟨rfl, hx2⟩
 have hxw2 := hx1.trans hx2
 go_wp2_with fail
 go_at_call 16
 refine (HFEW.out w2 hxw2).mono ?_
 rintro e w3 ⟨hx3, bf, rfl, -⟩
 have hxw3 := hxw2.trans hx3
 have hx13 := hx2.trans hx3
 cases bf with
 | false =>
  go_wp2_with fail
  go_ret
  exact ⟨rfl, hxw3⟩
 | true =>
 by_cases h70 : 70 < n
 ·have d1 : decide ((70 : Int) < (n : Int)) = true := decide_eq_true (by omega)
  have d1' : decide (70 < n) = true := decide_eq_true h70
  go_wp2_with fail
  go_ret
  exact ⟨rfl, hxw3⟩
 have d1 : decide ((70 : Int) < (n : Int)) = false := decide_eq_false (by omega)
 have d1' : decide (70 < n) = false := decide_eq_false h70
 by_cases h40 : 40 < cn
 ·have d2 : decide ((40 : Int) < (cn : Int)) = true := decide_eq_true (by omega)
  have d2' : decide (40 < cn) = true := decide_eq_true h40
  go_wp2_with fail
  go_ret
  exact ⟨rfl, hxw3⟩
 have d2 : decide ((40 : Int) < (cn : Int)) = false := decide_eq_false (by omega)
 have d2' : decide (40 < cn) = false := decide_eq_false h40
 go_wp2_with fail
 go_at_call 24
 refine (HVAL.out w3 hxw3).mono ?_
 clear d1 d1' d2 d2' hx2 hx3 hxw2
 rintro e w4 ⟨hx4, ⟨cf, hF, h0, rfl⟩ | ⟨hO, hic, rfl⟩ | ⟨hO, hic, rfl⟩⟩
 ·have HF := Lib.hid hF
  have d0 : (cf == 0) = false := by simpa using h0
  have dd : (cf == cf) = true := by simp
  have H0 := Lib.hid h0
  have hxw4 := hxw3.trans hx4
  have hx14 := hx13.trans hx4
  clear hF h0
  go_wp2_with fail
  go_at_call 25
  refine (HNET.out w4 hxw4).mono ?_
  rintro e w5 ⟨hx5, ⟨c, hc, h0, rfl⟩ | ⟨hO, _⟩⟩
  case inr => exact absurd (nofault hO HF.out) H0.out
  obtain rfl : c = cf := hc.uniq HF.out
  have hxw5 := hxw4.trans hx5
  have hx15 := hx14.trans hx5
  clear hc h0
  go_upto_region 7 with fail
  refine boxed1 (w := w5) (G := fun x => Code.wp _ _ _ _ x) ?_
  intro w6 hx6 hs6 ⟨l6, c6, _, _⟩
  have hx66 : Ext w6 w6 := Ext.refl _
  have hxw6 := hxw5.trans hx6
  have hx16 := hx15.trans hx6
  clear hs6
  go_wp2_with fail
  go_at_call 26
  refine (HUNI.out w6 hxw6).mono ?_
  rintro e w7 ⟨hx7, ⟨c2, hc, h0, rfl⟩ | ⟨hO, _⟩⟩
  case inr => exact absurd (nofault hO HF.out) H0.out
  obtain rfl : c2 = c := hc.uniq HF.out
  have hxw7 := hxw6.trans hx7
  have hx17 := hx16.trans hx7
  clear hc h0
  go_wp2_with fail
  go_at_call 19
  refine (HFLT.out w7 hxw7).mono ?_
  rintro e w8 ⟨hx8, c3, hc, rfl⟩
  obtain rfl : c3 = c2 := hc.uniq HF.out
  have hxw8 := hxw7.trans hx8
  have hx18 := hx17.trans hx8
  have hx68 := hx7.trans hx8
  clear hc
  go_wp2_with fail
  go_at_call 27
  have hn0 : EdAt w8 none 0 0 [] := ⟨by decide, fun h => absurd h (by decide), fun h => absurd h (by decide), fun w' _ k hk => absurd hk (Nat.not_lt_zero k), fun w' _ k hk => absurd hk (Nat.not_lt_zero k), fun w' _ k hk => absurd hk (Nat.not_lt_zero k)⟩
  refine (same39_any w8 none none 0 0 0 0 0 0 [] hn0 hn0 0 rfl 0).mono ?_
  rintro e w9 ⟨rfl, hx9⟩
  have hxw9 := hxw8.trans hx9
  clear hn0
  go_wp2_with fail
  go_ret
  exact ⟨rfl, hxw9⟩
 ·have HIC := Lib.hid hic
  clear hic
  have HOK := Lib.hid hO
  have HV := Lib.hid hO.v
  have hxw4 := hxw3.trans hx4
  have hx14 := hx13.trans hx4
  clear hO hxw3 hx13
  go_wp2_with fail
  go_at_call 25
  refine (HNET.out w4 hxw4).mono ?_
  rintro e w5 ⟨hx5, ⟨c, hc, h0, _⟩ | ⟨_, vn, rfl, hq⟩⟩
  ·exact absurd (nofault HOK.out hc) h0
  have hxw5 := hxw4.trans hx5
  have hx15 := hx14.trans hx5
  have HWO := Lib.hid (Tr.wfn_ok HOK.out)
  have HNO := Lib.hid (Tr.netOk HV.out HWO.out)
  have hL2 : (closureNet (tott T.en T.n) (T.wfn D.l) T.needs).length ≤ 2000 := HNO.out.m
  obtain ⟨na, ng, no, nc, rfl, hE, _⟩ := hq.at (by omega)
  obtain ⟨L, hL⟩ : ∃ L, L = closureNet (tott T.en T.n) (T.wfn D.l) T.needs := ⟨_, rfl⟩
  obtain ⟨m, hm⟩ : ∃ m, m = tott T.en T.n := ⟨_, rfl⟩
  obtain ⟨ln, hln⟩ : ∃ ln, ln = L.length := ⟨_, rfl⟩
  rw [← hL] at hL2 hE ⊢
  rw [← hln] at hL2 ⊢
  have HE := Lib.hid hE
  have HL := Lib.hid hL
  have HM := Lib.hid hm
  have HLN := Lib.hid hln
  rw [← hm]
  clear hq hE hL hm hln hx4 hx5 hxw4 hx14
  go_upto_region 7 with fail
  refine boxed1 (w := w5) (G := fun x => Code.wp _ _ _ _ x) ?_
  intro w6 hx6 hs6 ⟨l6, c6, _, _⟩
  have hx66 : Ext w6 w6 := Ext.refl _
  have hxw6 := hxw5.trans hx6
  have hx16 := hx15.trans hx6
  clear hs6
  obtain ⟨r, hr⟩ : ∃ r, r = anyB (fun i => decide (1 < iabs (T.wfn D.l i))) (tott T.en T.n) := ⟨_, rfl⟩
  have HRR := Lib.hid hr
  clear hr
  go_wp2_with fail
  go_at_call 26
  refine (HUNI.out w6 hxw6).mono ?_
  rintro e w7a ⟨hx7a, ⟨c, hc, h0, _⟩ | ⟨_, hre⟩⟩
  ·exact absurd (nofault HOK.out hc) h0
  rw [← HRR.out] at hre
  subst hre
  have hxw7a := hxw6.trans hx7a
  have hx17a := hx16.trans hx7a
  go_wp2_with fail
  go_at_call 19
  refine (HFLT.out w7a hxw7a).mono ?_
  rintro e w7 ⟨hx7, cf, hcf, rfl⟩
  obtain rfl : cf = 0 := nofault HOK.out hcf
  have hxw7 := hxw7a.trans hx7
  have hx17 := hx17a.trans hx7
  have hx67 := hx7a.trans hx7
  clear hcf hx7 hx7a hxw7a hx17a
  have hn5 := fun W (h : Ext w W) => (show Calls Tryz.prog 28 #[.agg #[.slice ta T.n T.cap], .slice da n D.s.c] W (fun e w' => Ext W w' ∧ ∃ v, e = .returned (.agg #[.int .i64 ((m : Int) + 2), v]) ∧ EdOwn w' W.heap.size v L) from (HRNT.out W h HOK.out).mono fun e w' ⟨hx, v, he, hv⟩ => ⟨hx, v, by rw [HM.out]; exact he, by rw [HL.out]; exact hv⟩)
  have HN5 := Lib.hid hn5
  have hun := fun W (h : Ext w W) => (show Calls Tryz.prog 29 #[.agg #[.slice ta T.n T.cap], .slice da n D.s.c] W (fun e w' => e = .returned (.bool (!r)) ∧ Ext W w') from (HRUN.out W h HOK.out).mono fun e w' ⟨b, he, hb, hx⟩ => ⟨by
   have h1 := hb.trans unit_iff
   rw [← HRR.out] at h1
   have h2 : b = !r := by cases b <;> cases r <;> simp_all
   rw [he, h2], hx⟩)
  have HUN := Lib.hid hun
  have HE7 := Lib.hid (HE.out.ext (hx6.trans hx67))
  clear hn5 hun
  have d3 : ((!r) == (!r)) = true := by simp
  have c6n := fun w' (x : Ext w7 w') => c6 w' (hx67.trans x)
  have l6n := fun w' (x : Ext w7 w') => l6 w' (hx67.trans x)
  have HX67 := Lib.hid hx67
  have HC6 := Lib.hid c6
  have HL6 := Lib.hid l6
  clear c6 l6
  go_upto_region 11 with fail
  refine wp_region_held_drew (S := fun w' => Ext w7 w') (by kernel_rfl) (Ext.refl _).drew (fun hHeld => ?_)
  refine heldTake 0 (v := ?_) rfl (by kernel_rfl) (by kernel_rfl) (by kernel_rfl) (fun _ _ _ h => h) (Or.inl ⟨by rfl, ?_⟩) (by assumption) ?_
  rotate_left
  ·(intro w' hSw; (try dsimp only at hSw); have hS1 := hx17.trans hSw; have hSS := Ext.refl w'; go_simp; try with_reducible rfl)
  try simp only [Act.put, List.setIfInBounds_toArray, List.set_cons_zero, List.set_cons_succ]
  refine heldTake 1 (v := ?_) rfl (by kernel_rfl) (by kernel_rfl) (by kernel_rfl) (fun _ _ _ h => h) (Or.inl ⟨by rfl, ?_⟩) (by assumption) ?_
  rotate_left
  ·(intro w' hSw; (try dsimp only at hSw); have hS1 := hx17.trans hSw; have hSS := Ext.refl w'; go_simp; try with_reducible rfl)
  try simp only [Act.put, List.setIfInBounds_toArray, List.set_cons_zero, List.set_cons_succ]
  refine heldTake 2 (v := ?_) rfl (by kernel_rfl) (by kernel_rfl) (by kernel_rfl) (fun _ _ _ h => h) (Or.inl ⟨by rfl, ?_⟩) (by assumption) ?_
  rotate_left
  ·(intro w' hSw; (try dsimp only at hSw); have hS1 := hx17.trans hSw; have hSS := Ext.refl w'; go_simp; try with_reducible rfl)
  try simp only [Act.put, List.setIfInBounds_toArray, List.set_cons_zero, List.set_cons_succ]
  refine heldTake 3 (v := ?_) rfl (by kernel_rfl) (by kernel_rfl) (by kernel_rfl) (fun _ _ _ h => h) (Or.inl ⟨by rfl, ?_⟩) (by assumption) ?_
  rotate_left
  ·(intro w' hSw; (try dsimp only at hSw); have hS1 := hx17.trans hSw; have hSS := Ext.refl w'; go_simp; try with_reducible rfl)
  try simp only [Act.put, List.setIfInBounds_toArray, List.set_cons_zero, List.set_cons_succ]
  refine heldTake 4 (v := ?_) rfl (by kernel_rfl) (by kernel_rfl) (by kernel_rfl) (fun _ _ _ h => h) (Or.inl ⟨by rfl, ?_⟩) (by assumption) ?_
  rotate_left
  ·(intro w' hSw; (try dsimp only at hSw); have hS1 := hx17.trans hSw; have hSS := Ext.refl w'; go_simp; try with_reducible rfl)
  try simp only [Act.put, List.setIfInBounds_toArray, List.set_cons_zero, List.set_cons_succ]
  refine heldTake 5 (v := ?_) rfl (by kernel_rfl) (by kernel_rfl) (by kernel_rfl) (fun _ _ _ h => h) (Or.inl ⟨by rfl, ?_⟩) (by assumption) ?_
  rotate_left
  ·(intro w' hSw; (try dsimp only at hSw); have hS1 := hx17.trans hSw; have hSS := Ext.refl w'; go_simp; try with_reducible rfl)
  try simp only [Act.put, List.setIfInBounds_toArray, List.set_cons_zero, List.set_cons_succ]
  refine wpAnyH_ready (rs := [6]) (by kernel_rfl) (by simp) ?_
  refine AllReadyH.cons rfl (fun K hK => ?_) AllReadyH.nil
  go_simp
  go_at_call 28
  refine (HN5.out _ hxw7.drew).mono ?_
  rintro e w8 ⟨hx8, v8, rfl, hq8⟩
  obtain ⟨ma, mg, mo, mc, rfl, hE8, _⟩ := hq8.at (by have := HLN.out; omega)
  have hx78 : Ext w7 w8 := (Ext.refl w7).drew.trans hx8
  rw [← HLN.out]
  refine hK.out _ _ ?_ (fun hHeld2 => ?_)
  ·exact hx78
  clear hK K
  try simp only [Act.put, List.setIfInBounds_toArray, List.set_cons_zero, List.set_cons_succ]
  have hsm := same39_any w8 na ma ng no mg mo nc mc L (HE7.out.ext hx78) hE8 ln HLN.out ((m : Int) + 2)
  refine wpAnyH_ready (rs := [7]) (by kernel_rfl) (by simp) ?_
  refine AllReadyH.cons rfl (fun K hK => ?_) AllReadyH.nil
  go_simp
  go_at_call 27
  refine hsm.mono ?_
  rintro e w9 ⟨rfl, hx9⟩
  have hx79 := hx78.trans hx9
  refine hK.out _ _ ?_ (fun hHeld3 => ?_)
  ·exact hx79
  clear hK K
  try simp only [Act.put, List.setIfInBounds_toArray, List.set_cons_zero, List.set_cons_succ]
  refine heldTake 8 (v := ?_) rfl (by kernel_rfl) (by kernel_rfl) (by kernel_rfl) (fun _ _ _ h => h) (Or.inl ⟨by rfl, ?_⟩) (by assumption) ?_
  rotate_left
  ·(intro w' hSw; (try dsimp only at hSw); have hS1 := hx17.trans hSw; have hSS := Ext.refl w'; go_simp; try with_reducible rfl)
  try simp only [Act.put, List.setIfInBounds_toArray, List.set_cons_zero, List.set_cons_succ]
  refine heldTake 9 (v := ?_) rfl (by kernel_rfl) (by kernel_rfl) (by kernel_rfl) (fun _ _ _ h => h) (Or.inl ⟨by rfl, ?_⟩) (by assumption) ?_
  rotate_left
  ·(intro w' hSw; (try dsimp only at hSw); have hS1 := hx17.trans hSw; have hSS := Ext.refl w'; go_simp; try with_reducible rfl)
  try simp only [Act.put, List.setIfInBounds_toArray, List.set_cons_zero, List.set_cons_succ]
  refine heldTake 10 (v := ?_) rfl (by kernel_rfl) (by kernel_rfl) (by kernel_rfl) (fun _ _ _ h => h) (Or.inl ⟨by rfl, ?_⟩) (by assumption) ?_
  rotate_left
  ·(intro w' hSw; (try dsimp only at hSw); have hS1 := hx17.trans hSw; have hSS := Ext.refl w'; go_simp; try with_reducible rfl)
  try simp only [Act.put, List.setIfInBounds_toArray, List.set_cons_zero, List.set_cons_succ]
  refine heldTake 11 (v := ?_) rfl (by kernel_rfl) (by kernel_rfl) (by kernel_rfl) (fun _ _ _ h => h) (Or.inl ⟨by rfl, ?_⟩) (by assumption) ?_
  rotate_left
  ·(intro w' hSw; (try dsimp only at hSw); have hS1 := hx17.trans hSw; have hSS := Ext.refl w'; go_simp; try with_reducible rfl)
  try simp only [Act.put, List.setIfInBounds_toArray, List.set_cons_zero, List.set_cons_succ]
  refine heldTake 12 (v := ?_) rfl (by kernel_rfl) (by kernel_rfl) (by kernel_rfl) (fun _ _ _ h => h) (Or.inl ⟨by rfl, ?_⟩) (by assumption) ?_
  rotate_left
  ·(intro w' hSw; (try dsimp only at hSw); have hS1 := hx17.trans hSw; have hSS := Ext.refl w'; go_simp; try with_reducible rfl)
  try simp only [Act.put, List.setIfInBounds_toArray, List.set_cons_zero, List.set_cons_succ]
  refine heldTake 13 (v := ?_) rfl (by kernel_rfl) (by kernel_rfl) (by kernel_rfl) (fun _ _ _ h => h) (Or.inl ⟨by rfl, ?_⟩) (by assumption) ?_
  rotate_left
  ·(intro w' hSw; (try dsimp only at hSw); have hS1 := hx17.trans hSw; have hSS := Ext.refl w'; go_simp; try with_reducible rfl)
  try simp only [Act.put, List.setIfInBounds_toArray, List.set_cons_zero, List.set_cons_succ]
  refine heldTake 14 (v := ?_) rfl (by kernel_rfl) (by kernel_rfl) (by kernel_rfl) (fun _ _ _ h => h) (Or.inl ⟨by rfl, ?_⟩) (by assumption) ?_
  rotate_left
  ·(intro w' hSw; (try dsimp only at hSw); have hS1 := hx17.trans hSw; have hSS := Ext.refl w'; go_simp; try with_reducible rfl)
  try simp only [Act.put, List.setIfInBounds_toArray, List.set_cons_zero, List.set_cons_succ]
  refine heldTake 15 (v := ?_) rfl (by kernel_rfl) (by kernel_rfl) (by kernel_rfl) (fun _ _ _ h => h) (Or.inl ⟨by rfl, ?_⟩) (by assumption) ?_
  rotate_left
  ·(intro w' hSw; (try dsimp only at hSw); have hS1 := hx17.trans hSw; have hSS := Ext.refl w'; go_simp; try with_reducible rfl)
  try simp only [Act.put, List.setIfInBounds_toArray, List.set_cons_zero, List.set_cons_succ]
  refine heldTake 16 (v := ?_) rfl (by kernel_rfl) (by kernel_rfl) (by kernel_rfl) (fun _ _ _ h => h) (Or.inl ⟨by rfl, ?_⟩) (by assumption) ?_
  rotate_left
  ·(intro w' hSw; (try dsimp only at hSw); have hS1 := hx17.trans hSw; have hSS := Ext.refl w'; go_simp; try with_reducible rfl)
  try simp only [Act.put, List.setIfInBounds_toArray, List.set_cons_zero, List.set_cons_succ]
  refine heldTake 17 (v := ?_) rfl (by kernel_rfl) (by kernel_rfl) (by kernel_rfl) (fun _ _ _ h => h) (Or.inl ⟨by rfl, ?_⟩) (by assumption) ?_
  rotate_left
  ·(intro w' hSw; (try dsimp only at hSw); have hS1 := hx17.trans hSw; have hSS := Ext.refl w'; go_simp; try with_reducible rfl)
  try simp only [Act.put, List.setIfInBounds_toArray, List.set_cons_zero, List.set_cons_succ]
  have hu9 := HUN.out w9 (hxw7.trans hx79)
  refine wpAnyH_ready (rs := [18]) (by kernel_rfl) (by simp) ?_
  refine AllReadyH.cons rfl (fun K hK => ?_) AllReadyH.nil
  go_simp
  go_at_call 29
  refine hu9.mono ?_
  rintro e w10 ⟨rfl, hx10⟩
  have hx710 := hx79.trans hx10
  refine hK.out _ _ ?_ (fun hHeld4 => ?_)
  ·exact hx710
  clear hK K
  try simp only [Act.put, List.setIfInBounds_toArray, List.set_cons_zero, List.set_cons_succ]
  refine heldTake 19 (v := ?_) rfl (by kernel_rfl) (by kernel_rfl) (by kernel_rfl) (fun _ _ _ h => h) (Or.inl ⟨by rfl, ?_⟩) (by assumption) ?_
  rotate_left
  ·(intro w' hSw; (try dsimp only at hSw); have hS1 := hx17.trans hSw; have hSS := Ext.refl w'; go_simp; try with_reducible rfl)
  try simp only [Act.put, List.setIfInBounds_toArray, List.set_cons_zero, List.set_cons_succ]
  refine heldTake 20 (v := ?_) rfl (by kernel_rfl) (by kernel_rfl) (by kernel_rfl) (fun _ _ _ h => h) (Or.inl ⟨by rfl, ?_⟩) (by assumption) ?_
  rotate_left
  ·(intro w' hSw; (try dsimp only at hSw); have hS1 := hx17.trans hSw; have hSS := Ext.refl w'; go_simp; try with_reducible rfl)
  try simp only [Act.put, List.setIfInBounds_toArray, List.set_cons_zero, List.set_cons_succ]
  refine wpAnyH_done (by kernel_rfl) ?_ _
  clear hHeld hHeld2 hHeld3 hHeld4 hsm hu9 hE8 hq8 c6n l6n d3
  have hx110 := hx17.trans hx710
  have hxw10 := hxw7.trans hx710
  clear hx17 hxw7 hx710 hx79 hx78 hx8 hx9 hx10 hx66 hx6 hx16 hxw6 hx67 hxw5 hx15
  go_wp2_with fail
  go_at_call 30
  refine (HRC.out w10 hxw10 HV.out).mono ?_
  rintro e w11 ⟨bc, rfl, hbc, hx11a⟩
  have hxw11 := hxw10.trans hx11a
  have hx111 := hx110.trans hx11a
  obtain rfl : bc = false := by
   cases bc with
   | false => rfl
   | true => exact absurd (hbc.1 rfl) HIC.out
  clear hbc
  go_wp2_with fail
  go_ret
  exact ⟨rfl, hxw11⟩
 ·have HIC := Lib.hid hic
  obtain ⟨xv, hxv⟩ : ∃ z, z = T.sumAt D.l (fun p => (C.z p).toNat) := ⟨_, rfl⟩
  rw [← hxv]
  have HXV := Lib.hid hxv
  clear hic hxv
  have HOK := Lib.hid hO
  have HV := Lib.hid hO.v
  have hxw4 := hxw3.trans hx4
  have hx14 := hx13.trans hx4
  clear hO hxw3 hx13
  go_wp2_with fail
  go_at_call 25
  refine (HNET.out w4 hxw4).mono ?_
  rintro e w5 ⟨hx5, ⟨c, hc, h0, _⟩ | ⟨_, vn, rfl, hq⟩⟩
  ·exact absurd (nofault HOK.out hc) h0
  have hxw5 := hxw4.trans hx5
  have hx15 := hx14.trans hx5
  have HWO := Lib.hid (Tr.wfn_ok HOK.out)
  have HNO := Lib.hid (Tr.netOk HV.out HWO.out)
  have hL2 : (closureNet (tott T.en T.n) (T.wfn D.l) T.needs).length ≤ 2000 := HNO.out.m
  obtain ⟨na, ng, no, nc, rfl, hE, _⟩ := hq.at (by omega)
  obtain ⟨L, hL⟩ : ∃ L, L = closureNet (tott T.en T.n) (T.wfn D.l) T.needs := ⟨_, rfl⟩
  obtain ⟨m, hm⟩ : ∃ m, m = tott T.en T.n := ⟨_, rfl⟩
  obtain ⟨ln, hln⟩ : ∃ ln, ln = L.length := ⟨_, rfl⟩
  rw [← hL] at hL2 hE ⊢
  rw [← hln] at hL2 ⊢
  have HE := Lib.hid hE
  have HL := Lib.hid hL
  have HM := Lib.hid hm
  have HLN := Lib.hid hln
  rw [← hm]
  clear hq hE hL hm hln hx4 hx5 hxw4 hx14
  go_upto_region 7 with fail
  refine boxed1 (w := w5) (G := fun x => Code.wp _ _ _ _ x) ?_
  intro w6 hx6 hs6 ⟨l6, c6, _, _⟩
  have hx66 : Ext w6 w6 := Ext.refl _
  have hxw6 := hxw5.trans hx6
  have hx16 := hx15.trans hx6
  clear hs6
  obtain ⟨r, hr⟩ : ∃ r, r = anyB (fun i => decide (1 < iabs (T.wfn D.l i))) (tott T.en T.n) := ⟨_, rfl⟩
  have HRR := Lib.hid hr
  clear hr
  go_wp2_with fail
  go_at_call 26
  refine (HUNI.out w6 hxw6).mono ?_
  rintro e w7a ⟨hx7a, ⟨c, hc, h0, _⟩ | ⟨_, hre⟩⟩
  ·exact absurd (nofault HOK.out hc) h0
  rw [← HRR.out] at hre
  subst hre
  have hxw7a := hxw6.trans hx7a
  have hx17a := hx16.trans hx7a
  go_wp2_with fail
  go_at_call 19
  refine (HFLT.out w7a hxw7a).mono ?_
  rintro e w7 ⟨hx7, cf, hcf, rfl⟩
  obtain rfl : cf = 0 := nofault HOK.out hcf
  have hxw7 := hxw7a.trans hx7
  have hx17 := hx17a.trans hx7
  have hx67 := hx7a.trans hx7
  clear hcf hx7 hx7a hxw7a hx17a
  have hn5 := fun W (h : Ext w W) => (show Calls Tryz.prog 28 #[.agg #[.slice ta T.n T.cap], .slice da n D.s.c] W (fun e w' => Ext W w' ∧ ∃ v, e = .returned (.agg #[.int .i64 ((m : Int) + 2), v]) ∧ EdOwn w' W.heap.size v L) from (HRNT.out W h HOK.out).mono fun e w' ⟨hx, v, he, hv⟩ => ⟨hx, v, by rw [HM.out]; exact he, by rw [HL.out]; exact hv⟩)
  have HN5 := Lib.hid hn5
  have hun := fun W (h : Ext w W) => (show Calls Tryz.prog 29 #[.agg #[.slice ta T.n T.cap], .slice da n D.s.c] W (fun e w' => e = .returned (.bool (!r)) ∧ Ext W w') from (HRUN.out W h HOK.out).mono fun e w' ⟨b, he, hb, hx⟩ => ⟨by
   have h1 := hb.trans unit_iff
   rw [← HRR.out] at h1
   have h2 : b = !r := by cases b <;> cases r <;> simp_all
   rw [he, h2], hx⟩)
  have HUN := Lib.hid hun
  have HE7 := Lib.hid (HE.out.ext (hx6.trans hx67))
  clear hn5 hun
  have d3 : ((!r) == (!r)) = true := by simp
  have c6n := fun w' (x : Ext w7 w') => c6 w' (hx67.trans x)
  have l6n := fun w' (x : Ext w7 w') => l6 w' (hx67.trans x)
  have HX67 := Lib.hid hx67
  have HC6 := Lib.hid c6
  have HL6 := Lib.hid l6
  clear c6 l6
  go_upto_region 11 with fail
  refine wp_region_held_drew (S := fun w' => Ext w7 w') (by kernel_rfl) (Ext.refl _).drew (fun hHeld => ?_)
  refine heldTake 0 (v := ?_) rfl (by kernel_rfl) (by kernel_rfl) (by kernel_rfl) (fun _ _ _ h => h) (Or.inl ⟨by rfl, ?_⟩) (by assumption) ?_
  rotate_left
  ·(intro w' hSw; (try dsimp only at hSw); have hS1 := hx17.trans hSw; have hSS := Ext.refl w'; go_simp; try with_reducible rfl)
  try simp only [Act.put, List.setIfInBounds_toArray, List.set_cons_zero, List.set_cons_succ]
  refine heldTake 1 (v := ?_) rfl (by kernel_rfl) (by kernel_rfl) (by kernel_rfl) (fun _ _ _ h => h) (Or.inl ⟨by rfl, ?_⟩) (by assumption) ?_
  rotate_left
  ·(intro w' hSw; (try dsimp only at hSw); have hS1 := hx17.trans hSw; have hSS := Ext.refl w'; go_simp; try with_reducible rfl)
  try simp only [Act.put, List.setIfInBounds_toArray, List.set_cons_zero, List.set_cons_succ]
  refine heldTake 2 (v := ?_) rfl (by kernel_rfl) (by kernel_rfl) (by kernel_rfl) (fun _ _ _ h => h) (Or.inl ⟨by rfl, ?_⟩) (by assumption) ?_
  rotate_left
  ·(intro w' hSw; (try dsimp only at hSw); have hS1 := hx17.trans hSw; have hSS := Ext.refl w'; go_simp; try with_reducible rfl)
  try simp only [Act.put, List.setIfInBounds_toArray, List.set_cons_zero, List.set_cons_succ]
  refine heldTake 3 (v := ?_) rfl (by kernel_rfl) (by kernel_rfl) (by kernel_rfl) (fun _ _ _ h => h) (Or.inl ⟨by rfl, ?_⟩) (by assumption) ?_
  rotate_left
  ·(intro w' hSw; (try dsimp only at hSw); have hS1 := hx17.trans hSw; have hSS := Ext.refl w'; go_simp; try with_reducible rfl)
  try simp only [Act.put, List.setIfInBounds_toArray, List.set_cons_zero, List.set_cons_succ]
  refine heldTake 4 (v := ?_) rfl (by kernel_rfl) (by kernel_rfl) (by kernel_rfl) (fun _ _ _ h => h) (Or.inl ⟨by rfl, ?_⟩) (by assumption) ?_
  rotate_left
  ·(intro w' hSw; (try dsimp only at hSw); have hS1 := hx17.trans hSw; have hSS := Ext.refl w'; go_simp; try with_reducible rfl)
  try simp only [Act.put, List.setIfInBounds_toArray, List.set_cons_zero, List.set_cons_succ]
  refine heldTake 5 (v := ?_) rfl (by kernel_rfl) (by kernel_rfl) (by kernel_rfl) (fun _ _ _ h => h) (Or.inl ⟨by rfl, ?_⟩) (by assumption) ?_
  rotate_left
  ·(intro w' hSw; (try dsimp only at hSw); have hS1 := hx17.trans hSw; have hSS := Ext.refl w'; go_simp; try with_reducible rfl)
  try simp only [Act.put, List.setIfInBounds_toArray, List.set_cons_zero, List.set_cons_succ]
  refine wpAnyH_ready (rs := [6]) (by kernel_rfl) (by simp) ?_
  refine AllReadyH.cons rfl (fun K hK => ?_) AllReadyH.nil
  go_simp
  go_at_call 28
  refine (HN5.out _ hxw7.drew).mono ?_
  rintro e w8 ⟨hx8, v8, rfl, hq8⟩
  obtain ⟨ma, mg, mo, mc, rfl, hE8, _⟩ := hq8.at (by have := HLN.out; omega)
  have hx78 : Ext w7 w8 := (Ext.refl w7).drew.trans hx8
  rw [← HLN.out]
  refine hK.out _ _ ?_ (fun hHeld2 => ?_)
  ·exact hx78
  clear hK K
  try simp only [Act.put, List.setIfInBounds_toArray, List.set_cons_zero, List.set_cons_succ]
  have hsm := same39_any w8 na ma ng no mg mo nc mc L (HE7.out.ext hx78) hE8 ln HLN.out ((m : Int) + 2)
  refine wpAnyH_ready (rs := [7]) (by kernel_rfl) (by simp) ?_
  refine AllReadyH.cons rfl (fun K hK => ?_) AllReadyH.nil
  go_simp
  go_at_call 27
  refine hsm.mono ?_
  rintro e w9 ⟨rfl, hx9⟩
  have hx79 := hx78.trans hx9
  refine hK.out _ _ ?_ (fun hHeld3 => ?_)
  ·exact hx79
  clear hK K
  try simp only [Act.put, List.setIfInBounds_toArray, List.set_cons_zero, List.set_cons_succ]
  refine heldTake 8 (v := ?_) rfl (by kernel_rfl) (by kernel_rfl) (by kernel_rfl) (fun _ _ _ h => h) (Or.inl ⟨by rfl, ?_⟩) (by assumption) ?_
  rotate_left
  ·(intro w' hSw; (try dsimp only at hSw); have hS1 := hx17.trans hSw; have hSS := Ext.refl w'; go_simp; try with_reducible rfl)
  try simp only [Act.put, List.setIfInBounds_toArray, List.set_cons_zero, List.set_cons_succ]
  refine heldTake 9 (v := ?_) rfl (by kernel_rfl) (by kernel_rfl) (by kernel_rfl) (fun _ _ _ h => h) (Or.inl ⟨by rfl, ?_⟩) (by assumption) ?_
  rotate_left
  ·(intro w' hSw; (try dsimp only at hSw); have hS1 := hx17.trans hSw; have hSS := Ext.refl w'; go_simp; try with_reducible rfl)
  try simp only [Act.put, List.setIfInBounds_toArray, List.set_cons_zero, List.set_cons_succ]
  refine heldTake 10 (v := ?_) rfl (by kernel_rfl) (by kernel_rfl) (by kernel_rfl) (fun _ _ _ h => h) (Or.inl ⟨by rfl, ?_⟩) (by assumption) ?_
  rotate_left
  ·(intro w' hSw; (try dsimp only at hSw); have hS1 := hx17.trans hSw; have hSS := Ext.refl w'; go_simp; try with_reducible rfl)
  try simp only [Act.put, List.setIfInBounds_toArray, List.set_cons_zero, List.set_cons_succ]
  refine heldTake 11 (v := ?_) rfl (by kernel_rfl) (by kernel_rfl) (by kernel_rfl) (fun _ _ _ h => h) (Or.inl ⟨by rfl, ?_⟩) (by assumption) ?_
  rotate_left
  ·(intro w' hSw; (try dsimp only at hSw); have hS1 := hx17.trans hSw; have hSS := Ext.refl w'; go_simp; try with_reducible rfl)
  try simp only [Act.put, List.setIfInBounds_toArray, List.set_cons_zero, List.set_cons_succ]
  refine heldTake 12 (v := ?_) rfl (by kernel_rfl) (by kernel_rfl) (by kernel_rfl) (fun _ _ _ h => h) (Or.inl ⟨by rfl, ?_⟩) (by assumption) ?_
  rotate_left
  ·(intro w' hSw; (try dsimp only at hSw); have hS1 := hx17.trans hSw; have hSS := Ext.refl w'; go_simp; try with_reducible rfl)
  try simp only [Act.put, List.setIfInBounds_toArray, List.set_cons_zero, List.set_cons_succ]
  refine heldTake 13 (v := ?_) rfl (by kernel_rfl) (by kernel_rfl) (by kernel_rfl) (fun _ _ _ h => h) (Or.inl ⟨by rfl, ?_⟩) (by assumption) ?_
  rotate_left
  ·(intro w' hSw; (try dsimp only at hSw); have hS1 := hx17.trans hSw; have hSS := Ext.refl w'; go_simp; try with_reducible rfl)
  try simp only [Act.put, List.setIfInBounds_toArray, List.set_cons_zero, List.set_cons_succ]
  refine heldTake 14 (v := ?_) rfl (by kernel_rfl) (by kernel_rfl) (by kernel_rfl) (fun _ _ _ h => h) (Or.inl ⟨by rfl, ?_⟩) (by assumption) ?_
  rotate_left
  ·(intro w' hSw; (try dsimp only at hSw); have hS1 := hx17.trans hSw; have hSS := Ext.refl w'; go_simp; try with_reducible rfl)
  try simp only [Act.put, List.setIfInBounds_toArray, List.set_cons_zero, List.set_cons_succ]
  refine heldTake 15 (v := ?_) rfl (by kernel_rfl) (by kernel_rfl) (by kernel_rfl) (fun _ _ _ h => h) (Or.inl ⟨by rfl, ?_⟩) (by assumption) ?_
  rotate_left
  ·(intro w' hSw; (try dsimp only at hSw); have hS1 := hx17.trans hSw; have hSS := Ext.refl w'; go_simp; try with_reducible rfl)
  try simp only [Act.put, List.setIfInBounds_toArray, List.set_cons_zero, List.set_cons_succ]
  refine heldTake 16 (v := ?_) rfl (by kernel_rfl) (by kernel_rfl) (by kernel_rfl) (fun _ _ _ h => h) (Or.inl ⟨by rfl, ?_⟩) (by assumption) ?_
  rotate_left
  ·(intro w' hSw; (try dsimp only at hSw); have hS1 := hx17.trans hSw; have hSS := Ext.refl w'; go_simp; try with_reducible rfl)
  try simp only [Act.put, List.setIfInBounds_toArray, List.set_cons_zero, List.set_cons_succ]
  refine heldTake 17 (v := ?_) rfl (by kernel_rfl) (by kernel_rfl) (by kernel_rfl) (fun _ _ _ h => h) (Or.inl ⟨by rfl, ?_⟩) (by assumption) ?_
  rotate_left
  ·(intro w' hSw; (try dsimp only at hSw); have hS1 := hx17.trans hSw; have hSS := Ext.refl w'; go_simp; try with_reducible rfl)
  try simp only [Act.put, List.setIfInBounds_toArray, List.set_cons_zero, List.set_cons_succ]
  have hu9 := HUN.out w9 (hxw7.trans hx79)
  refine wpAnyH_ready (rs := [18]) (by kernel_rfl) (by simp) ?_
  refine AllReadyH.cons rfl (fun K hK => ?_) AllReadyH.nil
  go_simp
  go_at_call 29
  refine hu9.mono ?_
  rintro e w10 ⟨rfl, hx10⟩
  have hx710 := hx79.trans hx10
  refine hK.out _ _ ?_ (fun hHeld4 => ?_)
  ·exact hx710
  clear hK K
  try simp only [Act.put, List.setIfInBounds_toArray, List.set_cons_zero, List.set_cons_succ]
  refine heldTake 19 (v := ?_) rfl (by kernel_rfl) (by kernel_rfl) (by kernel_rfl) (fun _ _ _ h => h) (Or.inl ⟨by rfl, ?_⟩) (by assumption) ?_
  rotate_left
  ·(intro w' hSw; (try dsimp only at hSw); have hS1 := hx17.trans hSw; have hSS := Ext.refl w'; go_simp; try with_reducible rfl)
  try simp only [Act.put, List.setIfInBounds_toArray, List.set_cons_zero, List.set_cons_succ]
  refine heldTake 20 (v := ?_) rfl (by kernel_rfl) (by kernel_rfl) (by kernel_rfl) (fun _ _ _ h => h) (Or.inl ⟨by rfl, ?_⟩) (by assumption) ?_
  rotate_left
  ·(intro w' hSw; (try dsimp only at hSw); have hS1 := hx17.trans hSw; have hSS := Ext.refl w'; go_simp; try with_reducible rfl)
  try simp only [Act.put, List.setIfInBounds_toArray, List.set_cons_zero, List.set_cons_succ]
  refine wpAnyH_done (by kernel_rfl) ?_ _
  clear hHeld hHeld2 hHeld3 hHeld4 hsm hu9 hE8 hq8 c6n l6n d3
  have hx110 := hx17.trans hx710
  have hxw10 := hxw7.trans hx710
  clear hx17 hxw7 hx710 hx79 hx78 hx8 hx9 hx10 hx66 hx6 hx16 hxw6 hx67 hxw5 hx15
  go_wp2_with fail
  go_at_call 30
  refine (HRC.out w10 hxw10 HV.out).mono ?_
  rintro e w11 ⟨bc, rfl, hbc, hx11a⟩
  have hxw11 := hxw10.trans hx11a
  have hx111 := hx110.trans hx11a
  obtain rfl : bc = true := hbc.2 HIC.out
  have hrv := HRVL.out w11 hxw11 HOK.out HIC.out
  rw [← HXV.out] at hrv
  have dv : (xv == xv) = true := by simp
  clear hbc
  go_wp2_with fail
  go_at_call 31
  refine hrv.mono ?_
  rintro e w12 ⟨rfl, hx12a⟩
  have hxw12 := hxw11.trans hx12a
  clear hrv
  go_wp2_with fail
  go_ret
  exact ⟨rfl, hxw12⟩
set_option maxRecDepth 100000 in
theorem lifted (os : Os) (started : os.Started) (H : Type) (enc : TypeId × Value → H) :
    ReturnsInHanded {} Tryz.checked os 4 .any (Rows.sumsValuesSpec.pre6 enc Tryz.prog Tryz.f4 Rows.sumsValuesRow.domain false) (Rows.sumsValuesSpec.post enc Tryz.prog Tryz.f4 false true false false) := by
 refine returnsInHanded_of_change_sized (C := Tryz.checked) own14 started (by kernel_rfl) Tryz.func4
  (ChangeSpec.witness6 (enc := enc) (C := Tryz.checked) false ⟨#[], #[.agg #[.slice none 0 0], .slice none 0 0, .slice none 0 0], []⟩ 8 (by kernel_rfl) (by kernel_rfl) (by kernel_rfl) (by kernel_rfl)) ?_
 intro W base args ds gs before hval0 hW _ hsz0 _
 have hsz1 : (DataW.weightsEach Tryz.prog (Tryz.f4.params.toList ++ Rows.sumsValuesSpec.plain.varTypes Tryz.prog) (ds ++ gs)).all (· ≤ reachBytes) = true := hsz0
 clear hsz0
 have hval : ∀ (j : Nat) t v, Tryz.f4.params[j]? = some t → args[j]? = some v → Value.okWide Tryz.prog W .any base t v := hval0
 have hW' := hW
 obtain ⟨p, q, hA0, hV, rfl, hfz, hnd⟩ := hW
 have hA : DataW.TrodAll enc Tryz.prog W 0 (fun _ => true) true Tryz.f4.params.toList args.toList ds p := hA0
 rw [Tryz.params4] at hA hval hsz1
 obtain ⟨v0, vs0, d0, ds0, p0, q0, hargs, rfl, rfl, h0, r0⟩ := trodAll_cons hA
 obtain ⟨v1, vs1, d1, ds1, p1, q1, rfl, rfl, rfl, h1, r1⟩ := trodAll_cons r0
 obtain ⟨v2, vs2, d2, ds2, p2, q2, rfl, rfl, rfl, h2, r2⟩ := trodAll_cons r1
 obtain ⟨rfl, rfl, rfl⟩ := trodAll_nil r2
 obtain rfl : args = #[v0, v1, v2] := by cases args; simp_all
 obtain ⟨rfl, rfl⟩ := trodVars_none hV
 obtain ⟨T0, rfl, hT0⟩ := arg_trace (hval 0 24 v0 rfl rfl) h0 (small_of hsz1 (j := 0) rfl rfl)
 obtain ⟨C1, rfl, hC1⟩ := arg_nums (hval 1 28 v1 rfl rfl) h1 (small_of hsz1 (j := 1) rfl rfl)
 obtain ⟨D2, rfl, hD2⟩ := arg_terms (hval 2 25 v2 rfl rfl) h2 (small_of hsz1 (j := 2) rfl rfl)
 clear hA0 hval0 hsz1
 simp only [List.append_nil] at hW'
 have hl2 : ∀ x ∈ p2, x.block < W.heap.size := fun x hx => hW'.lt x (by simp [hx])
 have hl1 : ∀ x ∈ p1, x.block < W.heap.size := fun x hx => hW'.lt x (by simp [hx])
 have hl0 : ∀ x ∈ p0, x.block < W.heap.size := fun x hx => hW'.lt x (by simp [hx])
 refine (walk T0 C1 D2 W hT0 hC1 hD2).mono fun e W' ⟨he, hg⟩ => ?_
 subst he
 exact ⟨_, rfl, post_ext1 (pa := (p0 ++ (p1 ++ (p2 ++ [])))) (pv := []) hW' (fun _ _ _ => (trodAll_cons_mk (shut_bool Tryz.underlying4 _) trodAll_mk0)) (trodAll_cons_mk (Below.trod laid14 (by kernel_rfl) (of_decide_eq_true (by kernel_rfl)) h0 hg.below hl0) (trodAll_cons_mk (Below.trod laid14 (by kernel_rfl) (of_decide_eq_true (by kernel_rfl)) h1 hg.below hl1) (trodAll_cons_mk (Below.trod laid14 (by kernel_rfl) (of_decide_eq_true (by kernel_rfl)) h2 hg.below hl2) trodAll_mk0))) rfl hg⟩
theorem j0 : (Rows.sumsValuesRow.wf (OpenSpec.ofChange Rows.sumsValuesSpec)) = true := by kernel_rfl
theorem j1 : (laidOutB Tryz.pinned.checked.prog) = true := by kernel_rfl
theorem j2 : (mapsRowed Tryz.pinned.checked.prog) = true := by kernel_rfl
theorem j3 : (Tryz.f4.params.all (Tryz.pinned.checked.prog.readableRec ·)) = true := by kernel_rfl
theorem j4 : (namedTie Tryz.pinned.checked.prog Rows.sumsValuesRow.named Rows.sumsValuesSpec.vars) = true := by kernel_rfl
theorem j5 : (Rows.sumsValuesRow.stops == []) = true := by kernel_rfl
theorem j6 : (Tryz.pinned.checked.prog.stops == []) = true := by kernel_rfl
theorem j7 : (Rows.sumsValuesRow.knobs == []) = true := by kernel_rfl
theorem j8 : (Tryz.pinned.checked.prog.stopKnobs == []) = true := by kernel_rfl
theorem j9 : (Rows.sumsValuesRow.inPlace == Tryz.pinned.checked.prog.inPlace 4) = true := by kernel_rfl
theorem j10 : (Rows.sumsValuesRow.unfollowed == Tryz.pinned.checked.prog.unfollowed 4) = true := by kernel_rfl
theorem j11 : (Rows.sumsValuesRow.recurses == Tryz.pinned.checked.prog.recurses 4) = true := by kernel_rfl
theorem j12 : (Rows.sumsValuesRow.named == Tryz.pinned.checked.prog.varsNamed 4) = true := by kernel_rfl
theorem j13 : (Rows.sumsValuesRow.maps == (Tryz.f4.params.toList ++ Rows.sumsValuesSpec.plain.varTypes Tryz.pinned.checked.prog).any (Tryz.pinned.checked.prog.mapsRec ·)) = true := by kernel_rfl
theorem j14 : (Rows.sumsValuesRow.ifaces == (Tryz.f4.params.toList ++ Rows.sumsValuesSpec.plain.varTypes Tryz.pinned.checked.prog).any (Tryz.pinned.checked.prog.ifacesRec ·)) = true := by kernel_rfl
theorem j15 : (Rows.sumsValuesRow.mapsOut == Tryz.pinned.checked.prog.mapsAmong Tryz.f4.resultTypes.toList) = true := by kernel_rfl
theorem j16 : (Rows.sumsValuesRow.loops == (Tryz.f4.params.toList ++ Rows.sumsValuesSpec.plain.varTypes Tryz.pinned.checked.prog).any (Tryz.pinned.checked.prog.loopsFrom ·)) = true := by kernel_rfl
theorem j17 : (Rows.sumsValuesRow.wideKeys == (Tryz.f4.params.toList ++ Rows.sumsValuesSpec.plain.varTypes Tryz.pinned.checked.prog ++ Tryz.f4.resultTypes.toList).any (Tryz.pinned.checked.prog.wideKeysFrom ·)) = true := by kernel_rfl
theorem j18 : (Rows.sumsValuesSpec.vars.all (Tryz.pinned.checked.prog.varReadable ·)) = true := by kernel_rfl
theorem j19 : (Tryz.f4.resultTypes.all (fun t => Tryz.pinned.checked.prog.readableRec t && decide (t < Tryz.pinned.checked.prog.types.size))) = true := by kernel_rfl
theorem j20 : (Rows.sumsValuesRow.ifacesOut == Tryz.f4.resultTypes.toList.any (Tryz.pinned.checked.prog.ifacesRec ·)) = true := by kernel_rfl
theorem j21 : (Rows.sumsValuesRow.loopsOut == Tryz.f4.resultTypes.toList.any (Tryz.pinned.checked.prog.loopsFrom ·)) = true := by kernel_rfl
theorem j22 : (Rows.sumsValuesRow.plainKeys == Tryz.pinned.checked.prog.plainKeys) = true := by kernel_rfl
theorem j23 : (Rows.sumsValuesRow.shortTexts.isNone) = true := by kernel_rfl
theorem j24 : (Tryz.pinned.checked.prog.stopsHeard) = true := by kernel_rfl
theorem j25 : (Tryz.pinned.checked.prog.mayEnter) = true := by kernel_rfl
theorem j26 : (Rows.sumsValuesRow.lifted == Tryz.pinned.checked.prog.liftsFinal) = true := by kernel_rfl
theorem j27 : (Tryz.pinned.checked.prog.make == some Rows.sumsValuesRow.make) = true := by kernel_rfl
theorem j28 : (Rows.sumsValuesRow.kinds == (if Rows.sumsValuesRow.domain.isEmpty then [] else Tryz.f4.params.toList.map fun t => match Tryz.pinned.checked.prog.underlying t with | some (.int k) => some k | _ => none)) = true := by kernel_rfl
theorem j29 : (Rows.sumsValuesRow.pinned == Rows.sumsValuesRow.pinnedBy) = true := by kernel_rfl
theorem j30 : (Rows.sumsValuesRow.veiled == (Tryz.f4.params.toList ++ Rows.sumsValuesSpec.plain.varTypes Tryz.pinned.checked.prog ++ Tryz.f4.resultTypes.toList).any (Tryz.pinned.checked.prog.veiledRec ·)) = true := by kernel_rfl
theorem j31 : (Rows.sumsValuesRow.veiledFits Tryz.pinned.checked.prog Tryz.f4.params.toList (Tryz.f4.params.toList ++ Rows.sumsValuesSpec.plain.varTypes Tryz.pinned.checked.prog ++ Tryz.f4.resultTypes.toList)) = true := by kernel_rfl
set_option maxRecDepth 100000 in
theorem closed : joinedFacts Tryz.pinned.checked.prog 4 Tryz.f4 Rows.sumsValuesSpec Rows.sumsValuesRow = true := by
 unfold joinedFacts
 rw [j0, j1, j2, j3, j4, j5, j6, j7, j8, j9, j10, j11, j12, j13, j14, j15, j16, j17, j18, j19, j20, j21, j22, j23, j24, j25, j26, j27, j29, j30, j31]
 simp only [Bool.true_and, Bool.and_true]
 first | exact j28 | kernel_rfl
theorem over : Rows.sumsValuesRow.holds Tryz.pinned (OpenSpec.ofChange Rows.sumsValuesSpec) :=
 OpenClaim.holds_of_wide 4 Tryz.f4 rfl rfl rfl rfl rfl rfl rfl ⟨rfl, rfl, rfl, rfl, rfl⟩ rfl rfl rfl rfl rfl (by kernel_rfl) Tryz.func4 closed
  (of_decide_eq_true (by kernel_rfl)) (by unfold Func.isWrapper; first | (rw [if_pos (by decide +kernel)]; kernel_rfl) | (rw [if_neg (by decide +kernel)]; exact ⟨rfl, rfl⟩))
  (fun os started H enc _ => lifted os started H enc)
theorem proved : Rows.SumsValuesSaid :=
 over
#print axioms proved
end Go.Proofs.YtnknkkmdbnaglaaGreat.sumsValues
