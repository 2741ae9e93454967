/-
  PROVED HERE: 'ReplayPermits' returns true for every trace, list of syncs and list of numbers, in every memory: no condition.
  (The row's step follows the shell that the kit's program wrote for 'LamportSteps'.)
-/
import Derived.Test.YtkhgpockmaghjaaGreatRows
import Derived.WalkKit
import Derived.Test.YtkhgpockmaghjaaGreatQ67
import Derived.Test.YtkhgpockmaghjaaGreatQ74
import Derived.Test.YtkhgpockmaghjaaGreatQ51
import Derived.Test.YtkhgpockmaghjaaGreatQ20
import Derived.Test.YtkhgpockmaghjaaGreatQ73
namespace Go.Proofs.YtkhgpockmaghjaaGreat.replayPermits
open Go.ChangeShapes Go.WideShapes Go.ChangeAt Go.RowKit Go.Shelf Go.Proofs.YtkhgpockmaghjaaGreat
set_option linter.unusedVariables false
def TruePost (w : World) (e : Ending) (w' : World) : Prop := e = .returned (.bool true) ∧ Ext w w'
theorem natInts_row (l : List Nat) : intCells (natInts l) = intCells ((List.range l.length).map fun i => ((fn l i : Nat) : Int)) := by
 have h : natInts l = (List.range l.length).map fun i => ((fn l i : Nat) : Int) := by
  refine List.ext_getElem (by simp [natInts]) fun i h1 h2 => ?_
  have hi : i < l.length := by simpa [natInts] using h1
  simp [natInts, fn, hi]
 rw [h]
theorem que_num {w : World} {base n : Nat} {q : Value} {u : Nat → Nat} (h : Que w base 1 q n (intCells ((List.range n).map fun i => ((u i : Nat) : Int)))) (hn : n ≤ 140737488355328) : ∃ a g o c, q = .slice a n c ∧ NumAt w n a g o (natV u) := by
 obtain ⟨a, g, o, c, h1, _, h3, h4⟩ := h.cells1
 refine ⟨a, g, o, c, h1, hn, fun h0 => (h3 h0).1, fun h0 => (h3 h0).2.2, fun k hk => ?_⟩
 rw [h4 k hk]
 simp [intCells, hk, natV]
inductive Ans (T : Tr) (L : List Syn) (n : Nat) (v : Nat → Int) (r f : Int) : Prop
 | err (h0 : r ≠ 0) (hf : f = r) (hc : ¬ (PFault T L (n = T.n) (¬ T.InR T.n v) 0 ∧ T.IsCut T.n v ∧ PerP L v))
 | cut (h0 : r = 0) (hn : ¬ (T.IsCut T.n v ∧ PerP L v)) (hf : f = 18) (hc : ¬ (PFault T L (n = T.n) (¬ T.InR T.n v) 0 ∧ T.IsCut T.n v ∧ PerP L v))
 | ok (h0 : r = 0) (hc : T.IsCut T.n v ∧ PerP L v) (hf : f = 0) (hp : PFault T L (n = T.n) (¬ T.InR T.n v) 0)
theorem ans_of {T : Tr} {L : List Syn} {n : Nat} {v : Nat → Int} {r f : Int} (hr : PFault T L (n = T.n) (¬ T.InR T.n v) r) (hf : CutFlt T L n v f) : Ans T L n v r f := by
 obtain ⟨q, hq, h⟩ := hf
 obtain rfl := hr.uniq hq Iff.rfl Iff.rfl
 rcases h with ⟨h0, rfl⟩ | ⟨h0, h1, h2, rfl⟩ | ⟨h0, h1, rfl⟩
 ·exact .err h0 rfl fun h => h0 (hr.uniq h.1 Iff.rfl Iff.rfl)
 ·subst h0
  have hok := hr.ok
  have hR : T.InR T.n v := Classical.byContradiction hok.2.2.2.1
  exact .ok rfl ⟨⟨⟨hok.1.1, rfl⟩, hR, h1⟩, h2⟩ rfl hr
 ·exact .cut h0 (fun h => h1 ⟨h.1.2.2, h.2⟩) rfl (fun h => h1 ⟨h.2.1.2.2, h.2.2⟩)
set_option maxRecDepth 100000 in
set_option maxHeartbeats 8000000 in
theorem walk (T : TM) (D : SyD) (C : IntD) (w : World) (hT : T.At w) (hD : D.At w) (hC : C.At w) :
    Calls Tryz.prog 4 #[T.val, .slice D.s.a D.s.n D.s.c, .slice C.s.a C.s.n C.s.c] w (TruePost w) := by
 have HT := Lib.hid hT
 have HD := Lib.hid hD
 have hCN := hC.num
 have hdn := hD.hn
 have hcn := hCN.hn
 have HCN := Lib.hid hCN
 have HBIG := Lib.hid (fun W (x : Ext w W) => big_any W T (hT.ext x) D.s.a D.s.n D.s.c hdn)
 have HFL := Lib.hid (fun W (x : Ext w W) b => rfault45_any W T (hT.ext x) D (hD.ext x) b)
 have HCF := Lib.hid (fun W (x : Ext w W) => rcutfault_any W T (hT.ext x) D (hD.ext x) C.s.a C.s.b C.s.o C.s.n C.s.c C.z (hCN.ext x))
 have HNX := Lib.hid (fun W (x : Ext w W) => pnext_any W T (hT.ext x) D (hD.ext x) C.s.a C.s.b C.s.o C.s.n C.s.c C.z (hCN.ext x))
 have HVA := Lib.hid (fun W (x : Ext w W) (h : BigNo T.toTr D.s.n) => pvalid_any W T (hT.ext x) (by have := h.n; omega) D (hD.ext x))
 have HCO := Lib.hid (fun W (x : Ext w W) => pconsistent_any W T (hT.ext x) D (hD.ext x) C.s.a C.s.b C.s.o C.s.n C.s.c C.z (hCN.ext x))
 have HRN := Lib.hid (fun W (x : Ext w W) hV hL (e : C.s.n = T.n) (hR : T.toTr.InR T.n C.z) => (show Calls Tryz.prog 23 #[T.val, .slice D.s.a D.s.n D.s.c, .slice C.s.a C.s.n C.s.c] W (fun e w' => Ext W w' ∧ ∃ q, e = .returned q ∧ Que w' W.heap.size 1 q (T.toTr.pnL D.l (fun p => (C.z p).toNat) T.n).length (intCells (natInts (T.toTr.pnL D.l (fun p => (C.z p).toNat) T.n)))) from by
  rw [e]
  refine rnext45_any W T (hT.ext x) hV D (hD.ext x) hL C.s.a C.s.b C.s.o C.s.c (fun p => (C.z p).toNat) ?_ (fun p hp => by have := hR p hp; show (C.z p).toNat ≤ _; omega)
  have h := hCN.ext x
  rw [e] at h
  exact ⟨h.hn, h.pa, h.pb, fun k hk => by rw [h.c k hk]; have := hR k hk; simp only [natV]; congr 2; omega⟩))
 obtain ⟨ta, hta⟩ : ∃ z, z = T.a := ⟨_, rfl⟩
 obtain ⟨da, hda⟩ : ∃ z, z = D.s.a := ⟨_, rfl⟩
 obtain ⟨dn, hdn'⟩ : ∃ z, z = D.s.n := ⟨_, rfl⟩
 obtain ⟨ca, hca⟩ : ∃ z, z = C.s.a := ⟨_, rfl⟩
 obtain ⟨cn, hcn'⟩ : ∃ z, z = C.s.n := ⟨_, rfl⟩
 simp only [TM.val, ← hta] at HBIG HFL HCF HNX HVA HCO HRN ⊢
 rw [← hda, ← hdn'] at HBIG HFL HCF HNX HVA HCO HRN
 rw [← hdn'] at hdn
 rw [← hca, ← hcn'] at HCF HNX HCO HRN
 rw [← hcn'] at hcn
 rw [← hda, ← hdn', ← hca, ← hcn']
 clear hT hD hC hCN hta hda hdn' hca hcn'
 go_enter Tryz.func4, Tryz.ntmps4
 go_upto_region 1 with fail
 refine boxed1 (w := w) (G := fun x => Code.wp _ _ _ _ x) ?_
 intro w1 hx1 hs1 ⟨l0, c0, _, _⟩
 have hx11 : Ext w1 w1 := Ext.refl _
 clear hs1
 go_wp2_with fail
 go_at_call 9
 refine (awake45_any w1).mono ?_
 rintro e w2 ⟨rfl, hx2⟩
 have hxw2 := hx1.trans hx2
 go_wp2_with fail
 go_at_call 10
 refine (HBIG.out w2 hxw2).mono ?_
 rintro e w3 ⟨bb, rfl, hbb, hx3⟩
 have hxw3 := hxw2.trans hx3
 have hx13 := hx2.trans hx3
 cases bb with
 | true =>
  clear hbb
  go_wp2_with fail
  go_ret
  exact ⟨rfl, hxw3⟩
 | false =>
 have HB := Lib.hid (hbb rfl)
 clear hbb
 by_cases h20 : 20 < cn
 ·have b2 : decide ((20 : Int) < (cn : Int)) = true := decide_eq_true (by omega)
  have b2' : decide (20 < cn) = true := decide_eq_true h20
  go_wp2_with fail
  go_ret
  exact ⟨rfl, hxw3⟩
 have b2 : decide ((20 : Int) < (cn : Int)) = false := decide_eq_false (by omega)
 have b2' : decide (20 < cn) = false := decide_eq_false h20
 clear hx2 hx3 hxw2
 go_wp2_with fail
 go_at_call 13
 refine (HFL.out w3 hxw3 false).mono ?_
 rintro e w4 ⟨hx4, r0, rfl, hf0⟩
 have hxw4 := hxw3.trans hx4
 have hx14 := hx13.trans hx4
 have HF0 := Lib.hid (show PFault T.toTr D.l True False r0 from hf0.congr Iff.rfl ⟨fun h => (by cases h), fun h => h.elim⟩)
 clear hf0 b2 b2' hx4 hx13
 go_wp2_with fail
 go_at_call 18
 refine (HCF.out w4 hxw4).mono ?_
 rintro e w5 ⟨hx5, f, rfl, hf⟩
 have hxw5 := hxw4.trans hx5
 have hx15 := hx14.trans hx5
 have HFF := Lib.hid hf
 clear hf hx5 hx14
 go_wp2_with fail
 go_at_call 19
 refine (HNX.out w5 hxw5).mono ?_
 rintro e w6 ⟨hx6, r, hr, hp⟩
 have hxw6 := hxw5.trans hx6
 have hx16 := hx15.trans hx6
 have HAN := Lib.hid (ans_of hr HFF.out)
 clear hx6 hx15 hr
 obtain ⟨bv, hbv⟩ := exists_bool (PFault T.toTr D.l True False 0)
 have hva := bool_fix (HVA.out w6 hxw6 (by rw [show dn = dn from rfl]; exact HB.out)) hbv
 have d1 : (r0 == 0) = bv := by
  have h1 : r0 = 0 ↔ bv = true := by
   rw [hbv]
   exact ⟨fun h => by rw [← h]; exact HF0.out, fun h => HF0.out.uniq h Iff.rfl Iff.rfl⟩
  cases bv with
  | true => simpa using h1.2 rfl
  | false =>
   have : r0 ≠ 0 := fun h => by have := h1.1 h; cases this
   simpa using this
 clear hbv
 rcases hp with ⟨hr0, rfl⟩ | ⟨hr0, hnc, rfl⟩ | ⟨hr0, hyc, aN, cN, rfl, hqN⟩
 ·obtain ⟨rfl, hcc⟩ : f = r ∧ ¬ (PFault T.toTr D.l (cn = T.n) (¬ T.toTr.InR T.n C.z) 0 ∧ T.toTr.IsCut T.n C.z ∧ PerP D.l C.z) := by
    rcases HAN.out with ⟨_, h1, h2⟩ | ⟨h1, _⟩ | ⟨h1, _⟩
    ·exact ⟨h1, h2⟩
    ·exact absurd h1 hr0
    ·exact absurd h1 hr0
  have d2 : (f == 0) = false := by simpa using hr0
  have d2' : (f != 0) = true := by simpa using hr0
  have hco := fun W (x : Ext w W) => bool_fix (HCO.out W x) (b := false) ⟨fun h => (by cases h), fun h => absurd h hcc⟩
  clear hr0 hcc
  go_wp2_with fail
  go_at_call 20
  refine hva.mono ?_
  rintro e w7 ⟨rfl, hx7⟩
  have hxw7 := hxw6.trans hx7
  have hx17 := hx16.trans hx7
  have hx67 := hx7
  clear hva hx7
  go_wp2_with fail
  go_at_call 21
  refine (hco w7 hxw7).mono ?_
  rintro e w8 ⟨rfl, hx8⟩
  have hxw8 := hxw7.trans hx8
  clear hco
  go_wp2_with fail
  go_ret
  exact ⟨rfl, hxw8⟩
 ·obtain ⟨rfl, hcc⟩ : f = 18 ∧ ¬ (PFault T.toTr D.l (cn = T.n) (¬ T.toTr.InR T.n C.z) 0 ∧ T.toTr.IsCut T.n C.z ∧ PerP D.l C.z) := by
    rcases HAN.out with ⟨h1, _⟩ | ⟨_, _, h1, h2⟩ | ⟨_, h1, _⟩
    ·exact absurd hr0 h1
    ·exact ⟨h1, h2⟩
    ·exact absurd h1 hnc
  have hco := fun W (x : Ext w W) => bool_fix (HCO.out W x) (b := false) ⟨fun h => (by cases h), fun h => absurd h hcc⟩
  clear hr0 hcc hnc
  go_wp2_with fail
  go_at_call 20
  refine hva.mono ?_
  rintro e w7 ⟨rfl, hx7⟩
  have hxw7 := hxw6.trans hx7
  have hx17 := hx16.trans hx7
  have hx67 := hx7
  clear hva hx7
  go_wp2_with fail
  go_at_call 21
  refine (hco w7 hxw7).mono ?_
  rintro e w8 ⟨rfl, hx8⟩
  have hxw8 := hxw7.trans hx8
  clear hco
  go_wp2_with fail
  go_ret
  exact ⟨rfl, hxw8⟩
 ·obtain ⟨rfl, hpf⟩ : f = 0 ∧ PFault T.toTr D.l (cn = T.n) (¬ T.toTr.InR T.n C.z) 0 := by
    rcases HAN.out with ⟨h1, _⟩ | ⟨_, h1, _⟩ | ⟨_, _, h1, h2⟩
    ·exact absurd hr0 h1
    ·exact absurd hyc h1
    ·exact ⟨h1, h2⟩
  have hco := fun W (x : Ext w W) => bool_fix (HCO.out W x) (b := true) ⟨fun _ => ⟨hpf, hyc⟩, fun _ => rfl⟩
  have hok := hpf.ok
  have hrn := fun W (x : Ext w W) => HRN.out W x hok.1.1 hok.2.2.1 hok.1.2 (Classical.byContradiction hok.2.2.2.1)
  have HRN2 := Lib.hid hrn
  have hpl : (T.toTr.pnL D.l (fun p => (C.z p).toNat) T.n).length ≤ 1000 := by have := T.toTr.pnL_len D.l (fun p => (C.z p).toNat) T.n; have := HB.out.n; omega
  have HPL := Lib.hid hpl
  obtain ⟨ln, hln⟩ : ∃ z, z = (T.toTr.pnL D.l (fun p => (C.z p).toNat) T.n).length := ⟨_, rfl⟩
  have HLN := Lib.hid hln
  have HQN := Lib.hid hqN
  rw [← hln]
  clear hr0 hyc hpf hok hrn hqN hpl hln
  go_wp2_with fail
  go_at_call 20
  refine hva.mono ?_
  rintro e w7 ⟨rfl, hx7⟩
  have hxw7 := hxw6.trans hx7
  have hx17 := hx16.trans hx7
  have hx67 := hx7
  clear hva hx7
  go_wp2_with fail
  go_at_call 21
  refine (hco w7 hxw7).mono ?_
  rintro e w8 ⟨rfl, hx8⟩
  have hxw8 := hxw7.trans hx8
  have hx68 := hx67.trans hx8
  have hx18 := hx17.trans hx8
  clear hco
  go_wp2_with fail
  go_at_call 23
  refine (HRN2.out w8 hxw8).mono ?_
  rintro e w9 ⟨hx9, q, rfl, hq9⟩
  have hxw9 := hxw8.trans hx9
  have h9 := hq9
  rw [natInts_row] at h9
  obtain ⟨qa, qg, qo, qc, rfl, hnum⟩ := que_num h9 (by have := HPL.out; omega)
  have h6 := HQN.out.ext (hx68.trans hx9)
  rw [natInts_row] at h6
  obtain ⟨na, ng, no, nc, he, hnum2⟩ := que_num h6 (by have := HPL.out; omega)
  simp only [Value.slice.injEq] at he
  obtain ⟨rfl, _, rfl⟩ := he
  have heq := bool_fix (eqi_any w9 aN qa ng no qg qo _ _ cN qc _ _ hnum2 hnum) (b := true) ⟨fun _ => ⟨rfl, fun _ _ => rfl⟩, fun _ => rfl⟩
  rw [← HLN.out] at heq
  rw [← HLN.out]
  clear hq9 h9 h6 hnum hnum2
  go_wp2_with fail
  go_at_call 22
  refine heq.mono ?_
  rintro e w10 ⟨rfl, hx10⟩
  clear heq
  go_wp2_with fail
  go_ret
  exact ⟨rfl, (hxw9.trans hx10)⟩
set_option maxRecDepth 100000 in
theorem lifted (os : Os) (started : os.Started) (H : Type) (enc : TypeId × Value → H) :
    ReturnsInHanded {} Tryz.checked os 4 .any (Rows.replayPermitsSpec.pre6 enc Tryz.prog Tryz.f4 Rows.replayPermitsRow.domain false) (Rows.replayPermitsSpec.post enc Tryz.prog Tryz.f4 false true false false) := by
 refine returnsInHanded_of_change_sized (C := Tryz.checked) own14 started (by kernel_rfl) Tryz.func4
  (ChangeSpec.witness6 (enc := enc) (C := Tryz.checked) false ⟨#[], #[.agg #[.slice none 0 0], .slice none 0 0, .slice none 0 0], []⟩ 8 (by kernel_rfl) (by kernel_rfl) (by kernel_rfl) (by kernel_rfl)) ?_
 intro W base args ds gs before hval0 hW _ hsz0 _
 have hsz1 : (DataW.weightsEach Tryz.prog (Tryz.f4.params.toList ++ Rows.replayPermitsSpec.plain.varTypes Tryz.prog) (ds ++ gs)).all (· ≤ reachBytes) = true := hsz0
 clear hsz0
 have hval : ∀ (j : Nat) t v, Tryz.f4.params[j]? = some t → args[j]? = some v → Value.okWide Tryz.prog W .any base t v := hval0
 have hW' := hW
 obtain ⟨p, q, hA0, hV, rfl, hfz, hnd⟩ := hW
 have hA : DataW.TrodAll enc Tryz.prog W 0 (fun _ => true) true Tryz.f4.params.toList args.toList ds p := hA0
 rw [Tryz.params4] at hA hval hsz1
 obtain ⟨v0, vs0, d0, ds0, p0, q0, hargs, rfl, rfl, h0, r0⟩ := trodAll_cons hA
 obtain ⟨v1, vs1, d1, ds1, p1, q1, rfl, rfl, rfl, h1, r1⟩ := trodAll_cons r0
 obtain ⟨v2, vs2, d2, ds2, p2, q2, rfl, rfl, rfl, h2, r2⟩ := trodAll_cons r1
 obtain ⟨rfl, rfl, rfl⟩ := trodAll_nil r2
 obtain rfl : args = #[v0, v1, v2] := by cases args; simp_all
 obtain ⟨rfl, rfl⟩ := trodVars_none hV
 obtain ⟨T0, rfl, hT0⟩ := arg_trace (hval 0 24 v0 rfl rfl) h0 (small_of hsz1 (j := 0) rfl rfl)
 obtain ⟨D1, rfl, hD1⟩ := arg_syncs (hval 1 25 v1 rfl rfl) h1 (small_of hsz1 (j := 1) rfl rfl)
 obtain ⟨C2, rfl, hC2⟩ := arg_ints (hval 2 39 v2 rfl rfl) h2 (small_of hsz1 (j := 2) rfl rfl)
 clear hA0 hval0 hsz1
 simp only [List.append_nil] at hW'
 have hl2 : ∀ x ∈ p2, x.block < W.heap.size := fun x hx => hW'.lt x (by simp [hx])
 have hl1 : ∀ x ∈ p1, x.block < W.heap.size := fun x hx => hW'.lt x (by simp [hx])
 have hl0 : ∀ x ∈ p0, x.block < W.heap.size := fun x hx => hW'.lt x (by simp [hx])
 refine (walk T0 D1 C2 W hT0 hD1 hC2).mono fun e W' ⟨he, hg⟩ => ?_
 subst he
 exact ⟨_, rfl, post_ext1 (pa := (p0 ++ (p1 ++ (p2 ++ [])))) (pv := []) hW' (fun _ _ _ => (trodAll_cons_mk (shut_bool Tryz.underlying4 _) trodAll_mk0)) (trodAll_cons_mk (Below.trod laid14 (by kernel_rfl) (of_decide_eq_true (by kernel_rfl)) h0 hg.below hl0) (trodAll_cons_mk (Below.trod laid14 (by kernel_rfl) (of_decide_eq_true (by kernel_rfl)) h1 hg.below hl1) (trodAll_cons_mk (Below.trod laid14 (by kernel_rfl) (of_decide_eq_true (by kernel_rfl)) h2 hg.below hl2) trodAll_mk0))) rfl hg⟩
theorem j0 : (Rows.replayPermitsRow.wf (OpenSpec.ofChange Rows.replayPermitsSpec)) = true := by kernel_rfl
theorem j1 : (laidOutB Tryz.pinned.checked.prog) = true := by kernel_rfl
theorem j2 : (mapsRowed Tryz.pinned.checked.prog) = true := by kernel_rfl
theorem j3 : (Tryz.f4.params.all (Tryz.pinned.checked.prog.readableRec ·)) = true := by kernel_rfl
theorem j4 : (namedTie Tryz.pinned.checked.prog Rows.replayPermitsRow.named Rows.replayPermitsSpec.vars) = true := by kernel_rfl
theorem j5 : (Rows.replayPermitsRow.stops == []) = true := by kernel_rfl
theorem j6 : (Tryz.pinned.checked.prog.stops == []) = true := by kernel_rfl
theorem j7 : (Rows.replayPermitsRow.knobs == []) = true := by kernel_rfl
theorem j8 : (Tryz.pinned.checked.prog.stopKnobs == []) = true := by kernel_rfl
theorem j9 : (Rows.replayPermitsRow.inPlace == Tryz.pinned.checked.prog.inPlace 4) = true := by kernel_rfl
theorem j10 : (Rows.replayPermitsRow.unfollowed == Tryz.pinned.checked.prog.unfollowed 4) = true := by kernel_rfl
theorem j11 : (Rows.replayPermitsRow.recurses == Tryz.pinned.checked.prog.recurses 4) = true := by kernel_rfl
theorem j12 : (Rows.replayPermitsRow.named == Tryz.pinned.checked.prog.varsNamed 4) = true := by kernel_rfl
theorem j13 : (Rows.replayPermitsRow.maps == (Tryz.f4.params.toList ++ Rows.replayPermitsSpec.plain.varTypes Tryz.pinned.checked.prog).any (Tryz.pinned.checked.prog.mapsRec ·)) = true := by kernel_rfl
theorem j14 : (Rows.replayPermitsRow.ifaces == (Tryz.f4.params.toList ++ Rows.replayPermitsSpec.plain.varTypes Tryz.pinned.checked.prog).any (Tryz.pinned.checked.prog.ifacesRec ·)) = true := by kernel_rfl
theorem j15 : (Rows.replayPermitsRow.mapsOut == Tryz.pinned.checked.prog.mapsAmong Tryz.f4.resultTypes.toList) = true := by kernel_rfl
theorem j16 : (Rows.replayPermitsRow.loops == (Tryz.f4.params.toList ++ Rows.replayPermitsSpec.plain.varTypes Tryz.pinned.checked.prog).any (Tryz.pinned.checked.prog.loopsFrom ·)) = true := by kernel_rfl
theorem j17 : (Rows.replayPermitsRow.wideKeys == (Tryz.f4.params.toList ++ Rows.replayPermitsSpec.plain.varTypes Tryz.pinned.checked.prog ++ Tryz.f4.resultTypes.toList).any (Tryz.pinned.checked.prog.wideKeysFrom ·)) = true := by kernel_rfl
theorem j18 : (Rows.replayPermitsSpec.vars.all (Tryz.pinned.checked.prog.varReadable ·)) = true := by kernel_rfl
theorem j19 : (Tryz.f4.resultTypes.all (fun t => Tryz.pinned.checked.prog.readableRec t && decide (t < Tryz.pinned.checked.prog.types.size))) = true := by kernel_rfl
theorem j20 : (Rows.replayPermitsRow.ifacesOut == Tryz.f4.resultTypes.toList.any (Tryz.pinned.checked.prog.ifacesRec ·)) = true := by kernel_rfl
theorem j21 : (Rows.replayPermitsRow.loopsOut == Tryz.f4.resultTypes.toList.any (Tryz.pinned.checked.prog.loopsFrom ·)) = true := by kernel_rfl
theorem j22 : (Rows.replayPermitsRow.plainKeys == Tryz.pinned.checked.prog.plainKeys) = true := by kernel_rfl
theorem j23 : (Rows.replayPermitsRow.shortTexts.isNone) = true := by kernel_rfl
theorem j24 : (Tryz.pinned.checked.prog.stopsHeard) = true := by kernel_rfl
theorem j25 : (Tryz.pinned.checked.prog.mayEnter) = true := by kernel_rfl
theorem j26 : (Rows.replayPermitsRow.lifted == Tryz.pinned.checked.prog.liftsFinal) = true := by kernel_rfl
theorem j27 : (Tryz.pinned.checked.prog.make == some Rows.replayPermitsRow.make) = true := by kernel_rfl
theorem j28 : (Rows.replayPermitsRow.kinds == (if Rows.replayPermitsRow.domain.isEmpty then [] else Tryz.f4.params.toList.map fun t => match Tryz.pinned.checked.prog.underlying t with | some (.int k) => some k | _ => none)) = true := by kernel_rfl
theorem j29 : (Rows.replayPermitsRow.pinned == Rows.replayPermitsRow.pinnedBy) = true := by kernel_rfl
theorem j30 : (Rows.replayPermitsRow.veiled == (Tryz.f4.params.toList ++ Rows.replayPermitsSpec.plain.varTypes Tryz.pinned.checked.prog ++ Tryz.f4.resultTypes.toList).any (Tryz.pinned.checked.prog.veiledRec ·)) = true := by kernel_rfl
theorem j31 : (Rows.replayPermitsRow.veiledFits Tryz.pinned.checked.prog Tryz.f4.params.toList (Tryz.f4.params.toList ++ Rows.replayPermitsSpec.plain.varTypes Tryz.pinned.checked.prog ++ Tryz.f4.resultTypes.toList)) = true := by kernel_rfl
set_option maxRecDepth 100000 in
theorem closed : joinedFacts Tryz.pinned.checked.prog 4 Tryz.f4 Rows.replayPermitsSpec Rows.replayPermitsRow = true := by
 unfold joinedFacts
 rw [j0, j1, j2, j3, j4, j5, j6, j7, j8, j9, j10, j11, j12, j13, j14, j15, j16, j17, j18, j19, j20, j21, j22, j23, j24, j25, j26, j27, j29, j30, j31]
 simp only [Bool.true_and, Bool.and_true]
 first | exact j28 | kernel_rfl
theorem over : Rows.replayPermitsRow.holds Tryz.pinned (OpenSpec.ofChange Rows.replayPermitsSpec) :=
 OpenClaim.holds_of_wide 4 Tryz.f4 rfl rfl rfl rfl rfl rfl rfl ⟨rfl, rfl, rfl, rfl, rfl⟩ rfl rfl rfl rfl rfl (by kernel_rfl) Tryz.func4 closed
  (of_decide_eq_true (by kernel_rfl)) (by unfold Func.isWrapper; first | (rw [if_pos (by decide +kernel)]; kernel_rfl) | (rw [if_neg (by decide +kernel)]; exact ⟨rfl, rfl⟩))
  (fun os started H enc _ => lifted os started H enc)
theorem proved : Rows.ReplayPermitsSaid :=
 over
#print axioms proved
end Go.Proofs.YtkhgpockmaghjaaGreat.replayPermits
