/- Lists of terms that a call makes. Sums that are opposite, added, multiplied. Plain. Contracts: antecederef39.Opposite; slices.Grow and slices.Concat at api.Term. Contracts: slices.Grow and slices.Concat at api.Term (two lists). -/
import Derived.Test.YtnknkkmdbnaglaaGreatLa
import Derived.Test.YtnknkkmdbnaglaaGreatKa
import Derived.Test.YtnknkkmdbnaglaaGreatLb
import Derived.Test.YtnknkkmdbnaglaaGreatLh
import Derived.Test.YtnknkkmdbnaglaaGreatLl
import Derived.Test.YtnknkkmdbnaglaaGreatKk
namespace Go.Proofs.YtnknkkmdbnaglaaGreat
open Go.RowKit Go.Shelf
def trmCells (l : List Trm) : List Value := l.flatMap fun x => [.int .i64 x.1, .string x.2.1, .int .i64 x.2.2]
theorem trmCells_len (l : List Trm) : (trmCells l).length = l.length * 3 := by
 induction l with
 | nil => rfl
 | cons x l ih => simp only [trmCells, List.flatMap_cons, List.length_append, List.length_cons, List.length_nil] at ih ⊢; omega
theorem trmCells_snoc (l : List Trm) (t : Trm) : trmCells (l ++ [t]) = trmCells l ++ [.int .i64 t.1, .string t.2.1, .int .i64 t.2.2] := by simp [trmCells]
theorem trmCells_append (l m : List Trm) : trmCells (l ++ m) = trmCells l ++ trmCells m := by simp [trmCells]
theorem trmCells_get : ∀ (l : List Trm) (i : Nat) (x : Trm), l[i]? = some x → (trmCells l)[i * 3]? = some (.int .i64 x.1) ∧ (trmCells l)[i * 3 + 1]? = some (.string x.2.1) ∧ (trmCells l)[i * 3 + 2]? = some (.int .i64 x.2.2)
 | [], i, x, h => by simp at h
 | y :: l, 0, x, h => by
  simp at h
  subst h
  exact ⟨rfl, rfl, rfl⟩
 | y :: l, i + 1, x, h => by
  obtain ⟨h1, h2, h3⟩ := trmCells_get l i x (by simpa using h)
  have e0 : (i + 1) * 3 = i * 3 + 1 + 1 + 1 := by omega
  have e1 : (i + 1) * 3 + 1 = i * 3 + 1 + 1 + 1 + 1 := by omega
  have e2 : (i + 1) * 3 + 2 = i * 3 + 2 + 1 + 1 + 1 := by omega
  rw [e2, e1, e0]
  exact ⟨h1, h2, h3⟩
theorem trmCells_one (l : List Trm) : ∀ u ∈ trmCells l, u.oneCell' = true := by
 intro u hu
 unfold trmCells at hu
 obtain ⟨t, _, h⟩ := List.mem_flatMap.1 hu
 simp at h
 rcases h with rfl | rfl | rfl <;> rfl
theorem infoTerm : (Tryz.prog.info? 62).map (fun i => (i.zero, i.size, i.bytes)) = some (some (.agg #[.int .i64 0, .string ⟨#[]⟩, .int .i64 0]), 3, 32) := by kernel_rfl
def trmOk (l : List Trm) : Prop := ∀ x ∈ l, okI x.1 ∧ x.2.1.size ≤ 9223372036854775807 ∧ okI x.2.2
abbrev TmOwn (w : World) (base : Nat) (v : Value) (l : List Trm) : Prop := Que w base 3 v l.length (trmCells l)
theorem TmOwn.tmd {w : World} {base : Nat} {v : Value} {l : List Trm} (h : TmOwn w base v l) (hn : l.length ≤ 100000) (hk : trmOk l) : ∃ D : TmD, v = .slice D.s.a D.s.n D.s.c ∧ D.l = l ∧ D.At w := by
 have hl : ∀ a g off cap, (TmD.l ⟨⟨a, l.length, cap, g, off⟩, fun i => (l.getD i (0, ⟨#[]⟩, 0)).1, fun i => (l.getD i (0, ⟨#[]⟩, 0)).2.1, fun i => (l.getD i (0, ⟨#[]⟩, 0)).2.2⟩) = l := fun a g off cap => by
  apply List.ext_getElem?
  intro i
  by_cases hi : i < l.length
  ·rw [TmD.get _ hi]
   simp [TmD.at, List.getD_eq_getElem?_getD, List.getElem?_eq_getElem hi]
  ·rw [List.getElem?_eq_none (by rw [TmD.len]; exact Nat.le_of_not_lt hi), List.getElem?_eq_none (Nat.le_of_not_lt hi)]
 have hg : ∀ i, i < l.length → l[i]? = some (l.getD i (0, ⟨#[]⟩, 0)) ∧ l.getD i (0, ⟨#[]⟩, 0) ∈ l := fun i hi => by
  rw [List.getD_eq_getElem?_getD, List.getElem?_eq_getElem hi]
  exact ⟨rfl, List.getElem_mem hi⟩
 rcases h.val with ⟨ao, hv, h0, ha⟩ | ⟨g, off, cap, hv, h1, h2, h3, h4, h5, h6⟩
 ·refine ⟨_, ?_, hl ao 0 0 0, ⟨by show l.length ≤ _; omega, fun h => ?_, fun h => ?_, fun i hi => ?_, fun i hi => ?_, fun i hi => ?_, fun i hi => ?_, fun i hi => ?_, fun i hi => ?_⟩⟩
  ·rw [hv, h0]
  all_goals (first | (have h' : 0 < l.length := h; omega) | (have h' : i < l.length := hi; omega))
 ·have c : ∀ j u, (trmCells l)[j]? = some u → w.cell? ⟨g, off + j, none⟩ = some u := fun j u hu => by
    have hj := (List.getElem?_eq_some_iff.1 hu).1
    rw [trmCells_len] at hj
    exact (h5 j hj).trans hu
  refine ⟨_, hv, hl (some ⟨g, off, none⟩) g off cap, ⟨by show l.length ≤ _; omega, fun _ => rfl, fun _ => h2, fun i hi => ?_, fun i hi => ?_, fun i hi => ?_, fun i hi => (hk _ (hg i hi).2).1, fun i hi => (hk _ (hg i hi).2).2.1, fun i hi => (hk _ (hg i hi).2).2.2⟩⟩
  ·exact c _ _ (trmCells_get l i _ (hg i hi).1).1
  ·show w.cell? ⟨g, off + i * 3 + 1, none⟩ = _
   rw [Nat.add_assoc]; exact c _ _ (trmCells_get l i _ (hg i hi).1).2.1
  ·show w.cell? ⟨g, off + i * 3 + 2, none⟩ = _
   rw [Nat.add_assoc]; exact c _ _ (trmCells_get l i _ (hg i hi).1).2.2
theorem TmD.At.ok {D : TmD} {w : World} (h : D.At w) : trmOk D.l := by
 intro x hx
 obtain ⟨i, hi, rfl⟩ := TmD.mem.1 hx
 exact ⟨h.o0 i hi, h.o1 i hi, h.o2 i hi⟩
theorem trm_one (a : Int) (b : ByteArray) (c : Int) : ∀ u ∈ [Value.int .i64 a, .string b, .int .i64 c], u.oneCell' = true := by
 intro u hu
 simp at hu
 rcases hu with rfl | rfl | rfl <;> rfl
theorem TmD.At.cells {D : TmD} {w : World} (h : D.At w) (j : Nat) (u : Value) (hu : (trmCells D.l)[j]? = some u) : w.cell? ⟨D.s.b, D.s.o + j, none⟩ = some u := by
 have hj := (List.getElem?_eq_some_iff.1 hu).1
 rw [trmCells_len, D.len] at hj
 have hi : j / 3 < D.s.n := by omega
 obtain ⟨g0, g1, g2⟩ := trmCells_get D.l (j / 3) _ (D.get hi)
 have e : j = j / 3 * 3 ∨ j = j / 3 * 3 + 1 ∨ j = j / 3 * 3 + 2 := by omega
 rcases e with e | e | e
 ·rw [e] at hu ⊢
  rw [g0] at hu; cases hu
  exact h.c0 _ hi
 ·rw [e] at hu ⊢
  rw [g1] at hu; cases hu
  rw [← Nat.add_assoc]; exact h.c1 _ hi
 ·rw [e] at hu ⊢
  rw [g2] at hu; cases hu
  rw [← Nat.add_assoc]; exact h.c2 _ hi
theorem TmD.At.src {D : TmD} {w : World} (h : D.At w) : Src Tryz.prog 3 25 (.slice D.s.a D.s.n D.s.c) D.s.n (trmCells D.l) w := by
 by_cases h0 : 0 < D.s.n
 ·rw [h.ha h0]
  refine Src.ofSlice w Tryz.underlying25 ⟨D.s.b, D.s.o, none⟩ D.s.n D.s.c _ (by rw [trmCells_len, D.len]) (fun j u hu => ?_) (trmCells_one _)
  rw [Addr.add_lit]; exact h.cells j u hu
 ·have h1 : D.s.n = 0 := by omega
  have h2 : D.l = [] := List.eq_nil_of_length_eq_zero (by rw [D.len, h1])
  rw [h1, h2]
  cases D.s.a with
  | none => exact Src.ofNil w Tryz.underlying25 _
  | some a => exact Src.ofSlice w Tryz.underlying25 a 0 _ [] (by simp) (by intro _ _ h'; simp at h') (by intro u hu; cases hu)
end Go.Proofs.YtnknkkmdbnaglaaGreat

namespace Go.Proofs.YtnknkkmdbnaglaaGreat
open Go.RowKit
def oppL (l : List Trm) : List Trm := l.map fun x => (x.1, x.2.1, - x.2.2)
def timL (k : Int) (l : List Trm) : List Trm := l.map fun x => (x.1, x.2.1, x.2.2 * k)
theorem Tr.sumAt_cons (T : Tr) (x : Trm) (l : List Trm) (c : Nat → Nat) : T.sumAt (x :: l) c = x.2.2 * T.st (T.tedg x).1 (T.tedg x).2.1 (c (T.tedg x).1) + T.sumAt l c := rfl
theorem Tr.wt_cons (T : Tr) (x : Trm) (l : List Trm) (p i : Nat) : T.wt (x :: l) p i = (if (T.tedg x).1 = p then x.2.2 * (T.st p (T.tedg x).2.1 (i + 1) - T.st p (T.tedg x).2.1 i) else 0) + T.wt l p i := rfl
theorem Tr.sumAt_opp (T : Tr) (c : Nat → Nat) : ∀ l : List Trm, T.sumAt (oppL l) c = - T.sumAt l c
 | [] => rfl
 | x :: l => by
  have ih := T.sumAt_opp c l
  have e : oppL (x :: l) = (x.1, x.2.1, - x.2.2) :: oppL l := rfl
  rw [e, Tr.sumAt_cons, Tr.sumAt_cons, ih, Int.neg_add]
  congr 1
  exact Int.neg_mul _ _
theorem Tr.wt_opp (T : Tr) (p i : Nat) : ∀ l : List Trm, T.wt (oppL l) p i = - T.wt l p i
 | [] => rfl
 | x :: l => by
  have ih := T.wt_opp p i l
  have e : oppL (x :: l) = (x.1, x.2.1, - x.2.2) :: oppL l := rfl
  have e1 : (T.tedg (x.1, x.2.1, - x.2.2)).1 = (T.tedg x).1 := rfl
  have e2 : (T.tedg (x.1, x.2.1, - x.2.2)).2.1 = (T.tedg x).2.1 := rfl
  rw [e, Tr.wt_cons, Tr.wt_cons, ih, Int.neg_add, e1, e2]
  congr 1
  split
  ·exact Int.neg_mul _ _
  ·rfl
theorem Tr.sumAt_tim (T : Tr) (k : Int) (c : Nat → Nat) : ∀ l : List Trm, T.sumAt (timL k l) c = k * T.sumAt l c
 | [] => by show (0 : Int) = k * 0; simp
 | x :: l => by
  have ih := T.sumAt_tim k c l
  have e : timL k (x :: l) = (x.1, x.2.1, x.2.2 * k) :: timL k l := rfl
  rw [e, Tr.sumAt_cons, Tr.sumAt_cons, ih, Int.mul_add]
  congr 1
  show x.2.2 * k * _ = k * (x.2.2 * _)
  rw [Int.mul_comm x.2.2 k, Int.mul_assoc]; rfl
theorem Tr.sumAt_append (T : Tr) (c : Nat → Nat) (m : List Trm) : ∀ l : List Trm, T.sumAt (l ++ m) c = T.sumAt l c + T.sumAt m c
 | [] => by show T.sumAt m c = 0 + T.sumAt m c; omega
 | x :: l => by
  rw [List.cons_append, Tr.sumAt_cons, Tr.sumAt_cons, T.sumAt_append c m l, Int.add_assoc]
theorem iabs_neg (x : Int) : iabs (- x) = iabs x := by unfold iabs; split <;> split <;> omega
theorem Tr.SumOk.opp {T : Tr} {l : List Trm} (h : T.SumOk l) : T.SumOk (oppL l) := by
 refine ⟨h.v, by unfold oppL; rw [List.length_map]; exact h.len, fun x hx => ?_, fun x hx => ?_, h.few, ?_⟩
 ·obtain ⟨y, hy, rfl⟩ := List.mem_map.1 hx
  exact h.known y hy
 ·obtain ⟨y, hy, rfl⟩ := List.mem_map.1 hx
  have := h.coef y hy
  show -1048576 ≤ - y.2.2 ∧ - y.2.2 ≤ 1048576
  omega
 ·have e : T.mass (oppL l) T.n 0 = T.mass l T.n 0 := by
    unfold Tr.mass
    rw [Tr.sumAt_opp, iabs_neg]
    congr 1
    congr 1
    refine isum_congr fun p hp => isum_congr fun i hi => ?_
    rw [Tr.wt_opp, iabs_neg]
  rw [e]; exact h.mass
theorem Tr.wfn_opp {T : Tr} {l : List Trm} : T.wfn (oppL l) = fun v => - T.wfn l v := by
 funext v
 unfold Tr.wfn
 split
 ·rw [Tr.wt_opp]
 ·rfl
theorem Tr.SumOk.small {T : Tr} {l : List Trm} (h : T.SumOk l) {c : Nat → Nat} (hc : ∀ p, p < T.n → c p ≤ T.en p) : -562949953421312 ≤ T.sumAt l c ∧ T.sumAt l c ≤ 562949953421312 := by
 have h1 := (Tr.wfn_ok h).part (T.inCut c) (Nat.le_refl _)
 rw [Tr.atC_wsum hc fun x hx => Tr.inCut_iff hx, ← Tr.sumAt_atC h.known hc] at h1
 exact h1
theorem trmOk_tim {l : List Trm} (h : trmOk l) (hc : coefs l) {k : Int} (h1 : -128 ≤ k) (h2 : k ≤ 127) : trmOk (timL k l) := by
 intro x hx
 obtain ⟨y, hy, rfl⟩ := List.mem_map.1 hx
 refine ⟨(h y hy).1, (h y hy).2.1, ?_⟩
 have h3 := mul_abs (a := y.2.2) (b := k) (A := 1048576) (B := 128) (by have := hc y hy; omega) (by omega)
 show okI (y.2.2 * k)
 unfold okI
 omega
theorem trmOk_opp {l : List Trm} (h : trmOk l) (hc : coefs l) : trmOk (oppL l) := by
 intro x hx
 obtain ⟨y, hy, rfl⟩ := List.mem_map.1 hx
 refine ⟨(h y hy).1, (h y hy).2.1, ?_⟩
 have := hc y hy
 show okI (- y.2.2)
 unfold okI
 omega
theorem trmOk_append {l m : List Trm} (h : trmOk l) (k : trmOk m) : trmOk (l ++ m) := by
 intro x hx
 rcases List.mem_append.1 hx with hx | hx
 ·exact h x hx
 ·exact k x hx
end Go.Proofs.YtnknkkmdbnaglaaGreat

namespace Go.Proofs.YtnknkkmdbnaglaaGreat
open Go.RowKit Go.Shelf
def RoppPost (l : List Trm) (w : World) (e : Ending) (w' : World) : Prop := Ext w w' ∧ ∃ v, e = .returned v ∧ TmOwn w' w.heap.size v l
set_option maxRecDepth 100000 in
set_option maxHeartbeats 4000000 in
theorem ropp_any (w : World) (D : TmD) (hD : D.At w) (hc : coefs D.l) (hl : D.l.length ≤ 64) : Calls Tryz.prog 35 #[.slice D.s.a D.s.n D.s.c] w (RoppPost (oppL D.l) w) := by
 obtain ⟨i1, hi1, hz0, hz1, hz2⟩ := info_parts infoTerm
 have HD := Lib.hid hD
 have HCF := Lib.hid hc
 unfold RoppPost
 obtain ⟨da, hda⟩ : ∃ z, z = D.s.a := ⟨_, rfl⟩
 have HDA := Lib.hid hda
 obtain ⟨n, hn⟩ : ∃ n, n = D.s.n := ⟨_, rfl⟩
 have HN := Lib.hid hn
 have hn64 : n ≤ 64 := by rw [D.len] at hl; omega
 have HLN := Lib.hid (show D.l.length = n from by rw [D.len, hn])
 rw [← hda, ← hn]
 clear hD hc hl hda hn
 have hww : Ext w w := Ext.refl _
 go_enter Tryz.func35, Tryz.ntmps35
 go_wp2_with fail
 go_loopg [3, 4] n (fun gg v3 v4 wr => ∃ k : Nat, k ≤ n ∧ gg = n - k ∧ v4 = .int .i64 k ∧ wr.ownsRow w.heap.size 62 3 v3 k (trmCells (oppL (D.l.take k))) ∧ Ext w wr)
 case atStart => exact ⟨0, by omega, rfl, rfl, World.ownsRow_nil _ _ _ _, hww⟩
 case round =>
  obtain ⟨k, hk, rfl, rfl, hq, hxr⟩ := hrel
  obtain ⟨a6, c6, rfl⟩ := own_form hq
  have HQ := Lib.hid hq
  clear hq
  by_cases hlt : k < n
  ·have hlt' : (k : Int) < (n : Int) := by omega
   have hjs : k < D.s.n := by rw [← HN.out]; exact hlt
   obtain rfl : da = some ⟨D.s.b, D.s.o, none⟩ := by rw [HDA.out]; exact HD.out.ha (by omega)
   have hdb : ∀ w', Ext w w' → D.s.b < w'.heap.size := fun w' x => Nat.lt_of_lt_of_le (HD.out.hb (by omega)) x.le
   obtain ⟨pp, hpp⟩ : ∃ z, z = D.p k := ⟨_, rfl⟩
   obtain ⟨nm, hnm⟩ : ∃ z, z = D.nm k := ⟨_, rfl⟩
   obtain ⟨cc, hcc⟩ : ∃ z, z = D.c k := ⟨_, rfl⟩
   have q0 : ∀ w', Ext w w' → w'.cell? ⟨D.s.b, D.s.o + k * 3, none⟩ = some (.int .i64 pp) := fun w' x => by rw [hpp]; exact (HD.out.ext x).c0 k hjs
   have q1 : ∀ w', Ext w w' → w'.cell? ⟨D.s.b, D.s.o + k * 3 + 1, none⟩ = some (.string nm) := fun w' x => by rw [hnm]; exact (HD.out.ext x).c1 k hjs
   have q2 : ∀ w', Ext w w' → w'.cell? ⟨D.s.b, D.s.o + k * 3 + 2, none⟩ = some (.int .i64 cc) := fun w' x => by rw [hcc]; exact (HD.out.ext x).c2 k hjs
   have hcb := HCF.out (D.at k) (TmD.mem.2 ⟨k, hjs, rfl⟩)
   have e22 : (D.at k).2.2 = cc := hcc.symm
   rw [e22] at hcb
   have hw1 : IntKind.i64.wrap (- cc) = - cc := IntWalk.i64_in _ (by omega)
   have HNX := Lib.hid (show trmCells (oppL (D.l.take (k + 1))) = trmCells (oppL (D.l.take k)) ++ [.int .i64 pp, .string nm, .int .i64 (- cc)] from by
    rw [List.take_add_one, D.get hjs]
    show trmCells (oppL (D.l.take k ++ [D.at k])) = _
    have : oppL (D.l.take k ++ [D.at k]) = oppL (D.l.take k) ++ [(pp, nm, - cc)] := by simp [oppL, TmD.at, hpp, hnm, hcc]
    rw [this, trmCells_snoc])
   clear hpp hnm hcc e22
   go_upto_region 5 with fail
   refine wp_region_held_drew (S := fun w' => Ext w w') (by kernel_rfl) hxr.drew (fun hHeld => ?_)
   refine heldTake 0 (v := ?_) rfl (by kernel_rfl) (by kernel_rfl) (by kernel_rfl) (fun _ _ _ h => h) (Or.inl ⟨by rfl, ?_⟩) (by assumption) ?_
   rotate_left
   ·(intro w' hSw; (try dsimp only at hSw); go_simp; try with_reducible rfl)
   try simp only [Act.put, List.setIfInBounds_toArray, List.set_cons_zero, List.set_cons_succ]
   refine heldTake 1 (v := ?_) rfl (by kernel_rfl) (by kernel_rfl) (by kernel_rfl) (fun _ _ _ h => h) (Or.inl ⟨by rfl, ?_⟩) (by assumption) ?_
   rotate_left
   ·(intro w' hSw; (try dsimp only at hSw); go_simp; try with_reducible rfl)
   try simp only [Act.put, List.setIfInBounds_toArray, List.set_cons_zero, List.set_cons_succ]
   refine heldTake 2 (v := ?_) rfl (by kernel_rfl) (by kernel_rfl) (by kernel_rfl) (fun _ _ _ h => h) (Or.inl ⟨by rfl, ?_⟩) (by assumption) ?_
   rotate_left
   ·(intro w' hSw; (try dsimp only at hSw); go_simp; try with_reducible rfl)
   try simp only [Act.put, List.setIfInBounds_toArray, List.set_cons_zero, List.set_cons_succ]
   refine heldTake 3 (v := ?_) rfl (by kernel_rfl) (by kernel_rfl) (by kernel_rfl) (fun _ _ _ h => h) (Or.inl ⟨by rfl, ?_⟩) (by assumption) ?_
   rotate_left
   ·(intro w' hSw; (try dsimp only at hSw); go_simp; try with_reducible rfl)
   try simp only [Act.put, List.setIfInBounds_toArray, List.set_cons_zero, List.set_cons_succ]
   refine heldTake 4 (v := ?_) rfl (by kernel_rfl) (by kernel_rfl) (by kernel_rfl) (fun _ _ _ h => h) (Or.inl ⟨by rfl, ?_⟩) (by assumption) ?_
   rotate_left
   ·(intro w' hSw; (try dsimp only at hSw); go_simp; try with_reducible rfl)
   try simp only [Act.put, List.setIfInBounds_toArray, List.set_cons_zero, List.set_cons_succ]
   refine heldTake 5 (v := ?_) rfl (by kernel_rfl) (by kernel_rfl) (by kernel_rfl) (fun _ _ _ h => h) (Or.inl ⟨by rfl, ?_⟩) (by assumption) ?_
   rotate_left
   ·(intro w' hSw; (try dsimp only at hSw); go_simp; try with_reducible rfl)
   try simp only [Act.put, List.setIfInBounds_toArray, List.set_cons_zero, List.set_cons_succ]
   refine heldTake 6 (v := ?_) rfl (by kernel_rfl) (by kernel_rfl) (by kernel_rfl) (fun _ _ _ h => h) (Or.inl ⟨by rfl, ?_⟩) (by assumption) ?_
   rotate_left
   ·(intro w' hSw; (try dsimp only at hSw); go_simp; try with_reducible rfl)
   try simp only [Act.put, List.setIfInBounds_toArray, List.set_cons_zero, List.set_cons_succ]
   refine heldTake 7 (v := ?_) rfl (by kernel_rfl) (by kernel_rfl) (by kernel_rfl) (fun _ _ _ h => h) (Or.inl ⟨by rfl, ?_⟩) (by assumption) ?_
   rotate_left
   ·(intro w' hSw; (try dsimp only at hSw); go_simp; try with_reducible rfl)
   try simp only [Act.put, List.setIfInBounds_toArray, List.set_cons_zero, List.set_cons_succ]
   refine heldTake 8 (v := ?_) rfl (by kernel_rfl) (by kernel_rfl) (by kernel_rfl) (fun _ _ _ h => h) (Or.inl ⟨by rfl, ?_⟩) (by assumption) ?_
   rotate_left
   ·(intro w' hSw; (try dsimp only at hSw); go_simp; try with_reducible rfl)
   try simp only [Act.put, List.setIfInBounds_toArray, List.set_cons_zero, List.set_cons_succ]
   refine heldTake 9 (v := ?_) rfl (by kernel_rfl) (by kernel_rfl) (by kernel_rfl) (fun _ _ _ h => h) (Or.inl ⟨by rfl, ?_⟩) (by assumption) ?_
   rotate_left
   ·(intro w' hSw; (try dsimp only at hSw); go_simp; try with_reducible rfl)
   try simp only [Act.put, List.setIfInBounds_toArray, List.set_cons_zero, List.set_cons_succ]
   refine heldTake 10 (v := ?_) rfl (by kernel_rfl) (by kernel_rfl) (by kernel_rfl) (fun _ _ _ h => h) (Or.inl ⟨by rfl, ?_⟩) (by assumption) ?_
   rotate_left
   ·(intro w' hSw; (try dsimp only at hSw); go_simp; try with_reducible rfl)
   try simp only [Act.put, List.setIfInBounds_toArray, List.set_cons_zero, List.set_cons_succ]
   refine heldTake 11 (v := ?_) rfl (by kernel_rfl) (by kernel_rfl) (by kernel_rfl) (fun _ _ _ h => h) (Or.inl ⟨by rfl, ?_⟩) (by assumption) ?_
   rotate_left
   ·(intro w' hSw; (try dsimp only at hSw); go_simp; try with_reducible rfl)
   try simp only [Act.put, List.setIfInBounds_toArray, List.set_cons_zero, List.set_cons_succ]
   refine heldTake 12 (v := ?_) rfl (by kernel_rfl) (by kernel_rfl) (by kernel_rfl) (fun _ _ _ h => h) (Or.inl ⟨by rfl, ?_⟩) (by assumption) ?_
   rotate_left
   ·(intro w' hSw; (try dsimp only at hSw); go_simp; try with_reducible rfl)
   try simp only [Act.put, List.setIfInBounds_toArray, List.set_cons_zero, List.set_cons_succ]
   refine heldTake 13 (v := ?_) rfl (by kernel_rfl) (by kernel_rfl) (by kernel_rfl) (fun _ _ _ h => h) (Or.inl ⟨by rfl, ?_⟩) (by assumption) ?_
   rotate_left
   ·(intro w' hSw; (try dsimp only at hSw); go_simp; try with_reducible rfl)
   try simp only [Act.put, List.setIfInBounds_toArray, List.set_cons_zero, List.set_cons_succ]
   refine heldTake 14 (v := ?_) rfl (by kernel_rfl) (by kernel_rfl) (by kernel_rfl) (fun _ _ _ h => h) (Or.inl ⟨by rfl, ?_⟩) (by assumption) ?_
   rotate_left
   ·(intro w' hSw; (try dsimp only at hSw); go_simp; try with_reducible rfl)
   try simp only [Act.put, List.setIfInBounds_toArray, List.set_cons_zero, List.set_cons_succ]
   refine heldTake 15 (v := ?_) rfl (by kernel_rfl) (by kernel_rfl) (by kernel_rfl) (fun _ _ _ h => h) (Or.inl ⟨by rfl, ?_⟩) (by assumption) ?_
   rotate_left
   ·(intro w' hSw; (try dsimp only at hSw); go_simp; try with_reducible rfl)
   try simp only [Act.put, List.setIfInBounds_toArray, List.set_cons_zero, List.set_cons_succ]
   refine heldTake 16 (v := ?_) rfl (by kernel_rfl) (by kernel_rfl) (by kernel_rfl) (fun _ _ _ h => h) (Or.inl ⟨by rfl, ?_⟩) (by assumption) ?_
   rotate_left
   ·(intro w' hSw; (try dsimp only at hSw); go_simp; try with_reducible rfl)
   try simp only [Act.put, List.setIfInBounds_toArray, List.set_cons_zero, List.set_cons_succ]
   refine heldTake 17 (v := ?_) rfl (by kernel_rfl) (by kernel_rfl) (by kernel_rfl) (fun _ _ _ h => h) (Or.inl ⟨by rfl, ?_⟩) (by assumption) ?_
   rotate_left
   ·(intro w' hSw; (try dsimp only at hSw); go_simp; try with_reducible rfl)
   try simp only [Act.put, List.setIfInBounds_toArray, List.set_cons_zero, List.set_cons_succ]
   refine wpAnyH_ready (rs := [18]) (by kernel_rfl) (by simp) ?_
   refine AllReadyH.cons rfl (fun K hK => ?_) AllReadyH.nil
   go_simp
   refine hK.out _ _ ?_ (fun hHeld3 => ?_)
   ·exact hxr.drew.alloc' _
   clear hK K
   try simp only [Act.put, List.setIfInBounds_toArray, List.set_cons_zero, List.set_cons_succ]
   refine wpAnyH_ready (rs := [19]) (by kernel_rfl) (by simp) ?_
   refine AllReadyH.cons rfl (fun K hK => ?_) AllReadyH.nil
   refine step_append_lies _ (by exact rfl) (.tmp 11) (.tmp 29) 25 (by exact rfl) w.heap.size 62 i1 (.agg #[.int .i64 0, .string ⟨#[]⟩, .int .i64 0]) 3 32 Tryz.underlying25 hi1 hz0 hz1 hz2 rfl (by decide) (.slice a6 k c6) k (trmCells (oppL (D.l.take k))) (by exact rfl) (by exact own_ext HQ.out ((Ext.refl wr).drew.alloc' _)) ⟨wr.heap.size, 0, none⟩ 1 1 [.int .i64 pp, .string nm, .int .i64 (- cc)] (by exact rfl) rfl (by intro j u hj; exact news_ok wr [_, _, _] _ j u hj) (trm_one _ _ _) (by decide) (by unfold maxLen; omega) (by omega) (by have := hxr.le; simp; omega) _ rfl ?_
   rintro g8 c8 w8 hown8 hg8 hor8 hlt8
   have hx8 : Ext w w8 := (hxr.alloc' (.cells #[.int .i64 pp, .string nm, .int .i64 (- cc)] 62)).drew.below.grown hg8 (by have := hxr.le; simp; omega) (fun g e => (own_lt HQ.out g e).1)
   have HO8 := Lib.hid (show w8.ownsRow w.heap.size 62 3 (.slice (some ⟨g8, 0, none⟩) (k + 1) c8) (k + 1) (trmCells (oppL (D.l.take (k + 1)))) from by rw [HNX.out]; exact hown8)
   clear hown8 hg8 hor8 hlt8
   refine hK.out _ _ ?_ (fun hHeld4 => ?_)
   ·exact hx8
   clear hK K
   try simp only [Act.put, List.setIfInBounds_toArray]
   refine wpAnyH_ready (rs := [20]) (by kernel_rfl) (by simp) ?_
   refine AllReadyH.cons rfl (fun K hK => ?_) AllReadyH.nil
   go_simp
   refine hK.out _ _ ?_ (fun hHeld5 => ?_)
   ·exact hx8
   clear hK K
   try simp only [Act.put, List.setIfInBounds_toArray, List.set_cons_zero, List.set_cons_succ]
   refine wpAnyH_done (by kernel_rfl) ?_ _
   clear hHeld hHeld3 hHeld4 hHeld5
   go_wp2_with fail
   go_roundg (n - (k + 1))
   case rel => exact ⟨k + 1, by omega, rfl, by go_num, HO8.out, hx8⟩
   case measure => omega
  ·obtain rfl : k = n := by omega
   have HF := Lib.hid (show TmOwn wr w.heap.size (.slice a6 k c6) (oppL D.l) from by
    have h1 := Que.own HQ.out
    rw [List.take_of_length_le (by rw [HLN.out]; exact Nat.le_refl _)] at h1
    have e : (oppL D.l).length = k := by rw [← HLN.out]; simp [oppL]
    unfold TmOwn
    rw [e]; exact h1)
   go_wp2_with fail
   go_ret
   exact ⟨hxr, _, rfl, HF.out⟩
end Go.Proofs.YtnknkkmdbnaglaaGreat

namespace Go.Proofs.YtnknkkmdbnaglaaGreat
open Go.RowKit Go.Shelf
theorem growT_own {w : World} (n cap : Nat) (z : Array Value) (hz : z.size = 3) (hc : n ≤ cap) (hm : cap ≤ maxLen) : (w.drew.alloc (.cells (Builtin.zeroCells z n ++ Builtin.zeroCells z (cap - n)) 62)).ownsRow w.heap.size 62 3 (.slice (some ⟨w.heap.size, 0, none⟩) 0 cap) 0 [] := by
 refine ⟨rfl, .inr ⟨w.heap.size, cap, Builtin.zeroCells z n ++ Builtin.zeroCells z (cap - n), rfl, Nat.le_refl _, ?_, Nat.zero_le _, hm, ?_, by simp⟩⟩
 ·show (w.heap.push _)[w.heap.size]? = _
  simp
 ·rw [Array.size_append, size_zeroCells, size_zeroCells, hz, ← Nat.add_mul]
  congr 1; omega
set_option maxRecDepth 100000 in
set_option maxHeartbeats 1000000 in
theorem growT_any (n : Nat) (hn : n ≤ 1000000) (w : World) :
    Calls Tryz.prog 100 #[.slice none 0 0, .int .i64 n] w fun e w' => ∃ v, e = .returned v ∧ w'.ownsRow w.heap.size 62 3 v 0 [] ∧ Ext w w' := by
 obtain ⟨i1, hi1, hz0, hz1, hz2⟩ := info_parts infoTerm
 have d0 : decide ((n : Int) < 0) = false := decide_eq_false (by omega)
 by_cases h0 : n = 0
 ·subst h0
  go_enter Tryz.func100, Tryz.ntmps100
  go_wp2_with fail
  go_ret
  exact ⟨_, rfl, World.ownsRow_nil _ _ _ _, Ext.refl _⟩
 ·have d1 : decide ((0 : Int) < (n : Int)) = true := decide_eq_true (by omega)
  have hr := fun W => Lib.run_append_nil_zeros (P := Tryz.prog) W 25 3 25 62 i1 (.agg #[.int .i64 0, .string ⟨#[]⟩, .int .i64 0]) .i64 .i64 Tryz.underlying25 Tryz.underlying3 hi1 hz0 n (by omega) (by rw [hz1]; omega) (by omega) (by rw [hz2]; omega)
  go_enter Tryz.func100, Tryz.ntmps100
  go_wp2_with (at_builtin; refine Lib.wpList_append_run _ rfl _ _ 25 3 rfl (.slice none 0 0) (.int .i64 n) rfl rfl _ _ (hr _) ?_)
  go_ret
  exact ⟨_, rfl, growT_own n _ _ rfl (grownCap_ge _ _ _ _) (grownCap_le_maxLen _ _ _ _ (by unfold maxLen; omega)), (Ext.alloc _ _).drew⟩
def CatTPost (l : List Trm) (w : World) (e : Ending) (w' : World) : Prop := Ext w w' ∧ ∃ v, e = .returned v ∧ TmOwn w' w.heap.size v l
set_option maxRecDepth 100000 in
set_option maxHeartbeats 2000000 in
theorem catT_any (w : World) (D1 D2 : TmD) (h1 : D1.At w) (h2 : D2.At w) (n1 : D1.s.n ≤ 1000) (n2 : D2.s.n ≤ 1000) (g : Nat) (hg : Hold w g #[.slice D1.s.a D1.s.n D1.s.c, .slice D2.s.a D2.s.n D2.s.c]) :
    Calls Tryz.prog 36 #[.slice (some ⟨g, 0, none⟩) 2 2] w (CatTPost (D1.l ++ D2.l) w) := by
 obtain ⟨i1, hi1, hz0, hz1, hz2⟩ := info_parts infoTerm
 have H1 := Lib.hid h1
 have H2 := Lib.hid h2
 have hgl : ∀ w', Ext w w' → g < w'.heap.size := fun w' x => Nat.lt_of_lt_of_le hg.lt x.le
 have hg0 : ∀ w', Ext w w' → w'.cell? ⟨g, 0, none⟩ = some (.slice D1.s.a D1.s.n D1.s.c) := fun w' x => (Hold.ext hg x).cell0 0
 have hg1 : ∀ w', Ext w w' → w'.cell? ⟨g, 1, none⟩ = some (.slice D2.s.a D2.s.n D2.s.c) := fun w' x => (Hold.ext hg x).cell0 1
 have hww : Ext w w := Ext.refl _
 have HLL := Lib.hid (show (D1.l ++ D2.l).length = D1.s.n + D2.s.n from by rw [List.length_append, D1.len, D2.len])
 have hwa : IntKind.i64.wrap ((0 : Int) + (D1.s.n : Int)) = (D1.s.n : Int) := by rw [IntWalk.i64_in _ (by omega)]; omega
 have hwa' : IntKind.i64.wrap (D1.s.n : Int) = (D1.s.n : Int) := IntWalk.i64_in _ (by omega)
 have hwb : IntKind.i64.wrap ((D1.s.n : Int) + (D2.s.n : Int)) = ((D1.s.n + D2.s.n : Nat) : Int) := by rw [IntWalk.i64_in _ (by omega)]; omega
 have dn1 : decide ((D1.s.n : Int) < 0) = false := decide_eq_false (by omega)
 have dn2 : decide (((D1.s.n + D2.s.n : Nat) : Int) < 0) = false := decide_eq_false (by omega)
 unfold CatTPost
 clear h1 h2 hg
 go_enter Tryz.func36, Tryz.ntmps36
 go_wp2_with fail
 go_loopg [3, 11] 2 (fun gg v3 v11 wr => ∃ k : Nat, k ≤ 2 ∧ gg = 2 - k ∧ v11 = .int .i64 k ∧ v3 = .int .i64 ((if k = 0 then 0 else if k = 1 then D1.s.n else D1.s.n + D2.s.n : Nat) : Int) ∧ Ext w wr)
 case atStart => exact ⟨0, by omega, rfl, rfl, rfl, hww⟩
 case round =>
  obtain ⟨k, hk, rfl, rfl, rfl, hxr⟩ := hrel
  rcases (show k = 0 ∨ k = 1 ∨ k = 2 by omega) with rfl | rfl | rfl
  ·go_wp2_with fail
   go_roundg (1 : Nat)
   case rel => exact ⟨1, by omega, rfl, rfl, rfl, hxr⟩
   case measure => omega
  ·rw [if_neg (by decide), if_pos rfl]
   go_wp2_with fail
   go_roundg (0 : Nat)
   case rel => exact ⟨2, by omega, rfl, rfl, rfl, hxr⟩
   case measure => omega
  ·rw [if_neg (by decide), if_neg (by decide)]
   go_wp2_with fail
   go_at_call 100
   refine (growT_any (D1.s.n + D2.s.n) (by omega) wr).mono ?_
   rintro e w2 ⟨v2, rfl, hown2, hx2⟩
   have hx02 := hxr.trans hx2
   have HQ2 := Lib.hid (Que.mono (Que.own hown2) hxr.le)
   clear hown2 hx2 hxr
   go_wp2_with fail
   go_loopg [6, 27] 2 (fun gg v6 v27 wr => ∃ k : Nat, k ≤ 2 ∧ gg = 2 - k ∧ v27 = .int .i64 k ∧ Que wr w.heap.size 3 v6 (if k = 0 then 0 else if k = 1 then D1.s.n else D1.s.n + D2.s.n) (if k = 0 then [] else if k = 1 then trmCells D1.l else trmCells (D1.l ++ D2.l)) ∧ Ext w wr)
   case atStart => exact ⟨0, by omega, rfl, rfl, HQ2.out, hx02⟩
   case round =>
    obtain ⟨k, hk, rfl, rfl, hq, hxr⟩ := hrel
    clear hx02
    rcases (show k = 0 ∨ k = 1 ∨ k = 2 by omega) with rfl | rfl | rfl
    ·have hq' : Que wr w.heap.size 3 _ 0 [] := hq
     obtain ⟨a5, c5, rfl⟩ := hq'.slice
     have HQ := Lib.hid hq'
     clear hq hq'
     go_upto_region 14 with (at_builtin; refine wpList_append_que _ rfl _ _ 25 25 rfl (base := w.heap.size) (e := 62) (size := 3) i1 (.agg #[.int .i64 0, .string ⟨#[]⟩, .int .i64 0]) 32 Tryz.underlying25 hi1 hz0 hz1 hz2 rfl (v := .slice a5 0 c5) (n := 0) (xs := []) rfl (by exact HQ.out) (by have := hxr.le; omega) (.slice D1.s.a D1.s.n D1.s.c) D1.s.n (trmCells D1.l) rfl (by exact (H1.out.ext hxr).src) (by unfold maxLen; omega) (by omega) ?_; rintro v7 w7 hq7 hg7 -; obtain ⟨a9, c9, rfl⟩ := hq7.slice)
     have hx7 : Ext w w7 := hxr.below.grown hg7 (by have := hxr.le; omega) (fun g e => by have := HQ.out.block g e; omega)
     have HQ7 := Lib.hid hq7
     clear hq7 hg7
     go_wp2_with fail
     go_roundg (1 : Nat)
     case rel => exact ⟨1, by omega, rfl, rfl, by have h := HQ7.out; rw [Nat.zero_add, List.nil_append] at h; rw [if_neg (by decide), if_pos rfl, if_neg (by decide), if_pos rfl, ← Nat.zero_add D1.s.n]; first | exact HQ7.out | exact h, hx7⟩
     case measure => omega
    ·have hq' : Que wr w.heap.size 3 _ D1.s.n (trmCells D1.l) := hq
     obtain ⟨a5, c5, rfl⟩ := hq'.slice
     have HQ := Lib.hid hq'
     clear hq hq'
     go_upto_region 14 with (at_builtin; refine wpList_append_que _ rfl _ _ 25 25 rfl (base := w.heap.size) (e := 62) (size := 3) i1 (.agg #[.int .i64 0, .string ⟨#[]⟩, .int .i64 0]) 32 Tryz.underlying25 hi1 hz0 hz1 hz2 rfl (v := .slice a5 D1.s.n c5) (n := D1.s.n) (xs := (trmCells D1.l)) rfl (by exact HQ.out) (by have := hxr.le; omega) (.slice D2.s.a D2.s.n D2.s.c) D2.s.n (trmCells D2.l) rfl (by exact (H2.out.ext hxr).src) (by unfold maxLen; omega) (by omega) ?_; rintro v7 w7 hq7 hg7 -; obtain ⟨a9, c9, rfl⟩ := hq7.slice)
     have hx7 : Ext w w7 := hxr.below.grown hg7 (by have := hxr.le; omega) (fun g e => by have := HQ.out.block g e; omega)
     have HQ7 := Lib.hid hq7
     clear hq7 hg7
     go_wp2_with fail
     go_roundg (0 : Nat)
     case rel => exact ⟨2, by omega, rfl, rfl, by rw [if_neg (by decide), if_neg (by decide), if_neg (by decide), if_neg (by decide), trmCells_append]; exact HQ7.out, hx7⟩
     case measure => omega
    ·have HQ := Lib.hid (show TmOwn wr w.heap.size _ (D1.l ++ D2.l) from by unfold TmOwn; rw [HLL.out]; exact hq)
     clear hq
     go_wp2_with fail
     go_ret
     exact ⟨hxr, _, rfl, HQ.out⟩
end Go.Proofs.YtnknkkmdbnaglaaGreat
