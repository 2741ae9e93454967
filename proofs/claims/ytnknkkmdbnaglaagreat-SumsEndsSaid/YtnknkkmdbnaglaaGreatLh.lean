/- What sums weigh: partial sums and their bounds; the value at a cut. Plain. What leaves the source of the network of a sum. Plain. The example of chapter 39: its trace, its sum, its greatest and least values. Plain. slices.IndexFunc and slices.ContainsFunc at further element types (printed by gen.py). -/
import Derived.Test.YtnknkkmdbnaglaaGreatLf
import Derived.Test.YtnknkkmdbnaglaaGreatKe
import Derived.Test.YtnknkkmdbnaglaaGreatKb
namespace Go.Proofs.YtnknkkmdbnaglaaGreat
open Go.RowKit
theorem mul_abs {a b : Int} {A B : Nat} (h1 : a.natAbs ≤ A) (h2 : b.natAbs ≤ B) : (a * b).natAbs ≤ A * B := by rw [Int.natAbs_mul]; exact Nat.mul_le_mul h1 h2
theorem lsum_abs {α : Type} {g : α → Int} {B : Nat} : ∀ {l : List α}, (∀ a ∈ l, (g a).natAbs ≤ B) → (lsum g l).natAbs ≤ l.length * B
 | [], _ => by simp [lsum]
 | a :: l, h => by
  have h1 := lsum_abs (l := l) fun b hb => h b (List.mem_cons_of_mem _ hb)
  have h2 := h a List.mem_cons_self
  show (g a + lsum g l).natAbs ≤ (l.length + 1) * B
  rw [Nat.add_mul, Nat.one_mul]; omega
theorem lsum_take {α : Type} {g : α → Int} {l : List α} {j : Nat} {a : α} (h : l[j]? = some a) : lsum g (l.take (j + 1)) = lsum g (l.take j) + g a := by
 rw [List.take_add_one, h, lsum_append]
 show _ + (g a + 0) = _
 omega
theorem Tr.tix_at {T : Tr} {x : Trm} (h : 0 ≤ T.tix x) : ∃ v : Nat, 0 ≤ x.1 ∧ x.1.toNat < T.n ∧ v < T.vn x.1.toNat ∧ T.varI x.1.toNat x.2.1 = v ∧ T.tix x = v := by
 unfold Tr.tix at h ⊢
 by_cases h0 : 0 ≤ x.1 ∧ x.1 < (T.n : Int)
 ·rw [if_pos h0] at h ⊢
  rcases idxI_cases (fun v => strEq (T.vname x.1.toNat v) x.2.1) (T.vn x.1.toNat) with ⟨h1, _⟩ | ⟨k, hk, _, h2⟩
  ·have h3 : T.varI x.1.toNat x.2.1 = -1 := h1
   omega
  ·exact ⟨k, h0.1, by omega, hk, h2, h2⟩
 ·rw [if_neg h0] at h; omega
theorem Tr.st_abs {T : Tr} (hV : T.Valid) {x : Trm} (h : 0 ≤ T.tix x) {k : Nat} (hk : k ≤ T.en x.1.toNat) : (T.st (T.tedg x).1 (T.tedg x).2.1 k).natAbs ≤ 1073741824 := by
 obtain ⟨v, _, hp, hv, hvi, _⟩ := Tr.tix_at h
 have h1 := hV.val_range hp hv (T.st_of x.1.toNat v k hk)
 show (T.st x.1.toNat (T.varI x.1.toNat x.2.1).toNat k).natAbs ≤ _
 rw [hvi, Int.toNat_natCast]
 omega
theorem Tr.known.take {T : Tr} {ts : List Trm} (h : T.known ts) (j : Nat) : T.known (ts.take j) := fun x hx => h x (List.mem_of_mem_take hx)
theorem coefs.take {ts : List Trm} (h : coefs ts) (j : Nat) : coefs (ts.take j) := fun x hx => h x (List.mem_of_mem_take hx)
theorem Tr.sumAt_abs {T : Tr} (hV : T.Valid) {ts : List Trm} (hk : T.known ts) (hc : coefs ts) (hl : ts.length ≤ 64) {c : Nat → Nat} (hcl : ∀ p, p < T.n → c p ≤ T.en p) : (T.sumAt ts c).natAbs ≤ 72057594037927936 := by
 unfold Tr.sumAt valC
 have h1 := lsum_abs (g := fun x : Edg => x.2.2 * T.st x.1 x.2.1 (c x.1)) (l := ts.map T.tedg) (B := 1048576 * 1073741824) fun e he => by
  obtain ⟨x, hx, rfl⟩ := List.mem_map.1 he
  obtain ⟨v, _, hp, _, _, _⟩ := Tr.tix_at (hk x hx)
  have h2 := hc x hx
  exact mul_abs (by show x.2.2.natAbs ≤ _; omega) (Tr.st_abs hV (hk x hx) (hcl _ hp))
 rw [List.length_map] at h1
 refine Nat.le_trans h1 (Nat.le_trans (Nat.mul_le_mul_right _ hl) (by decide))
theorem Tr.wt_abs {T : Tr} (hV : T.Valid) {ts : List Trm} (hk : T.known ts) (hc : coefs ts) (hl : ts.length ≤ 64) {p i : Nat} (hi : i < T.en p) : (T.wt ts p i).natAbs ≤ 144115188075855872 := by
 unfold Tr.wt wgt
 have h1 := lsum_abs (g := fun x : Edg => if x.1 = p then x.2.2 * (T.st p x.2.1 (i + 1) - T.st p x.2.1 i) else 0) (l := ts.map T.tedg) (B := 1048576 * 2147483648) fun e he => by
  obtain ⟨x, hx, rfl⟩ := List.mem_map.1 he
  have h2 := hc x hx
  split
  ·next e =>
   subst e
   have h3 := Tr.st_abs hV (hk x hx) (k := i + 1) (by show i + 1 ≤ T.en x.1.toNat; have : (T.tedg x).1 = x.1.toNat := rfl; rw [this] at hi; omega)
   have h4 := Tr.st_abs hV (hk x hx) (k := i) (by show i ≤ T.en x.1.toNat; have : (T.tedg x).1 = x.1.toNat := rfl; rw [this] at hi; omega)
   exact mul_abs (by show x.2.2.natAbs ≤ _; omega) (by omega)
  ·exact Nat.zero_le _
 rw [List.length_map] at h1
 refine Nat.le_trans h1 (Nat.le_trans (Nat.mul_le_mul_right _ hl) (by decide))
def Tr.begJ (T : Tr) (ts : List Trm) (j : Nat) : Int := T.sumAt (ts.take j) fun _ => 0
def Tr.wtJ (T : Tr) (ts : List Trm) (p i j : Nat) : Int := T.wt (ts.take j) p i
theorem Tr.begJ_next {T : Tr} {ts : List Trm} {j : Nat} {x : Trm} (h : ts[j]? = some x) {p v : Nat} (hp : x.1 = (p : Int)) (hv : T.varI p x.2.1 = (v : Int)) : T.begJ ts (j + 1) = T.begJ ts j + x.2.2 * T.vinit p v := by
 unfold Tr.begJ Tr.sumAt valC
 rw [List.map_take, List.map_take, lsum_take (a := T.tedg x) (by rw [List.getElem?_map, h]; rfl)]
 have e1 : (T.tedg x).1 = p := by show x.1.toNat = p; omega
 have e2 : (T.tedg x).2.1 = v := by show (T.varI x.1.toNat x.2.1).toNat = v; rw [show x.1.toNat = p by omega, hv, Int.toNat_natCast]
 rw [e1, e2]; rfl
theorem Tr.wtJ_yes {T : Tr} {ts : List Trm} {i j : Nat} {x : Trm} (h : ts[j]? = some x) {p v : Nat} (hp : x.1 = (p : Int)) (hv : T.varI p x.2.1 = (v : Int)) : T.wtJ ts p i (j + 1) = T.wtJ ts p i j + x.2.2 * (T.st p v (i + 1) - T.st p v i) := by
 unfold Tr.wtJ Tr.wt wgt
 rw [List.map_take, List.map_take, lsum_take (a := T.tedg x) (by rw [List.getElem?_map, h]; rfl)]
 have e1 : (T.tedg x).1 = p := by show x.1.toNat = p; omega
 have e2 : (T.tedg x).2.1 = v := by show (T.varI x.1.toNat x.2.1).toNat = v; rw [show x.1.toNat = p by omega, hv, Int.toNat_natCast]
 rw [if_pos e1, e2]; rfl
theorem Tr.wtJ_no {T : Tr} {ts : List Trm} {i j : Nat} {x : Trm} (h : ts[j]? = some x) {p : Nat} (h0 : 0 ≤ x.1) (hp : x.1 ≠ (p : Int)) : T.wtJ ts p i (j + 1) = T.wtJ ts p i j := by
 unfold Tr.wtJ Tr.wt wgt
 rw [List.map_take, List.map_take, lsum_take (a := T.tedg x) (by rw [List.getElem?_map, h]; rfl)]
 have e1 : ¬ (T.tedg x).1 = p := by show ¬ x.1.toNat = p; omega
 rw [if_neg e1]; omega
theorem Tr.begJ_all {T : Tr} {ts : List Trm} {j : Nat} (h : ts.length ≤ j) : T.begJ ts j = T.sumAt ts fun _ => 0 := by unfold Tr.begJ; rw [List.take_of_length_le h]
theorem Tr.wtJ_all {T : Tr} {ts : List Trm} {p i j : Nat} (h : ts.length ≤ j) : T.wtJ ts p i j = T.wt ts p i := by unfold Tr.wtJ; rw [List.take_of_length_le h]
theorem take_len64 {ts : List Trm} (hl : ts.length ≤ 64) (j : Nat) : (ts.take j).length ≤ 64 := by rw [List.length_take]; omega
theorem Tr.begJ_abs {T : Tr} (hV : T.Valid) {ts : List Trm} (hk : T.known ts) (hc : coefs ts) (hl : ts.length ≤ 64) (j : Nat) : (T.begJ ts j).natAbs ≤ 72057594037927936 := Tr.sumAt_abs hV (hk.take j) (hc.take j) (take_len64 hl j) fun _ _ => Nat.zero_le _
theorem Tr.wtJ_abs {T : Tr} (hV : T.Valid) {ts : List Trm} (hk : T.known ts) (hc : coefs ts) (hl : ts.length ≤ 64) {p i : Nat} (hi : i < T.en p) (j : Nat) : (T.wtJ ts p i j).natAbs ≤ 144115188075855872 := Tr.wt_abs hV (hk.take j) (hc.take j) (take_len64 hl j) hi
theorem Tr.mass_next (T : Tr) (ts : List Trm) (p i : Nat) : T.mass ts p (i + 1) = T.mass ts p i + iabs (T.wt ts p i) := by
 unfold Tr.mass
 show _ + (isum i _ + _) = _
 rw [← Int.add_assoc]
theorem Tr.mass_end (T : Tr) (ts : List Trm) (p : Nat) : T.mass ts (p + 1) 0 = T.mass ts p (T.en p) := by
 unfold Tr.mass
 show _ + (isum p _ + isum (T.en p) _) + (0 : Int) = _
 rw [Int.add_zero, Int.add_assoc]
theorem Tr.mass_zero (T : Tr) (ts : List Trm) : T.mass ts 0 0 = iabs (T.sumAt ts fun _ => 0) := by
 unfold Tr.mass
 show _ + (0 : Int) + (0 : Int) = _
 omega
theorem Tr.mass_le (T : Tr) (ts : List Trm) {p i : Nat} (hp : p < T.n) (hi : i ≤ T.en p) : T.mass ts p i ≤ T.mass ts T.n 0 := by
 have h1 := isum_mono (g := fun j => iabs (T.wt ts p j)) (fun j => iabs_nonneg _) hi
 have h2 := isum_mono (g := fun q => isum (T.en q) fun j => iabs (T.wt ts q j)) (fun q => isum_nonneg fun j _ => iabs_nonneg _) (m := p + 1) (n := T.n) hp
 unfold Tr.mass
 have e : isum (p + 1) (fun q => isum (T.en q) fun j => iabs (T.wt ts q j)) = isum p (fun q => isum (T.en q) fun j => iabs (T.wt ts q j)) + isum (T.en p) fun j => iabs (T.wt ts p j) := rfl
 have e0 : isum 0 (fun j => iabs (T.wt ts T.n j)) = 0 := rfl
 rw [e] at h2
 rw [e0]; omega
open Classical in
noncomputable def Tr.wfn (T : Tr) (ts : List Trm) (v : Nat) : Int := if h : ∃ x : NN, T.V x ∧ T.num x = v then T.wt ts h.choose.1 h.choose.2 else 0
theorem Tr.wfn_num {T : Tr} {ts : List Trm} {x : NN} (hx : T.V x) : T.wfn ts (T.num x) = T.wt ts x.1 x.2 := by
 have h : ∃ y : NN, T.V y ∧ T.num y = T.num x := ⟨x, hx, rfl⟩
 unfold Tr.wfn
 rw [dif_pos h, Tr.num_inj h.choose_spec.1 hx h.choose_spec.2]
theorem Tr.wfn_at {T : Tr} {ts : List Trm} {p i : Nat} (hp : p < T.n) (hi : i < T.en p) : T.wfn ts (tott T.en p + i) = T.wt ts p i := Tr.wfn_num (x := (p, i)) ⟨hp, hi⟩
theorem Tr.wfn_ok {T : Tr} {ts : List Trm} (h : T.SumOk ts) : WOk (T.wfn ts) (T.sumAt ts fun _ => 0) (tott T.en T.n) := by
 refine ⟨by rw [tott_tot]; exact h.few, ?_⟩
 have h1 := h.mass
 rw [isum_tot, isum_congr (g := fun p => isum (T.en p) fun i => iabs (T.wt ts p i)) fun p hp => isum_congr fun i hi => by rw [Tr.wfn_at hp hi]]
 unfold Tr.mass at h1
 have e0 : isum 0 (fun j => iabs (T.wt ts T.n j)) = 0 := rfl
 rw [e0] at h1; omega
theorem Tr.sumAt_atC {T : Tr} {ts : List Trm} (hk : T.known ts) {c : Nat → Nat} (hc : ∀ p, p < T.n → c p ≤ T.en p) : T.sumAt ts c = T.sumAt ts (fun _ => 0) + T.atC (T.wfn ts) c := by
 unfold Tr.sumAt Tr.atC
 rw [valC_weights T.st c T.n (ts.map T.tedg) fun e he => by
  obtain ⟨x, hx, rfl⟩ := List.mem_map.1 he
  obtain ⟨v, _, hp, _⟩ := Tr.tix_at (hk x hx)
  exact hp]
 congr 1
 refine isum_congr fun p hp => isum_congr fun i hi => ?_
 exact (Tr.wfn_num (x := (p, i)) ⟨hp, by have := hc p hp; show i < T.en p; omega⟩).symm
theorem Tr.atC_neg (T : Tr) (w : Nat → Int) (c : Nat → Nat) : T.atC (fun v => - w v) c = - T.atC w c := by
 have key : ∀ (g : Nat → Int) k, isum k (fun i => - g i) = - isum k g := by
  intro g k
  induction k with
  | zero => rfl
  | succ k ih => show isum k (fun i => - g i) + - g k = - (isum k g + g k); rw [ih]; omega
 unfold Tr.atC
 rw [isum_congr (g := fun p => - isum (c p) fun i => w (T.num (p, i))) fun p _ => key _ _, key]
end Go.Proofs.YtnknkkmdbnaglaaGreat

namespace Go.Proofs.YtnknkkmdbnaglaaGreat
open Go.RowKit
def srcCap (m : Nat) (e : Edg) : Int := if e.1 = m then e.2.2 else 0
theorem srcCap_edgesW (m : Nat) (w : Nat → Int) : ∀ k, k ≤ m → lsum (srcCap m) (edgesW m w k) = wpos w k
 | 0, _ => rfl
 | k + 1, h => by
  have ih := srcCap_edgesW m w k (by omega)
  unfold edgesW
  rw [lsum_append, ih]
  show _ = wpos w k + (if 0 < w k then w k else 0)
  congr 1
  by_cases h0 : 0 < w k
  ·rw [if_pos h0, if_pos h0]
   show srcCap m (m, k, w k) + 0 = _
   rw [srcCap, if_pos rfl, Int.add_zero]
  ·rw [if_neg h0, if_neg h0]
   split
   ·show srcCap m (k, m + 1, - w k) + 0 = _
    rw [srcCap, if_neg (by show ¬ k = m; omega)]; rfl
   ·rfl
theorem srcCap_closure {T : Tr} {m : Nat} (hm : m = tott T.en T.n) (w : Nat → Int) : lsum (srcCap m) (closureNet m w T.needs) = wpos w m := by
 unfold closureNet
 rw [lsum_append, srcCap_edgesW m w m (Nat.le_refl _), lsum_zero fun e he => ?_, Int.add_zero]
 obtain ⟨x, hx, rfl⟩ := List.mem_map.1 he
 have := (Tr.needs_lt x hx).1
 exact if_neg (by show ¬ x.1 = m; omega)
theorem lsum_part {α : Type} {g : α → Int} {l : List α} (h : ∀ a ∈ l, 0 ≤ g a) (j : Nat) : 0 ≤ lsum g (l.take j) ∧ lsum g (l.take j) ≤ lsum g l := by
 have h1 := lsum_nonneg (g := g) (l := l.take j) fun a ha => h a (List.mem_of_mem_take ha)
 have h2 := lsum_nonneg (g := g) (l := l.drop j) fun a ha => h a (List.mem_of_mem_drop ha)
 have h3 := lsum_append g (l.take j) (l.drop j)
 rw [List.take_append_drop] at h3
 omega
open Classical in
theorem Tr.Best.flow {T : Tr} (hV : T.Valid) {b : Int} {w : Nat → Int} (ho : WOk w b (tott T.en T.n)) {v : Int} {c : Nat → Nat} (hB : T.Best b w v c) {f : Nat → Int} {val : Int}
    (hf : (Netw.ofList (tott T.en T.n + 2) (closureNet (tott T.en T.n) w T.needs)).Flow (tott T.en T.n) (tott T.en T.n + 1) f val)
    (ht : ¬ (Netw.ofList (tott T.en T.n + 2) (closureNet (tott T.en T.n) w T.needs)).Reach (tott T.en T.n) f (tott T.en T.n + 1)) : v = b + wpos w (tott T.en T.n) - val := by
 obtain ⟨h1, h2⟩ := Tr.best_of (R := fun v => decide ((Netw.ofList (tott T.en T.n + 2) (closureNet (tott T.en T.n) w T.needs)).Reach (tott T.en T.n) f v)) (Tr.netOk hV ho).ok hf (fun v => decide_eq_true_iff) (decide_eq_false ht) b
 have h3 := (hB.uniq h2).1
 omega
end Go.Proofs.YtnknkkmdbnaglaaGreat

namespace Go.Proofs.YtnknkkmdbnaglaaGreat
open Go.RowKit
def ex39 : Tr where
 n := 2
 name k := if k = 0 then ⟨#[97]⟩ else ⟨#[98]⟩
 vn _ := 1
 vname _ _ := ⟨#[120]⟩
 vinit _ _ := 0
 en k := if k = 0 then 2 else 1
 kind _ _ := 1
 peer _ _ := 0
 msg _ _ := 0
 time _ _ := 0
 an _ _ := 1
 avar _ _ _ := 0
 aval k i _ := if k = 0 then (if i = 0 then 1 else -5) else 1
def eS0 : ex39.Id := ⟨(0, 0), by decide, by decide⟩
def eS1 : ex39.Id := ⟨(0, 1), by decide, by decide⟩
def eS2 : ex39.Id := ⟨(1, 0), by decide, by decide⟩
theorem eS_evs : ex39.evs = [eS0, eS1, eS2] := by rfl
theorem eS_ind {P : ex39.Id → Prop} (h0 : P eS0) (h1 : P eS1) (h2 : P eS2) : ∀ x, P x := by
 intro x
 have h := evs_all x
 rw [eS_evs] at h
 simp at h
 rcases h with rfl | rfl | rfl
 ·exact h0
 ·exact h1
 ·exact h2
theorem ltS {k : Nat} (h : k < 2) : k = 0 ∨ k = 1 := by omega
theorem ex39_valid : ex39.Valid := by
 refine ⟨by decide, by decide, fun k hk => ?_, fun k i hk hi => ?_, ?_, ?_⟩
 ·rcases ltS hk with rfl | rfl
  ·refine ⟨by decide, by decide, by decide, fun i hi => ?_, by decide⟩
   obtain rfl : i = 0 := by have : i < 1 := hi; omega
   exact ⟨by decide, by decide, by decide⟩
  ·refine ⟨by decide, by kernel_rfl, by decide, fun i hi => ?_, by decide⟩
   obtain rfl : i = 0 := by have : i < 1 := hi; omega
   exact ⟨by decide, by decide, by decide⟩
 ·have hh := eS_ind (P := fun x => ex39.EvOk x.1.1 x.1.2) ⟨by unfold FormedP; decide, by decide, by decide, by decide, fun j hj => ?_⟩ ⟨by unfold FormedP; decide, by decide, by decide, by decide, fun j hj => ?_⟩ ⟨by unfold FormedP; decide, by decide, by decide, by decide, fun j hj => ?_⟩
  ·exact hh ⟨(k, i), hk, hi⟩
  ·obtain rfl : j = 0 := by have : j < 1 := hj; omega
   exact ⟨by decide, by decide, by decide⟩
  ·obtain rfl : j = 0 := by have : j < 1 := hj; omega
   exact ⟨by decide, by decide, by decide⟩
  ·obtain rfl : j = 0 := by have : j < 1 := hj; omega
   exact ⟨by decide, by decide, by decide⟩
 ·rw [eS_evs]
  intro pre x ⟨t, ht⟩
  match pre, ht with
  | [], ht =>
   simp at ht; obtain ⟨rfl, _⟩ := ht
   exact ⟨(fun h => by revert h; decide), (fun h => by revert h; decide)⟩
  | [a], ht =>
   simp at ht; obtain ⟨rfl, rfl, _⟩ := ht
   exact ⟨(fun h => by revert h; decide), (fun h => by revert h; decide)⟩
  | [a, b], ht =>
   simp at ht; obtain ⟨rfl, rfl, rfl, _⟩ := ht
   exact ⟨(fun h => by revert h; decide), (fun h => by revert h; decide)⟩
  | a :: b :: c :: r, ht =>
   have := congrArg List.length ht
   simp at this
 ·rintro ⟨x, hp⟩
  have h := path_rank (V := ex39.V) (fun z => z.1 + z.2) ?_ x.2 hp
  ·exact absurd h.2 (Nat.lt_irrefl _)
  ·intro a b ha hb
   have hh := eS_ind (P := fun x => ∀ b, b ∈ ex39.succ (Ltr.of ex39 ex39.evs) x.1 → ex39.V b ∧ x.1.1 + x.1.2 < b.1 + b.2) ?_ ?_ ?_ ⟨a, ha⟩ b hb
   ·exact hh
   ·intro b hb
    have : ex39.succ (Ltr.of ex39 ex39.evs) eS0.1 = [(0, 1)] := by rfl
    rw [this] at hb; simp at hb; subst hb; exact ⟨⟨by decide, by decide⟩, by decide⟩
   ·intro b hb
    have : ex39.succ (Ltr.of ex39 ex39.evs) eS1.1 = [] := by rfl
    rw [this] at hb; cases hb
   ·intro b hb
    have : ex39.succ (Ltr.of ex39 ex39.evs) eS2.1 = [] := by rfl
    rw [this] at hb; cases hb
def exL : List Trm := [(0, ⟨#[120]⟩, 1), (1, ⟨#[120]⟩, 1)]
theorem exS_varI (p : Nat) : ex39.varI p ⟨#[120]⟩ = 0 := idxI_hit (k := 0) (by show (0 : Nat) < 1; decide) (by show strEq ⟨#[120]⟩ ⟨#[120]⟩ = true; simp [strEq]) (fun j hj => absurd hj (Nat.not_lt_zero _))
theorem exS_known : ex39.known exL := by
 intro x hx
 simp [exL] at hx
 rcases hx with rfl | rfl
 ·show 0 ≤ ex39.varI 0 ⟨#[120]⟩
  rw [exS_varI]; decide
 ·show 0 ≤ ex39.varI 1 ⟨#[120]⟩
  rw [exS_varI]; decide
theorem exS_sum (c : Nat → Nat) : ex39.sumAt exL c = ex39.st 0 0 (c 0) + ex39.st 1 0 (c 1) := by
 show 1 * ex39.st 0 (ex39.varI 0 ⟨#[120]⟩).toNat (c 0) + (1 * ex39.st 1 (ex39.varI 1 ⟨#[120]⟩).toNat (c 1) + 0) = _
 rw [exS_varI, exS_varI]
 show 1 * ex39.st 0 0 (c 0) + (1 * ex39.st 1 0 (c 1) + 0) = _
 omega
theorem exS_wt (p i : Nat) : ex39.wt exL p i = (if 0 = p then ex39.st p 0 (i + 1) - ex39.st p 0 i else 0) + if 1 = p then ex39.st p 0 (i + 1) - ex39.st p 0 i else 0 := by
 show (if 0 = p then 1 * (ex39.st p (ex39.varI 0 ⟨#[120]⟩).toNat (i + 1) - ex39.st p (ex39.varI 0 ⟨#[120]⟩).toNat i) else 0) + ((if 1 = p then 1 * (ex39.st p (ex39.varI 1 ⟨#[120]⟩).toNat (i + 1) - ex39.st p (ex39.varI 1 ⟨#[120]⟩).toNat i) else 0) + 0) = _
 rw [exS_varI, exS_varI, Int.one_mul, Int.add_zero]; rfl
theorem exS_ok : ex39.SumOk exL := by
 refine ⟨ex39_valid, by decide, exS_known, ?_, by decide, ?_⟩
 ·intro x hx
  simp [exL] at hx
  rcases hx with rfl | rfl <;> exact ⟨by decide, by decide⟩
 ·have e0 : ex39.sumAt exL (fun _ => 0) = 0 := by rw [exS_sum]; rfl
  have a0 : iabs (ex39.wt exL 0 0) = 1 := by rw [exS_wt]; rfl
  have a1 : iabs (ex39.wt exL 0 1) = 6 := by rw [exS_wt]; rfl
  have b0 : iabs (ex39.wt exL 1 0) = 1 := by rw [exS_wt]; rfl
  unfold Tr.mass
  rw [e0]
  show iabs 0 + ((0 + (0 + iabs (ex39.wt exL 0 0) + iabs (ex39.wt exL 0 1))) + (0 + iabs (ex39.wt exL 1 0))) + 0 ≤ _
  rw [a0, a1, b0]; decide
theorem exS_st0 : ex39.st 0 0 0 = 0 ∧ ex39.st 0 0 1 = 1 ∧ ex39.st 0 0 2 = -5 ∧ ex39.st 1 0 0 = 0 ∧ ex39.st 1 0 1 = 1 := ⟨rfl, rfl, rfl, rfl, rfl⟩
theorem exS_cut (a b : Nat) (ha : a ≤ 2) (hb : b ≤ 1) : ex39.CutOk fun p => if p = 0 then a else b :=
 ⟨fun p hp => by
  rcases ltS hp with rfl | rfl
  ·exact ha
  ·exact hb, fun x _ _ h => by have h : (1 : Int) = 3 := h; omega⟩
theorem exS_at {c : Nat → Nat} (hc : ex39.CutOk c) : ex39.atC (ex39.wfn exL) c = ex39.st 0 0 (c 0) + ex39.st 1 0 (c 1) := by
 have h := Tr.sumAt_atC exS_known hc.le
 rw [exS_sum, exS_sum] at h
 have e0 : ex39.st 0 0 ((fun _ => 0 : Nat → Nat) 0) + ex39.st 1 0 ((fun _ => 0 : Nat → Nat) 1) = 0 := rfl
 rw [e0] at h; omega
theorem exS_cases {c : Nat → Nat} (hc : ex39.CutOk c) : (c 0 = 0 ∨ c 0 = 1 ∨ c 0 = 2) ∧ (c 1 = 0 ∨ c 1 = 1) := by
 have h0 : c 0 ≤ 2 := hc.le 0 (by decide)
 have h1 : c 1 ≤ 1 := hc.le 1 (by decide)
 omega
theorem exS_best : ex39.Best 0 (ex39.wfn exL) 2 fun _ => 1 := by
 have hc : ex39.CutOk fun _ => 1 := (exS_cut 1 1 (by decide) (by decide)).congr fun p _ => by split <;> rfl
 obtain ⟨s0, s1, s2, t0, t1⟩ := exS_st0
 have e : ex39.atC (ex39.wfn exL) (fun _ => 1) = ex39.st 0 0 1 + ex39.st 1 0 1 := exS_at hc
 rw [s1, t1] at e
 refine ⟨hc, by rw [e]; rfl, fun d hd => ?_, fun d hd he p hp => ?_⟩
 ·rw [e, exS_at hd]
  obtain ⟨h0, h1⟩ := exS_cases hd
  rcases h0 with h0 | h0 | h0 <;> rcases h1 with h1 | h1 <;> rw [h0, h1] <;> simp only [s0, s1, s2, t0, t1] <;> decide
 ·rw [e, exS_at hd] at he
  obtain ⟨h0, h1⟩ := exS_cases hd
  rcases h0 with h0 | h0 | h0 <;> rcases h1 with h1 | h1 <;> rw [h0, h1] at he <;> simp only [s0, s1, s2, t0, t1] at he <;> rcases ltS hp with rfl | rfl <;> omega
theorem exS_least : ex39.Best 0 (fun v => - ex39.wfn exL v) 5 fun p => if p = 0 then 2 else 0 := by
 have hc : ex39.CutOk fun p => if p = 0 then 2 else 0 := exS_cut 2 0 (by decide) (by decide)
 obtain ⟨s0, s1, s2, t0, t1⟩ := exS_st0
 have e := exS_at hc
 rw [if_pos rfl, if_neg (by decide), s2, t0] at e
 refine ⟨hc, by rw [Tr.atC_neg, e]; rfl, fun d hd => ?_, fun d hd he p hp => ?_⟩
 ·rw [Tr.atC_neg, Tr.atC_neg, e, exS_at hd]
  obtain ⟨h0, h1⟩ := exS_cases hd
  rcases h0 with h0 | h0 | h0 <;> rcases h1 with h1 | h1 <;> rw [h0, h1] <;> simp only [s0, s1, s2, t0, t1] <;> decide
 ·rw [Tr.atC_neg, Tr.atC_neg, e, exS_at hd] at he
  obtain ⟨h0, h1⟩ := exS_cases hd
  rcases h0 with h0 | h0 | h0 <;> rcases h1 with h1 | h1 <;> rw [h0, h1] at he <;> simp only [s0, s1, s2, t0, t1] at he <;> rcases ltS hp with rfl | rfl <;> first | omega | (rw [if_pos rfl]; omega) | (rw [if_neg (by decide)]; omega)
end Go.Proofs.YtnknkkmdbnaglaaGreat

namespace Go.Proofs.YtnknkkmdbnaglaaGreat
open Go.RowKit Go.Shelf
theorem idx_int (w : World) (a : Option Addr) (b off n cap : Nat) (c0 : Nat → Value) (g : Nat) (lb : Array Value) (p : Nat → Bool)
    (hn : n ≤ 140737488355328) (ha : 0 < n → a = some ⟨b, off, none⟩)
    (l0 : ∀ w', Ext w w' → ∀ i, i < n → w'.cell? ⟨b, off + i, none⟩ = some (c0 i))
    (eg : Enters Tryz.prog g)
    (hp : ∀ i, i < n → ∀ w', Ext w w' → Calls Tryz.prog g (#[c0 i] ++ lb) w' fun e w'' => e = .returned (.bool (p i)) ∧ Ext w' w'') :
    Calls Tryz.prog 139 #[.slice a n cap, .func (.func g) #[] lb] w fun e w' => e = .returned (.int .i64 (idxI p n)) ∧ Ext w w' := by
 have HP := Lib.hid hp
 clear hp
 go_enter Tryz.func139, Tryz.ntmps139
 go_wp2
 go_loopw [8] (fun v wr => ∃ k : Nat, k ≤ n ∧ v = .int .i64 k ∧ Ext w wr ∧ NoneB p k) (fun v _ => n - (intOf v).toNat)
 case atStart => exact ⟨0, Nat.zero_le _, rfl, Ext.refl _, NoneB.zero _⟩
 case round =>
  obtain ⟨k, hk, rfl, hx, hN⟩ := hrel
  have HN := Lib.hid hN
  clear hN
  by_cases hlt : k < n
  ·obtain rfl := ha (by omega)
   have hc := HP.out k hlt wr hx
   unfold Enters at eg
   cases hq : p k with
   | true =>
    rw [hq] at hc
    go_wp2_with (go_at_fn g; refine hc.mono ?_; rintro e w' ⟨rfl, hx'⟩)
    go_ret
    exact ⟨ret_int (idxI_hit hlt hq HN.out).symm, hx.trans hx'⟩
   | false =>
    rw [hq] at hc
    go_wp2_with (go_at_fn g; refine hc.mono ?_; rintro e w' ⟨rfl, hx'⟩)
    go_roundw
    case rel => exact ⟨k + 1, by omega, by go_num, hx.trans hx', HN.out.succ hq⟩
    case measure => simp [intOf]; omega
  ·have HN' := Lib.hid (show NoneB p n from fun i hi => HN.out i (by omega))
   go_wp2
   go_ret
   exact ⟨ret_int (idxI_none HN'.out).symm, hx⟩
theorem has_int (w : World) (a : Option Addr) (b off n cap : Nat) (c0 : Nat → Value) (g : Nat) (lb : Array Value) (p : Nat → Bool)
    (hn : n ≤ 140737488355328) (ha : 0 < n → a = some ⟨b, off, none⟩)
    (l0 : ∀ w', Ext w w' → ∀ i, i < n → w'.cell? ⟨b, off + i, none⟩ = some (c0 i))
    (eg : Enters Tryz.prog g)
    (hp : ∀ i, i < n → ∀ w', Ext w w' → Calls Tryz.prog g (#[c0 i] ++ lb) w' fun e w'' => e = .returned (.bool (p i)) ∧ Ext w' w'') :
    Calls Tryz.prog 65 #[.slice a n cap, .func (.func g) #[] lb] w fun e w' => e = .returned (.bool (anyB p n)) ∧ Ext w w' := by
 have hc := idx_int w a b off n cap c0 g lb p hn ha l0 eg hp
 have HI := Lib.hid (idxI_anyB p n)
 clear hp l0 ha eg
 go_enter Tryz.func65, Tryz.ntmps65
 go_wp2_with (go_at_call 139; refine hc.mono ?_; rintro e w' ⟨rfl, hx'⟩)
 go_ret
 exact ⟨ret_bool HI.out, hx'⟩
end Go.Proofs.YtnknkkmdbnaglaaGreat
