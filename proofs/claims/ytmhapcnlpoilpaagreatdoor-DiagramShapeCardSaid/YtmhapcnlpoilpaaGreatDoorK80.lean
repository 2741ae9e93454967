/- Plain: splitting texts; the lines and the words of a diagram. -/
import Derived.Test.YtmhapcnlpoilpaaGreatDoorK74
import Derived.Test.YtmhapcnlpoilpaaGreatDoorK75
import Derived.Test.YtmhapcnlpoilpaaGreatDoorK70
import Derived.Lib.Split
import Derived.Lib.TrimByte
namespace Go.Proofs.YtmhapcnlpoilpaaGreatDoor
theorem index_no {c : UInt8} : ∀ {l : List UInt8}, c ∉ l → Lib.index l [c] = -1
 | [], _ => by simp [Lib.index]
 | x :: l, h => by
  have h1 : x ≠ c := fun e => h (by rw [e]; simp)
  rw [index_ne h1, index_no fun hm => h (List.mem_cons_of_mem _ hm)]; rfl
theorem index_app {c : UInt8} {t : List UInt8} : ∀ {l : List UInt8}, c ∉ l → Lib.index (l ++ c :: t) [c] = (l.length : Nat)
 | [], _ => index_eq c t
 | x :: l, h => by
  have h1 : x ≠ c := fun e => h (by rw [e]; simp)
  have h2 := index_app (t := t) (l := l) fun hm => h (List.mem_cons_of_mem _ hm)
  rw [List.cons_append, index_ne h1, h2]
  have h3 : ¬ ((l.length : Int) == -1) = true := by simp
  rw [if_neg h3]; simp
theorem splitK_join {c : UInt8} : ∀ (r : List (List UInt8)) (x : List UInt8), (∀ y, y ∈ x :: r → c ∉ y) → Lib.splitK [c] 0 r.length (Lib.join (x :: r) [c]) = x :: r
 | [], x, _ => by rw [Lib.join_cons]; simp [Lib.joinTail, Lib.splitK]
 | y :: r, x, h => by
  have ih := splitK_join r y fun z hz => h z (List.mem_cons_of_mem _ hz)
  have e : Lib.join (x :: y :: r) [c] = x ++ c :: Lib.join (y :: r) [c] := by
   rw [Lib.join_cons, Lib.join_cons]; simp [Lib.joinTail]
  have hi := index_app (t := Lib.join (y :: r) [c]) (h x (by simp))
  rw [e, List.length_cons, Lib.splitK, hi]
  have h3 : ¬ ((x.length : Int) == -1) = true := by simp
  rw [if_neg h3, Int.toNat_natCast, Nat.add_zero, List.take_left]
  have h4 : (x ++ c :: Lib.join (y :: r) [c]).drop (x.length + [c].length) = Lib.join (y :: r) [c] := by
   rw [← List.drop_drop, List.drop_left]; rfl
  rw [h4, ih]
theorem count_join {c : UInt8} : ∀ (r : List (List UInt8)) (x : List UInt8), (∀ y, y ∈ x :: r → c ∉ y) → (Lib.join (x :: r) [c]).count c = r.length
 | [], x, h => by rw [Lib.join_cons]; simp [Lib.joinTail]; exact List.count_eq_zero.2 (h x (by simp))
 | y :: r, x, h => by
  have ih := count_join r y fun z hz => h z (List.mem_cons_of_mem _ hz)
  have e : Lib.join (x :: y :: r) [c] = x ++ c :: Lib.join (y :: r) [c] := by
   rw [Lib.join_cons, Lib.join_cons]; simp [Lib.joinTail]
  rw [e, List.count_append, List.count_cons_self, ih, List.count_eq_zero.2 (h x (by simp))]; simp
theorem split_join {c : UInt8} {L : List (List UInt8)} (h0 : L ≠ []) (h : ∀ y, y ∈ L → c ∉ y) : Lib.split (Lib.join L [c]) [c] = L := by
 cases L with
 | nil => exact absurd rfl h0
 | cons x r => unfold Lib.split; rw [Lib.count_one, count_join r x h, splitK_join r x h]
def wrds (c : UInt8) : List UInt8 → List UInt8 → List (List UInt8)
 | a, [] => if a = [] then [] else [a]
 | a, x :: l => if x = c then (if a = [] then [] else [a]) ++ wrds c [] l else wrds c (a ++ [x]) l
theorem wrds_no {c : UInt8} : ∀ {l a t : List UInt8}, c ∉ l → wrds c a (l ++ t) = wrds c (a ++ l) t
 | [], a, t, _ => by simp
 | x :: l, a, t, h => by
  have h1 : x ≠ c := fun e => h (by rw [e]; simp)
  rw [List.cons_append, wrds, if_neg h1, wrds_no fun hm => h (List.mem_cons_of_mem _ hm)]; simp
theorem wrds_sep {c : UInt8} {a t : List UInt8} : wrds c a (c :: t) = (if a = [] then [] else [a]) ++ wrds c [] t := by rw [wrds, if_pos rfl]
theorem wrds_join {c : UInt8} : ∀ (r : List (List UInt8)) (x : List UInt8), (∀ y, y ∈ x :: r → c ∉ y) → wrds c [] (Lib.join (x :: r) [c]) = (x :: r).filter (· ≠ [])
 | [], x, h => by
  rw [Lib.join_cons]
  have := wrds_no (c := c) (l := x) (a := []) (t := []) (h x (by simp))
  simp [Lib.joinTail] at this ⊢
  rw [this]
  by_cases e : x = []
  ·subst e; simp [wrds]
  ·simp [wrds, e]
 | y :: r, x, h => by
  have ih := wrds_join r y fun z hz => h z (List.mem_cons_of_mem _ hz)
  have e : Lib.join (x :: y :: r) [c] = x ++ c :: Lib.join (y :: r) [c] := by
   rw [Lib.join_cons, Lib.join_cons]; simp [Lib.joinTail]
  rw [e, wrds_no (h x (by simp)), wrds_sep, ih, List.nil_append]
  by_cases e : x = []
  ·subst e; simp
  ·rw [if_neg e]
   conv => rhs; rw [List.filter_cons_of_pos (by simpa using e)]
   rfl
theorem wrds_cat {c : UInt8} {b : List UInt8} : ∀ {l a : List UInt8}, wrds c a (l ++ c :: b) = wrds c a l ++ wrds c [] b
 | [], a => by rw [List.nil_append, wrds_sep]; unfold wrds; rfl
 | x :: l, a => by
  rw [List.cons_append]
  by_cases e : x = c
  ·subst e; rw [wrds_sep, wrds_sep, wrds_cat, List.append_assoc]
  ·rw [wrds, if_neg e, wrds_cat]; conv => rhs; rw [wrds, if_neg e]
theorem wrds_rep {c : UInt8} : ∀ n, wrds c [] (List.replicate n c) = []
 | 0 => by simp [wrds]
 | n + 1 => by rw [List.replicate_succ, wrds_sep, if_pos rfl, List.nil_append, wrds_rep n]
theorem wrds_pad {c : UInt8} {s : List UInt8} (h : c ∉ s) (n : Nat) : wrds c [] (padL s c n) = if s = [] then [] else [s] := by
 unfold padL
 have h1 := wrds_no (c := c) (l := s) (a := []) (t := List.replicate (n - s.length) c) h
 rw [List.nil_append] at h1
 rw [h1]
 cases n - s.length with
 | zero => simp [wrds]
 | succ k => rw [List.replicate_succ, wrds_sep, wrds_rep, List.append_nil]
def ne1 (s : List UInt8) : List (List UInt8) := if s = [] then [] else [s]
def neL (f : Nat → List UInt8) : Nat → List (List UInt8) | 0 => [] | k + 1 => neL f k ++ ne1 (f k)
theorem wrds_jn {c : UInt8} {f : Nat → List UInt8} {W : Nat} (h : ∀ k, c ∉ f k) : ∀ k, wrds c [] (jn (fun k => padL (f k) c W) c k) = neL f k
 | 0 => by simp [jn, wrds, neL]
 | k + 1 => by
  have ih := wrds_jn (W := W) h k
  unfold jn neL
  by_cases e : 0 < k
  ·rw [if_pos e, List.singleton_append, wrds_cat, ih, wrds_pad (h k)]; rfl
  ·obtain rfl : k = 0 := by omega
   rw [if_neg e, List.nil_append]
   show wrds c [] ([] ++ padL (f 0) c W) = [] ++ _
   rw [List.nil_append, wrds_pad (h 0)]; rfl
theorem wrds_split {c : UInt8} (s : List UInt8) : wrds c [] s = (Lib.split s [c]).filter (· ≠ []) := by
 obtain ⟨L, h0, hs, hn⟩ : ∃ L : List (List UInt8), L ≠ [] ∧ s = Lib.join L [c] ∧ ∀ y, y ∈ L → c ∉ y := by
  induction s with
  | nil => exact ⟨[[]], by simp, by rw [Lib.join_cons]; simp [Lib.joinTail], by simp⟩
  | cons x l ih =>
   obtain ⟨L, h0, hs, hn⟩ := ih
   cases L with
   | nil => exact absurd rfl h0
   | cons y r =>
    by_cases e : x = c
    ·refine ⟨[] :: y :: r, by simp, ?_, fun z hz => ?_⟩
     ·rw [hs, e, Lib.join_cons, Lib.join_cons]; simp [Lib.joinTail]
     ·rcases List.mem_cons.1 hz with rfl | hz
      ·simp
      ·exact hn z hz
    ·refine ⟨(x :: y) :: r, by simp, ?_, fun z hz => ?_⟩
     ·rw [hs, Lib.join_cons, Lib.join_cons]; rfl
     ·rcases List.mem_cons.1 hz with rfl | hz
      ·intro hm
       rcases List.mem_cons.1 hm with h | h
       ·exact e h.symm
       ·exact hn y (by simp) h
      ·exact hn z (by simp [hz])
 rw [hs, split_join h0 hn]
 cases L with
 | nil => exact absurd rfl h0
 | cons y r => exact wrds_join r y hn
theorem padL_no {c d : UInt8} {s : List UInt8} (h : c ∉ s) (hd : c ≠ d) (n : Nat) : c ∉ padL s d n := by
 unfold padL; intro hm
 rcases List.mem_append.1 hm with h1 | h1
 ·exact h h1
 ·exact hd (List.mem_replicate.1 h1).2
theorem jn_no {c d : UInt8} {f : Nat → List UInt8} (h : ∀ k, c ∉ f k) (hd : c ≠ d) : ∀ k, c ∉ jn f d k
 | 0 => by simp [jn]
 | k + 1 => by
  unfold jn; intro hm
  rcases List.mem_append.1 hm with h1 | h1
  ·exact jn_no h hd k h1
  ·rcases List.mem_append.1 h1 with h1 | h1
   ·split at h1
    ·exact hd (List.mem_singleton.1 h1)
    ·cases h1
   ·exact h k h1
theorem decDigits_noc {c : UInt8} (hd : ∀ d, d < 10 → UInt8.ofNat (48 + d) ≠ c) (u : Nat) : c ∉ Lib.decDigits u := by
 induction u using Nat.strongRecOn with
 | ind u ih =>
  rw [Lib.decDigits]
  by_cases h : u < 10
  ·rw [dif_pos h]; intro hm; exact hd u h (List.mem_singleton.1 hm).symm
  ·rw [dif_neg h]
   intro hm
   rcases List.mem_append.1 hm with h1 | h1
   ·exact ih (u / 10) (by omega) h1
   ·exact hd (u % 10) (by omega) (List.mem_singleton.1 h1).symm
theorem labL_noc {c : UInt8} (hd : ∀ d, d < 10 → UInt8.ofNat (48 + d) ≠ c) (h1 : c ≠ 115) (h2 : c ≠ 114) (h3 : c ≠ 111) {k m : Int} (h : 0 ≤ m) : c ∉ labL k m := by
 have hi : c ∉ Lib.itoa m := by unfold Lib.itoa; rw [if_neg (by omega)]; exact decDigits_noc hd _
 unfold labL
 split
 ·intro hm
  rcases List.mem_cons.1 hm with e | e
  ·exact h1 e
  ·exact hi e
 ·split
  ·intro hm
   rcases List.mem_cons.1 hm with e | e
   ·exact h2 e
   ·exact hi e
  ·intro hm; exact h3 (List.mem_singleton.1 hm)
theorem labL_ne {k m : Int} : labL k m ≠ [] := by
 unfold labL
 split
 ·simp
 ·split <;> simp
theorem Tr.cel_noc {T : Tr} {col : Nat → Nat → Int} {p k : Nat} {c : UInt8} : ∀ {n : Nat}, (∀ j, j < n → c ∉ T.lab p j) → c ∉ T.cel col p n k
 | 0, _ => by unfold Tr.cel; simp
 | n + 1, h => by
  unfold Tr.cel
  split
  ·exact h n (by omega)
  ·exact Tr.cel_noc fun j hj => h j (by omega)
theorem Tr.cel_nil {T : Tr} {col : Nat → Nat → Int} {p k : Nat} : ∀ {n : Nat}, (∀ j, j < n → col p j ≠ (k : Int)) → T.cel col p n k = []
 | 0, _ => rfl
 | n + 1, h => by
  show (if col p n = (k : Int) then T.lab p n else T.cel col p n k) = []
  rw [if_neg (h n (by omega)), Tr.cel_nil fun j hj => h j (by omega)]
theorem neL_congr {f g : Nat → List UInt8} : ∀ {m : Nat}, (∀ k, k < m → f k = g k) → neL f m = neL g m
 | 0, _ => rfl
 | m + 1, h => by unfold neL; rw [neL_congr fun k hk => h k (by omega), h m (by omega)]
theorem neL_tail {f : Nat → List UInt8} {z : Nat} (h : ∀ k, z ≤ k → f k = []) : ∀ r, neL f (z + r) = neL f z
 | 0 => rfl
 | r + 1 => by
  show neL f (z + r) ++ ne1 (f (z + r)) = _
  rw [neL_tail h r, h (z + r) (by omega)]; simp [ne1]
theorem Tr.neL_cel {T : Tr} {col : Nat → Nat → Int} {p : Nat} (hp : ∀ i, i < T.en p → 0 ≤ col p i) (hinc : ∀ i j, i < j → j < T.en p → col p i < col p j) (hl : ∀ i, i < T.en p → T.lab p i ≠ []) :
    ∀ i, i ≤ T.en p → ∀ m : Nat, (∀ j, j < i → col p j < (m : Int)) → neL (T.cel col p i) m = (List.range i).map (T.lab p)
 | 0, _, m, _ => by
  have := neL_tail (f := T.cel col p 0) (z := 0) (fun k _ => rfl) m
  rw [Nat.zero_add] at this
  rw [this]; rfl
 | i + 1, hi, m, hm => by
  obtain ⟨z, hz⟩ : ∃ z : Nat, col p i = z := ⟨(col p i).toNat, by have := hp i (by omega); omega⟩
  have hzm : z < m := by have := hm i (by omega); omega
  have ih := Tr.neL_cel hp hinc hl i (by omega) z fun j hj => by have := hinc j i hj (by omega); omega
  have h1 : neL (T.cel col p (i + 1)) m = neL (T.cel col p (i + 1)) (z + 1) := by
   have := neL_tail (f := T.cel col p (i + 1)) (z := z + 1) (fun k hk => Tr.cel_nil fun j hj => by
    by_cases e : j = i
    ·subst e; omega
    ·have := hinc j i (by omega) (by omega); omega) (m - (z + 1))
   rwa [show z + 1 + (m - (z + 1)) = m by omega] at this
  rw [h1]
  show neL (T.cel col p (i + 1)) z ++ ne1 (T.cel col p (i + 1) z) = _
  have h2 : T.cel col p (i + 1) z = T.lab p i := by
   show (if col p i = (z : Int) then T.lab p i else _) = _
   rw [if_pos hz]
  rw [neL_congr (g := T.cel col p i) (fun k hk => by
   show (if col p i = (k : Int) then T.lab p i else T.cel col p i k) = _
   rw [if_neg (by omega)]), ih, h2, List.range_succ, List.map_append]
  unfold ne1; rw [if_neg (hl i (by omega))]; rfl
end Go.Proofs.YtmhapcnlpoilpaaGreatDoor
