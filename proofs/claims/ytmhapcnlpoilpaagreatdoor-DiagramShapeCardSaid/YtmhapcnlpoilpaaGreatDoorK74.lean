/- Plain: the lengths of a diagram's lines; the line as the reference writes it. -/
import Derived.Test.YtmhapcnlpoilpaaGreatDoorK68
namespace Go.Proofs.YtmhapcnlpoilpaaGreatDoor
theorem Tr.we_ge {T : Tr} {p s : Nat} : ∀ {i : Nat}, s ≤ T.we p s i
 | 0 => Nat.le_refl _
 | i + 1 => Nat.le_trans (Tr.we_ge (i := i)) (Nat.le_max_left _ _)
theorem Tr.we_lab {T : Tr} {p s j : Nat} : ∀ {i : Nat}, j < i → (T.lab p j).length ≤ T.we p s i
 | i + 1, h => by
  by_cases e : j = i
  ·subst e; exact Nat.le_max_right _ _
  ·exact Nat.le_trans (Tr.we_lab (i := i) (by omega)) (Nat.le_max_left _ _)
theorem Tr.wd_lab {T : Tr} {p i : Nat} (hi : i < T.en p) : ∀ {k : Nat}, p < k → (T.lab p i).length ≤ T.wd k
 | k + 1, h => by
  by_cases e : p = k
  ·subst e; exact Tr.we_lab hi
  ·exact Nat.le_trans (Tr.wd_lab hi (k := k) (by omega)) Tr.we_ge
def jn (f : Nat → List UInt8) (c : UInt8) : Nat → List UInt8
 | 0 => []
 | k + 1 => jn f c k ++ ((if 0 < k then [c] else []) ++ f k)
theorem join_snoc (c : UInt8) (x : List UInt8) : ∀ L : List (List UInt8), Lib.join (L ++ [x]) [c] = Lib.join L [c] ++ ((if L = [] then [] else [c]) ++ x)
 | [] => by rw [List.nil_append, Lib.join_cons, Lib.join_nil, if_pos rfl]; simp [Lib.joinTail]
 | a :: r => by
  rw [List.cons_append, Lib.join_cons, Lib.join_cons, if_neg (by simp)]
  simp [Lib.joinTail]
theorem join_jn (f : Nat → List UInt8) (c : UInt8) : ∀ k, Lib.join ((List.range k).map f) [c] = jn f c k
 | 0 => by simp [jn, Lib.join_nil]
 | k + 1 => by
  have e : (if (List.range k).map f = [] then ([] : List UInt8) else [c]) = if 0 < k then [c] else [] := by
   cases k with
   | zero => rfl
   | succ n => rw [if_neg (by simp), if_pos (by omega)]
  rw [List.range_succ, List.map_append, List.map_singleton, join_snoc, join_jn f c k, e]; rfl
theorem jn_len {f : Nat → List UInt8} {c : UInt8} {W : Nat} (h : ∀ k, (f k).length = W) : ∀ k, (jn f c (k + 1)).length = k * (W + 1) + W
 | 0 => by simp [jn, h]
 | k + 1 => by
  have h1 := jn_len (c := c) h k
  unfold jn
  rw [List.length_append, h1, if_pos (by omega), List.length_append, h, Nat.succ_mul]
  simp; omega
theorem Tr.line_jn {T : Tr} {col : Nat → Nat → Int} {m W p : Nat} : T.line col m W p = jn (fun k => padL (T.cel col p (T.en p) k) 45 W) 45 m := join_jn _ _ _
def rp (x : UInt8) : UInt8 := if x = 45 then 61 else x
theorem rp_map {l : List UInt8} (h : (45 : UInt8) ∉ l) : l.map rp = l := by
 conv => rhs; rw [← List.map_id l]
 refine List.map_congr_left fun x hx => ?_
 have : x ≠ 45 := by intro e; subst e; exact h hx
 unfold rp
 rw [if_neg this]; rfl
theorem rp_pad {s : List UInt8} (h : (45 : UInt8) ∉ s) (n : Nat) : (padL s 45 n).map rp = padL s 61 n := by
 unfold padL
 rw [List.map_append, rp_map h, List.map_replicate]; rfl
def fil (last : Int) (k : Nat) : UInt8 := if (k : Int) ≤ last then 61 else 45
def refL (g : Nat → List UInt8) (W : Nat) (last : Int) : Nat → List UInt8
 | 0 => []
 | k + 1 => refL g W last k ++ ((if 0 < k then [fil last k] else []) ++ padL (g k) (fil last k) W)
theorem refL_none {g : Nat → List UInt8} {W : Nat} {last : Int} (h : last < 0) : ∀ k, refL g W last k = jn (fun k => padL (g k) 45 W) 45 k
 | 0 => rfl
 | k + 1 => by
  have hf : fil last k = 45 := if_neg (by omega)
  unfold refL jn
  rw [refL_none h k, hf]
theorem refL_pre {g : Nat → List UInt8} {W z : Nat} (h : ∀ k, (45 : UInt8) ∉ g k) : ∀ k, k ≤ z + 1 → refL g W z k = (jn (fun k => padL (g k) 45 W) 45 k).map rp
 | 0, _ => rfl
 | k + 1, hk => by
  have hf : fil z k = 61 := if_pos (by omega)
  unfold refL jn
  rw [refL_pre h k (by omega), hf, List.map_append, List.map_append, rp_pad (h k)]
  by_cases e : 0 < k
  ·rw [if_pos e, if_pos e]; rfl
  ·rw [if_neg e, if_neg e]; rfl
theorem refL_some {g : Nat → List UInt8} {W z : Nat} (h : ∀ k, (45 : UInt8) ∉ g k) : ∀ k, ∃ r, jn (fun k => padL (g k) 45 W) 45 (z + 1 + k) = jn (fun k => padL (g k) 45 W) 45 (z + 1) ++ r ∧ refL g W z (z + 1 + k) = (jn (fun k => padL (g k) 45 W) 45 (z + 1)).map rp ++ r
 | 0 => ⟨[], by simp, by rw [List.append_nil]; exact refL_pre h _ (Nat.le_refl _)⟩
 | k + 1 => by
  obtain ⟨r, h1, h2⟩ := refL_some h k
  have hf : fil z (z + 1 + k) = 45 := if_neg (by omega)
  refine ⟨r ++ ((if 0 < z + 1 + k then [45] else []) ++ padL (g (z + 1 + k)) 45 W), ?_, ?_⟩
  ·show jn (fun k => padL (g k) 45 W) 45 (z + 1 + k) ++ ((if 0 < z + 1 + k then [45] else []) ++ padL (g (z + 1 + k)) 45 W) = _
   rw [h1, List.append_assoc]
  ·show refL g W z (z + 1 + k) ++ ((if 0 < z + 1 + k then [fil z (z + 1 + k)] else []) ++ padL (g (z + 1 + k)) (fil z (z + 1 + k)) W) = _
   rw [h2, hf, List.append_assoc]
theorem dec_dig : ∀ d, d < 10 → UInt8.ofNat (48 + d) ≠ 45 := by decide
theorem decDigits_no (u : Nat) : (45 : UInt8) ∉ Lib.decDigits u := by
 induction u using Nat.strongRecOn with
 | ind u ih =>
  rw [Lib.decDigits]
  by_cases h : u < 10
  ·rw [dif_pos h]; intro hm; exact dec_dig u h (List.mem_singleton.1 hm).symm
  ·rw [dif_neg h]
   intro hm
   rcases List.mem_append.1 hm with h1 | h1
   ·exact ih (u / 10) (by omega) h1
   ·exact dec_dig (u % 10) (by omega) (List.mem_singleton.1 h1).symm
theorem itoa_no {n : Int} (h : 0 ≤ n) : (45 : UInt8) ∉ Lib.itoa n := by
 unfold Lib.itoa; rw [if_neg (by omega)]; exact decDigits_no _
theorem labL_no {k m : Int} (h : 0 ≤ m) : (45 : UInt8) ∉ labL k m := by
 unfold labL
 split
 ·intro hm
  rcases List.mem_cons.1 hm with e | e
  ·exact absurd e (by decide)
  ·exact itoa_no h e
 ·split
  ·intro hm
   rcases List.mem_cons.1 hm with e | e
   ·exact absurd e (by decide)
   ·exact itoa_no h e
  ·decide
theorem Tr.cel_no {T : Tr} {col : Nat → Nat → Int} {p k : Nat} : ∀ {n : Nat}, (∀ j, j < n → (45 : UInt8) ∉ T.lab p j) → (45 : UInt8) ∉ T.cel col p n k
 | 0, _ => by unfold Tr.cel; simp
 | n + 1, h => by
  unfold Tr.cel
  split
  ·exact h n (by omega)
  ·exact Tr.cel_no fun j hj => h j (by omega)
theorem Tr.lineC_ref {T : Tr} {col : Nat → Nat → Int} {m W p z : Nat} (hz : z < m) (hl : ∀ j, j < T.en p → (T.lab p j).length ≤ W) (hn : ∀ j, j < T.en p → (45 : UInt8) ∉ T.lab p j) :
    z * (W + 1) + W ≤ (T.line col m W p).length ∧ Lib.replaceAll ((T.line col m W p).take (z * (W + 1) + W)) [45] [61] ++ (T.line col m W p).drop (z * (W + 1) + W) = refL (T.cel col p (T.en p)) W z m := by
 obtain ⟨r, h1, h2⟩ := refL_some (g := T.cel col p (T.en p)) (W := W) (z := z) (fun k => Tr.cel_no hn) (m - (z + 1))
 rw [show z + 1 + (m - (z + 1)) = m by omega] at h1 h2
 have hlen := jn_len (f := fun k => padL (T.cel col p (T.en p) k) 45 W) (c := 45) (W := W) (fun k => by rw [padL_len]; have := Tr.cel_len (col := col) (k := k) hl; omega) z
 rw [Tr.line_jn, h1, ← hlen, List.take_left, List.drop_left, h2, replace_one 45 61 (by decide)]
 exact ⟨by rw [List.length_append]; omega, rfl⟩
end Go.Proofs.YtmhapcnlpoilpaaGreatDoor
