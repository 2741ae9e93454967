/- Lists of variables with how often they stand in a tree: gathered and sorted, or inserted in order. Plain. Rows of terms (variables with numbers); slices.IndexFunc and slices.Equal at them; comparisons. Contract of predtype.each, where the function writes a slice of its own that grows. Contract of the function that predtype.Vars calls at each node. -/
import Derived.Test.YtdplphoohnnbcaaGreatDoorHa
import Derived.Test.YtdplphoohnnbcaaGreatDoorHb
import Derived.Test.YtdplphoohnnbcaaGreatDoorHk
import Derived.Deep.LoopGhost
import Derived.Lib.Bytealg
import Derived.Lib.Small
import Derived.Test.YtdplphoohnnbcaaGreatDoorHh
import Derived.Test.YtdplphoohnnbcaaGreatDoorHe
namespace Go.Proofs.YtdplphoohnnbcaaGreatDoor
open Go.RowKit

abbrev VK := Int × ByteArray
abbrev Trm := Int × ByteArray × Int
def Trm.key (t : Trm) : VK := (t.1, t.2.1)
def kLt (a b : VK) : Prop := a.1 < b.1 ∨ (a.1 = b.1 ∧ a.2.data.toList < b.2.data.toList)
theorem bytes_ext {a b : ByteArray} (h : a.data.toList = b.data.toList) : a = b := by
  cases a; cases b; simp at h; subst h; rfl
theorem kLt_irrefl (a : VK) : ¬ kLt a a := by
  rintro (h | ⟨_, h⟩)
  · omega
  · exact List.lt_irrefl _ h
theorem kLt_trans {a b c : VK} (h : kLt a b) (k : kLt b c) : kLt a c := by
  rcases h with h | ⟨h1, h2⟩ <;> rcases k with k | ⟨k1, k2⟩
  · exact .inl (by omega)
  · exact .inl (by omega)
  · exact .inl (by omega)
  · exact .inr ⟨by omega, List.lt_trans h2 k2⟩
theorem kLt_total (a b : VK) : kLt a b ∨ a = b ∨ kLt b a := by
  by_cases h : a.1 = b.1
  · by_cases h1 : a.2.data.toList < b.2.data.toList
    · exact .inl (.inr ⟨h, h1⟩)
    · by_cases h2 : b.2.data.toList < a.2.data.toList
      · exact .inr (.inr (.inr ⟨h.symm, h2⟩))
      · have e := List.le_antisymm (List.not_lt.1 h2) (List.not_lt.1 h1)
        exact .inr (.inl (Prod.ext h (bytes_ext e)))
  · by_cases h1 : a.1 < b.1
    · exact .inl (.inl h1)
    · exact .inr (.inr (.inl (by omega)))
instance (a b : VK) : Decidable (kLt a b) := by unfold kLt; infer_instance
def cntK (k : VK) (L : List VK) : Nat := L.countP fun y => decide (y = k)
/-- the terms of a list of variables -/
def Terms (L : List VK) (S : List Trm) : Prop := ∀ t : Trm, t ∈ S ↔ 0 < t.2.2 ∧ t.2.2 = (cntK t.key L : Nat)
/-- a variable once more: where it stands, or at the end -/
def bump (x : VK) : List Trm → List Trm
  | [] => [(x.1, x.2, 1)]
  | t :: l => if t.key = x then (t.1, t.2.1, t.2.2 + 1) :: l else t :: bump x l
/-- .. or in order -/
def insT (x : VK) : List Trm → List Trm
  | [] => [(x.1, x.2, 1)]
  | t :: l => if kLt t.key x then t :: insT x l else if t.key = x then (t.1, t.2.1, t.2.2 + 1) :: l else (x.1, x.2, 1) :: t :: l
def Keys (S : List Trm) : Prop := S.Pairwise fun a b => a.key ≠ b.key
def Ordered (S : List Trm) : Prop := S.Pairwise fun a b => kLt a.key b.key
theorem Ordered.keys {S : List Trm} (h : Ordered S) : Keys S := by
  refine List.Pairwise.imp ?_ h
  intro a b h e
  rw [e] at h
  exact kLt_irrefl _ h
theorem Trm.mk {t : Trm} {k : VK} {c : Int} (h : t.key = k) (h2 : t.2.2 = c) : t = (k.1, k.2, c) := by subst h h2; rfl
theorem mem_bump (x : VK) : ∀ {S : List Trm}, Keys S → ∀ t : Trm, t ∈ bump x S ↔ (t ∈ S ∧ t.key ≠ x) ∨ (t.key = x ∧ ((∃ c, (x.1, x.2, c) ∈ S ∧ t.2.2 = c + 1) ∨ ((∀ c, (x.1, x.2, c) ∉ S) ∧ t.2.2 = 1)))
  | [], _, t => by
    obtain ⟨t1, t2, t3⟩ := t
    obtain ⟨x1, x2⟩ := x
    simp [bump, Trm.key]
    constructor
    · rintro ⟨rfl, rfl, rfl⟩; exact ⟨⟨rfl, rfl⟩, rfl⟩
    · rintro ⟨⟨rfl, rfl⟩, rfl⟩; exact ⟨rfl, rfl, rfl⟩
  | s :: l, hk, t => by
    obtain ⟨hs, hl⟩ := List.pairwise_cons.1 hk
    unfold bump
    by_cases e : s.key = x
    · rw [if_pos e]
      subst e
      have hno : ∀ u ∈ l, u.key ≠ s.key := fun u hu he => hs u hu he.symm
      constructor
      · intro h
        rcases List.mem_cons.1 h with rfl | h
        · exact .inr ⟨rfl, .inl ⟨s.2.2, List.mem_cons_self, rfl⟩⟩
        · exact .inl ⟨List.mem_cons_of_mem _ h, hno t h⟩
      · rintro (⟨h, h1⟩ | ⟨h1, ⟨c, h2, h3⟩ | ⟨h2, _⟩⟩)
        · rcases List.mem_cons.1 h with rfl | h
          · exact absurd rfl h1
          · exact List.mem_cons_of_mem _ h
        · rcases List.mem_cons.1 h2 with h2 | h2
          · rw [Trm.mk h1 h3]
            have h4 : c = s.2.2 := by rw [← h2]
            rw [h4]; exact List.mem_cons_self
          · exact absurd (show Trm.key (s.key.1, s.key.2, c) = s.key from rfl) (hno _ h2)
        · exact absurd List.mem_cons_self (h2 s.2.2)
    · rw [if_neg e]
      have ih := mem_bump x hl t
      constructor
      · intro h
        rcases List.mem_cons.1 h with rfl | h
        · exact .inl ⟨List.mem_cons_self, e⟩
        · rcases ih.1 h with ⟨h1, h2⟩ | ⟨h1, ⟨c, h2, h3⟩ | ⟨h2, h3⟩⟩
          · exact .inl ⟨List.mem_cons_of_mem _ h1, h2⟩
          · exact .inr ⟨h1, .inl ⟨c, List.mem_cons_of_mem _ h2, h3⟩⟩
          · refine .inr ⟨h1, .inr ⟨fun c hc => ?_, h3⟩⟩
            rcases List.mem_cons.1 hc with rfl | hc
            · exact e rfl
            · exact h2 c hc
      · rintro (⟨h, h1⟩ | ⟨h1, ⟨c, h2, h3⟩ | ⟨h2, h3⟩⟩)
        · rcases List.mem_cons.1 h with rfl | h
          · exact List.mem_cons_self
          · exact List.mem_cons_of_mem _ (ih.2 (.inl ⟨h, h1⟩))
        · rcases List.mem_cons.1 h2 with rfl | h2
          · exact absurd rfl e
          · exact List.mem_cons_of_mem _ (ih.2 (.inr ⟨h1, .inl ⟨c, h2, h3⟩⟩))
        · exact List.mem_cons_of_mem _ (ih.2 (.inr ⟨h1, .inr ⟨fun c hc => h2 c (List.mem_cons_of_mem _ hc), h3⟩⟩))
theorem mem_insT (x : VK) : ∀ {S : List Trm}, Ordered S → ∀ t : Trm, t ∈ insT x S ↔ (t ∈ S ∧ t.key ≠ x) ∨ (t.key = x ∧ ((∃ c, (x.1, x.2, c) ∈ S ∧ t.2.2 = c + 1) ∨ ((∀ c, (x.1, x.2, c) ∉ S) ∧ t.2.2 = 1)))
  | [], _, t => by
    obtain ⟨t1, t2, t3⟩ := t
    obtain ⟨x1, x2⟩ := x
    simp [insT, Trm.key]
    constructor
    · rintro ⟨rfl, rfl, rfl⟩; exact ⟨⟨rfl, rfl⟩, rfl⟩
    · rintro ⟨⟨rfl, rfl⟩, rfl⟩; exact ⟨rfl, rfl, rfl⟩
  | s :: l, hk, t => by
    obtain ⟨hs, hl⟩ := List.pairwise_cons.1 hk
    have hb := mem_bump x hk.keys t
    unfold bump at hb
    unfold insT
    by_cases e1 : kLt s.key x
    · have e : s.key ≠ x := fun e => kLt_irrefl _ (e ▸ e1)
      rw [if_pos e1]
      rw [if_neg e] at hb
      rw [← hb]
      have ih := (mem_insT x hl t).trans (mem_bump x (Ordered.keys hl) t).symm
      rw [List.mem_cons, List.mem_cons, ih]
    · rw [if_neg e1]
      by_cases e : s.key = x
      · rw [if_pos e] at hb ⊢
        exact hb
      · rw [if_neg e]
        have hno : ∀ u ∈ s :: l, u.key ≠ x := by
          intro u hu he
          rcases List.mem_cons.1 hu with rfl | hu
          · exact e he
          · have h1 := hs u hu
            rw [he] at h1
            exact e1 h1
        have hno2 : ∀ c, (x.1, x.2, c) ∉ s :: l := fun c hc => hno _ hc rfl
        constructor
        · intro h
          rcases List.mem_cons.1 h with rfl | h
          · exact .inr ⟨rfl, .inr ⟨hno2, rfl⟩⟩
          · exact .inl ⟨h, hno t h⟩
        · rintro (⟨h, h1⟩ | ⟨h1, ⟨c, h2, h3⟩ | ⟨h2, h3⟩⟩)
          · exact List.mem_cons_of_mem _ h
          · exact absurd h2 (hno2 c)
          · rw [Trm.mk h1 h3]; exact List.mem_cons_self
theorem key_bump {x : VK} {S : List Trm} {t : Trm} (h : t ∈ bump x S) : t.key = x ∨ ∃ s ∈ S, s.key = t.key := by
  induction S with
  | nil =>
    simp only [bump, List.mem_singleton] at h
    subst h; exact .inl rfl
  | cons s l ih =>
    unfold bump at h
    by_cases e : s.key = x
    · rw [if_pos e] at h
      rcases List.mem_cons.1 h with rfl | h
      · exact .inl e
      · exact .inr ⟨t, List.mem_cons_of_mem _ h, rfl⟩
    · rw [if_neg e] at h
      rcases List.mem_cons.1 h with rfl | h
      · exact .inr ⟨t, List.mem_cons_self, rfl⟩
      · rcases ih h with h | ⟨u, hu, h⟩
        · exact .inl h
        · exact .inr ⟨u, List.mem_cons_of_mem _ hu, h⟩
theorem key_insT {x : VK} {S : List Trm} {t : Trm} (h : t ∈ insT x S) : t.key = x ∨ ∃ s ∈ S, s.key = t.key := by
  induction S with
  | nil =>
    simp only [insT, List.mem_singleton] at h
    subst h; exact .inl rfl
  | cons s l ih =>
    unfold insT at h
    by_cases e1 : kLt s.key x
    · rw [if_pos e1] at h
      rcases List.mem_cons.1 h with rfl | h
      · exact .inr ⟨t, List.mem_cons_self, rfl⟩
      · rcases ih h with h | ⟨u, hu, h⟩
        · exact .inl h
        · exact .inr ⟨u, List.mem_cons_of_mem _ hu, h⟩
    · rw [if_neg e1] at h
      by_cases e : s.key = x
      · rw [if_pos e] at h
        rcases List.mem_cons.1 h with rfl | h
        · exact .inl e
        · exact .inr ⟨t, List.mem_cons_of_mem _ h, rfl⟩
      · rw [if_neg e] at h
        rcases List.mem_cons.1 h with rfl | h
        · exact .inl rfl
        · exact .inr ⟨t, h, rfl⟩
theorem Keys.bump {x : VK} : ∀ {S : List Trm}, Keys S → Keys (bump x S)
  | [], _ => List.pairwise_singleton _ _
  | s :: l, h => by
    obtain ⟨hs, hl⟩ := List.pairwise_cons.1 h
    unfold Go.Proofs.YtdplphoohnnbcaaGreatDoor.bump
    by_cases e : s.key = x
    · rw [if_pos e]; exact List.pairwise_cons.2 ⟨fun u hu => hs u hu, hl⟩
    · rw [if_neg e]
      refine List.pairwise_cons.2 ⟨fun u hu => ?_, Keys.bump hl⟩
      rcases key_bump hu with h1 | ⟨v, hv, h1⟩
      · rw [h1]; exact e
      · rw [← h1]; exact hs v hv
theorem Ordered.insT {x : VK} : ∀ {S : List Trm}, Ordered S → Ordered (insT x S)
  | [], _ => List.pairwise_singleton _ _
  | s :: l, h => by
    obtain ⟨hs, hl⟩ := List.pairwise_cons.1 h
    unfold Go.Proofs.YtdplphoohnnbcaaGreatDoor.insT
    by_cases e1 : kLt s.key x
    · rw [if_pos e1]
      refine List.pairwise_cons.2 ⟨fun u hu => ?_, Ordered.insT hl⟩
      rcases key_insT hu with h1 | ⟨v, hv, h1⟩
      · rw [h1]; exact e1
      · rw [← h1]; exact hs v hv
    · rw [if_neg e1]
      by_cases e : s.key = x
      · rw [if_pos e]; exact List.pairwise_cons.2 ⟨fun u hu => hs u hu, hl⟩
      · rw [if_neg e]
        have hx : kLt x s.key := by
          rcases kLt_total s.key x with h | h | h
          · exact absurd h e1
          · exact absurd h e
          · exact h
        refine List.pairwise_cons.2 ⟨fun u hu => ?_, h⟩
        rcases List.mem_cons.1 hu with rfl | hu
        · exact hx
        · exact kLt_trans hx (hs u hu)
theorem Terms.more {L : List VK} {S S' : List Trm} {x : VK} (h : Terms L S)
    (hm : ∀ t : Trm, t ∈ S' ↔ (t ∈ S ∧ t.key ≠ x) ∨ (t.key = x ∧ ((∃ c, (x.1, x.2, c) ∈ S ∧ t.2.2 = c + 1) ∨ ((∀ c, (x.1, x.2, c) ∉ S) ∧ t.2.2 = 1)))) : Terms (L ++ [x]) S' := by
  intro t
  have hc : cntK t.key (L ++ [x]) = cntK t.key L + if x = t.key then 1 else 0 := by
    unfold cntK
    rw [List.countP_append]
    congr 1
    by_cases e : x = t.key <;> simp [e]
  rw [hm t, h t, hc]
  by_cases e : t.key = x
  · rw [if_pos e.symm]
    simp only [e, ne_eq, not_true_eq_false, and_false, false_or, true_and]
    have hx : ∀ c, (x.1, x.2, c) ∈ S ↔ 0 < c ∧ c = (cntK x L : Nat) := fun c => h (x.1, x.2, c)
    constructor
    · rintro (⟨c, hc, hc2⟩ | ⟨h1, h2⟩)
      · have := (hx c).1 hc; omega
      · have h3 : cntK x L = 0 := by
          apply Nat.eq_zero_of_not_pos
          intro hp
          exact h1 (cntK x L : Nat) ((hx _).2 ⟨by omega, rfl⟩)
        omega
    · rintro ⟨h1, h2⟩
      by_cases h3 : cntK x L = 0
      · exact .inr ⟨fun c hc => by have := (hx c).1 hc; omega, by omega⟩
      · exact .inl ⟨(cntK x L : Nat), (hx _).2 ⟨by omega, rfl⟩, by omega⟩
  · rw [if_neg fun h => e h.symm]
    simp [e]
theorem Terms.nil : Terms [] [] := fun t => by simp [cntK]; omega
/-- what the program gathers -/
def gather (L : List VK) : List Trm := L.foldl (fun S x => bump x S) []
/-- what the reference gathers -/
def sortedT (L : List VK) : List Trm := L.foldl (fun S x => insT x S) []
theorem gather_snoc (L : List VK) (x : VK) : gather (L ++ [x]) = bump x (gather L) := by unfold gather; rw [List.foldl_append]; rfl
theorem sortedT_snoc (L : List VK) (x : VK) : sortedT (L ++ [x]) = insT x (sortedT L) := by unfold sortedT; rw [List.foldl_append]; rfl
theorem list_snoc {α : Type} {C : List α → Prop} (h0 : C []) (h1 : ∀ l x, C l → C (l ++ [x])) (l : List α) : C l := by
  rw [← List.reverse_reverse l]
  induction l.reverse with
  | nil => exact h0
  | cons x l ih => rw [List.reverse_cons]; exact h1 _ _ ih
theorem gather_terms (L : List VK) : Terms L (gather L) ∧ Keys (gather L) := by
  refine list_snoc (C := fun L => Terms L (gather L) ∧ Keys (gather L)) ⟨Terms.nil, List.Pairwise.nil⟩ (fun l x ⟨h1, h2⟩ => ?_) L
  rw [gather_snoc]
  exact ⟨h1.more (mem_bump x h2), h2.bump⟩
theorem sortedT_terms (L : List VK) : Terms L (sortedT L) ∧ Ordered (sortedT L) := by
  refine list_snoc (C := fun L => Terms L (sortedT L) ∧ Ordered (sortedT L)) ⟨Terms.nil, List.Pairwise.nil⟩ (fun l x ⟨h1, h2⟩ => ?_) L
  rw [sortedT_snoc]
  exact ⟨h1.more (mem_insT x h2), h2.insT⟩
theorem ordered_eq : ∀ {S S' : List Trm}, Ordered S → Ordered S' → (∀ t, t ∈ S ↔ t ∈ S') → S = S'
  | [], [], _, _, _ => rfl
  | [], t :: l, _, _, h => absurd ((h t).2 List.mem_cons_self) (by simp)
  | t :: l, [], _, _, h => absurd ((h t).1 List.mem_cons_self) (by simp)
  | s :: l, t :: m, h1, h2, h => by
    obtain ⟨a1, a2⟩ := List.pairwise_cons.1 h1
    obtain ⟨b1, b2⟩ := List.pairwise_cons.1 h2
    have e : s = t := by
      rcases List.mem_cons.1 ((h s).1 List.mem_cons_self) with e | e
      · exact e
      · rcases List.mem_cons.1 ((h t).2 List.mem_cons_self) with e' | e'
        · exact e'.symm
        · exact absurd (kLt_trans (a1 _ e') (b1 _ e)) (kLt_irrefl _)
    subst e
    congr 1
    refine ordered_eq a2 b2 fun u => ?_
    have hs : s ∉ l := fun hh => kLt_irrefl _ (a1 _ hh)
    have hm : s ∉ m := fun hh => kLt_irrefl _ (b1 _ hh)
    constructor
    · intro hu
      rcases List.mem_cons.1 ((h u).1 (List.mem_cons_of_mem _ hu)) with rfl | h'
      · exact absurd hu hs
      · exact h'
    · intro hu
      rcases List.mem_cons.1 ((h u).2 (List.mem_cons_of_mem _ hu)) with rfl | h'
      · exact absurd hu hm
      · exact h'
/-- a sorted permutation of what the program gathers is what the reference gathers -/
theorem gather_sorted {L : List VK} {S : List Trm} (hp : S.Perm (gather L)) (hs : S.Pairwise fun a b => ¬ kLt b.key a.key) : S = sortedT L := by
  have hk : Keys S := by
    have := (gather_terms L).2
    exact (List.Perm.pairwise_iff (fun {a b} h e => h e.symm) hp).2 this
  have ho : Ordered S := by
    refine List.Pairwise.imp (fun {a b} h => ?_) (List.Pairwise.and hk hs)
    rcases kLt_total a.key b.key with h1 | h1 | h1
    · exact h1
    · exact absurd h1 h.1
    · exact absurd h1 h.2
  refine ordered_eq ho (sortedT_terms L).2 fun t => ?_
  rw [hp.mem_iff, (gather_terms L).1 t, (sortedT_terms L).1 t]
theorem gather_sum (L : List VK) : ∀ t ∈ gather L, 0 < t.2.2 ∧ t.2.2 ≤ L.length := fun t ht => by
  have := ((gather_terms L).1 t).1 ht
  have h2 := List.countP_le_length (p := fun y => decide (y = t.key)) (l := L)
  unfold cntK at this
  omega
/-- by places -/
theorem bump_none {x : VK} : ∀ {S : List Trm}, (∀ t ∈ S, t.key ≠ x) → bump x S = S ++ [(x.1, x.2, 1)]
  | [], _ => rfl
  | s :: l, h => by
    unfold bump
    rw [if_neg (h s List.mem_cons_self), bump_none fun t ht => h t (List.mem_cons_of_mem _ ht)]; rfl
theorem bump_at {x : VK} : ∀ {S : List Trm} {i : Nat} (hi : i < S.length), S[i].key = x → (∀ j (hj : j < i), (S[j]'(by omega)).key ≠ x) → bump x S = S.set i (x.1, x.2, S[i].2.2 + 1)
  | [], i, hi, _, _ => absurd hi (by simp)
  | s :: l, 0, hi, h, _ => by
    have h' : s.key = x := h
    unfold bump
    rw [if_pos h']
    subst h'
    rfl
  | s :: l, i + 1, hi, h, hn => by
    have h0 : s.key ≠ x := hn 0 (by omega)
    unfold bump
    rw [if_neg h0]
    have := bump_at (x := x) (S := l) (i := i) (by simpa using hi) h (fun j hj => hn (j + 1) (by omega))
    rw [this]; rfl
theorem insT_at {x : VK} : ∀ {S : List Trm} {i : Nat}, i ≤ S.length → (∀ j (hj : j < S.length), j < i → kLt S[j].key x) → (∀ hi : i < S.length, ¬ kLt S[i].key x) →
    insT x S = if h : i < S.length then (if S[i].key = x then S.set i (x.1, x.2, S[i].2.2 + 1) else S.take i ++ (x.1, x.2, 1) :: S.drop i) else S ++ [(x.1, x.2, 1)]
  | [], i, hi, _, _ => by
    obtain rfl : i = 0 := by simpa using hi
    rfl
  | s :: l, 0, hi, _, hn => by
    have h0 : ¬ kLt s.key x := hn (by simp)
    unfold insT
    rw [if_neg h0, dif_pos (by simp)]
    by_cases e : s.key = x
    · rw [if_pos e, if_pos (show (s :: l)[0].key = x from e)]
      subst e; rfl
    · rw [if_neg e, if_neg (show ¬ (s :: l)[0].key = x from e)]; rfl
  | s :: l, i + 1, hi, hl, hn => by
    have h0 : kLt s.key x := hl 0 (by simp) (by omega)
    unfold insT
    rw [if_pos h0, insT_at (x := x) (S := l) (i := i) (by simpa using hi) (fun j hj h => hl (j + 1) (by simpa using hj) (by omega)) (fun h => hn (by simpa using h))]
    by_cases h : i < l.length
    · have hh : i + 1 < (s :: l).length := by simpa using h
      rw [dif_pos h, dif_pos hh]
      by_cases e : l[i].key = x
      · rw [if_pos e, if_pos (show (s :: l)[i + 1].key = x from e)]; rfl
      · rw [if_neg e, if_neg (show ¬ (s :: l)[i + 1].key = x from e)]; rfl
    · rw [dif_neg h, dif_neg (by simpa using h)]; rfl

end Go.Proofs.YtdplphoohnnbcaaGreatDoor

namespace Go.Proofs.YtdplphoohnnbcaaGreatDoor
open Go.RowKit Go.Shelf

/-- the cells of a list of terms -/
def tmCells (l : List Trm) : List Value := l.flatMap fun t => [.int .i64 t.1, .string t.2.1, .int .i64 t.2.2]
theorem tmCells_length (l : List Trm) : (tmCells l).length = l.length * 3 := by
  induction l with
  | nil => rfl
  | cons x l ih => simp only [tmCells, List.flatMap_cons, List.length_append, List.length_cons, List.length_nil] at ih ⊢; omega
theorem tmCells_snoc (l : List Trm) (t : Trm) : tmCells (l ++ [t]) = tmCells l ++ [.int .i64 t.1, .string t.2.1, .int .i64 t.2.2] := by simp [tmCells]
def trmAt (l : List Trm) (i : Nat) : Trm := l.getD i (0, ⟨#[]⟩, 0)
theorem trmAt_eq {l : List Trm} {i : Nat} (h : i < l.length) : trmAt l i = l[i] := by unfold trmAt; rw [List.getD_eq_getElem?_getD, List.getElem?_eq_getElem h]; rfl
theorem tmCells_get : ∀ (l : List Trm) (i : Nat), i < l.length → (tmCells l)[i * 3]? = some (.int .i64 (trmAt l i).1) ∧ (tmCells l)[i * 3 + 1]? = some (.string (trmAt l i).2.1) ∧ (tmCells l)[i * 3 + 2]? = some (.int .i64 (trmAt l i).2.2)
  | [], i, h => by simp at h
  | x :: l, 0, _ => ⟨rfl, rfl, rfl⟩
  | x :: l, i + 1, h => by
    obtain ⟨h1, h2, h3⟩ := tmCells_get l i (by simpa using h)
    have e0 : (i + 1) * 3 = i * 3 + 1 + 1 + 1 := by omega
    have e1 : (i + 1) * 3 + 1 = i * 3 + 1 + 1 + 1 + 1 := by omega
    have e2 : (i + 1) * 3 + 2 = i * 3 + 2 + 1 + 1 + 1 := by omega
    rw [e2, e1, e0]
    exact ⟨h1, h2, h3⟩
theorem tmCells_one (l : List Trm) : ∀ u ∈ tmCells l, u.oneCell' = true := by
  intro u hu
  unfold tmCells at hu
  obtain ⟨t, _, h⟩ := List.mem_flatMap.1 hu
  simp at h
  rcases h with rfl | rfl | rfl <;> rfl
theorem infoTerm : (Tryz.prog.info? 49).map (fun i => (i.zero, i.size, i.bytes)) = some (some (.agg #[.int .i64 0, .string ⟨#[]⟩, .int .i64 0]), 3, 32) := by kernel_rfl
/-- a list of terms lies in memory -/
structure TmAt (w : World) (a : Option Addr) (b off : Nat) (l : List Trm) : Prop where
  hn : l.length ≤ 140737488355328
  pa : 0 < l.length → a = some ⟨b, off, none⟩
  pb : 0 < l.length → ∀ w', Ext w w' → b < w'.heap.size
  p0 : ∀ w', Ext w w' → ∀ k, k < l.length → w'.cell? ⟨b, off + k * 3, none⟩ = some (.int .i64 (trmAt l k).1)
  p1 : ∀ w', Ext w w' → ∀ k, k < l.length → w'.cell? ⟨b, off + k * 3 + 1, none⟩ = some (.string (trmAt l k).2.1)
  p2 : ∀ w', Ext w w' → ∀ k, k < l.length → w'.cell? ⟨b, off + k * 3 + 2, none⟩ = some (.int .i64 (trmAt l k).2.2)
theorem TmAt.ext {w w' : World} {a : Option Addr} {b off : Nat} {l : List Trm} (h : TmAt w a b off l) (x : Ext w w') : TmAt w' a b off l :=
  ⟨h.hn, h.pa, fun h0 w2 y => h.pb h0 w2 (x.trans y), fun w2 y => h.p0 w2 (x.trans y), fun w2 y => h.p1 w2 (x.trans y), fun w2 y => h.p2 w2 (x.trans y)⟩
theorem Que.slice {w : World} {base size : Nat} {v : Value} {n : Nat} {xs : List Value} (h : Que w base size v n xs) : ∃ a c, v = .slice a n c := by
  rcases h.val with ⟨ao, hv, hn, _⟩ | ⟨g, off, cap, hv, _⟩
  · exact ⟨ao, 0, by rw [hv, hn]⟩
  · exact ⟨_, cap, hv⟩
/-- a slice of the call's own holds these terms -/
abbrev TmOwn (w : World) (base : Nat) (v : Value) (l : List Trm) : Prop := Que w base 3 v l.length (tmCells l)
theorem TmOwn.at {w : World} {base : Nat} {v : Value} {l : List Trm} (h : TmOwn w base v l) (hn : l.length ≤ 1000) :
    ∃ a g off cap, v = .slice a l.length cap ∧ TmAt w a g off l ∧ (0 < l.length → base ≤ g ∧ g < w.heap.size) ∧ (∀ j, j < l.length * 3 → w.frozen? ⟨g, off + j, none⟩ = false) := by
  rcases h.val with ⟨ao, hv, h0, ha⟩ | ⟨g, off, cap, hv, h1, h2, h3, h4, h5, h6⟩
  · exact ⟨ao, 0, 0, 0, by rw [hv, h0], ⟨by omega, fun h => by omega, fun h => by omega, fun w' _ k hk => by omega, fun w' _ k hk => by omega, fun w' _ k hk => by omega⟩, fun h => by omega, fun j hj => by omega⟩
  · have c : ∀ w', Ext w w' → ∀ j, j < l.length * 3 → w'.cell? ⟨g, off + j, none⟩ = (tmCells l)[j]? := fun w' x j hj => by
      have e := h5 j hj
      have hlt : j < (tmCells l).length := by rw [tmCells_length]; exact hj
      rw [List.getElem?_eq_getElem hlt] at e ⊢
      exact x.cell e
    exact ⟨_, g, off, cap, hv, ⟨by omega, fun _ => rfl, fun _ w' x => Nat.lt_of_lt_of_le h2 x.le, fun w' x k hk => by rw [c w' x _ (by omega)]; exact (tmCells_get l k hk).1,
      fun w' x k hk => by rw [Nat.add_assoc, c w' x _ (by omega)]; exact (tmCells_get l k hk).2.1, fun w' x k hk => by rw [Nat.add_assoc, c w' x _ (by omega)]; exact (tmCells_get l k hk).2.2⟩, fun _ => ⟨h1, h2⟩,
      fun j hj => (h6 j (by have := Nat.mul_le_mul_right 3 h3; omega)).2⟩

/-- slices.IndexFunc at Term: the first i < n with p i, or -1 -/
theorem idx_Term (w : World) (a : Option Addr) (b off n cap : Nat) (c0 c1 c2 : Nat → Value) (g : Nat) (lb : Array Value) (p : Nat → Bool)
    (hn : n ≤ 140737488355328) (ha : 0 < n → a = some ⟨b, off, none⟩)
    (l0 : ∀ w', Ext w w' → ∀ i, i < n → w'.cell? ⟨b, off + i * 3, none⟩ = some (c0 i))
    (l1 : ∀ w', Ext w w' → ∀ i, i < n → w'.cell? ⟨b, off + i * 3 + 1, none⟩ = some (c1 i))
    (l2 : ∀ w', Ext w w' → ∀ i, i < n → w'.cell? ⟨b, off + i * 3 + 2, none⟩ = some (c2 i))
    (eg : Enters Tryz.prog g)
    (hp : ∀ i, i < n → ∀ w', Ext w w' → Calls Tryz.prog g (#[.agg #[c0 i, c1 i, c2 i]] ++ lb) w' fun e w'' => e = .returned (.bool (p i)) ∧ Ext w' w'') :
    Calls Tryz.prog 40 #[.slice a n cap, .func (.func g) #[] lb] w fun e w' => e = .returned (.int .i64 (idxI p n)) ∧ Ext w w' := by
  have HP := Lib.hid hp
  clear hp
  go_enter Tryz.func40, Tryz.ntmps40
  go_wp2
  go_loopw [8] (fun v wr => ∃ k : Nat, k ≤ n ∧ v = .int .i64 k ∧ Ext w wr ∧ NoneB p k) (fun v _ => n - (intOf v).toNat)
  case atStart => exact ⟨0, Nat.zero_le _, rfl, Ext.refl _, NoneB.zero _⟩
  case round =>
    obtain ⟨k, hk, rfl, hx, hN⟩ := hrel
    have HN := Lib.hid hN
    clear hN
    by_cases hlt : k < n
    · obtain rfl := ha (by omega)
      have hc := HP.out k hlt wr hx
      unfold Enters at eg
      cases hq : p k with
      | true =>
        rw [hq] at hc
        go_wp2_with (go_at_fn g; refine hc.mono ?_; rintro e w' ⟨rfl, hx'⟩)
        go_ret
        exact ⟨ret_int (idxI_hit hlt hq HN.out).symm, hx.trans hx'⟩
      | false =>
        rw [hq] at hc
        go_wp2_with (go_at_fn g; refine hc.mono ?_; rintro e w' ⟨rfl, hx'⟩)
        go_roundw
        case rel => exact ⟨k + 1, by omega, by go_num, hx.trans hx', HN.out.succ hq⟩
        case measure => simp [intOf]; omega
    · have HN' := Lib.hid (show NoneB p n from fun i hi => HN.out i (by omega))
      go_wp2
      go_ret
      exact ⟨ret_int (idxI_none HN'.out).symm, hx⟩


set_option maxRecDepth 100000 in
set_option maxHeartbeats 1000000 in
/-- slices.Equal at equal lists of terms -/
theorem equalTm_any (w : World) (a1 a2 : Option Addr) (b1 b2 o1 o2 c1 c2 : Nat) (l : List Trm) (h1 : TmAt w a1 b1 o1 l) (h2 : TmAt w a2 b2 o2 l) :
    Calls Tryz.prog 18 #[.slice a1 l.length c1, .slice a2 l.length c2] w fun e w' => e = .returned (.bool true) ∧ Ext w w' := by
  have hn1 := h1.hn
  have H1 := Lib.hid h1
  have H2 := Lib.hid h2
  have hww : Ext w w := Ext.refl _
  obtain ⟨n, hn⟩ : ∃ n, n = l.length := ⟨_, rfl⟩
  rw [← hn] at hn1 ⊢
  have HN := Lib.hid hn
  clear h1 h2 hn
  go_enter Tryz.func18, Tryz.ntmps18
  go_wp2_with fail
  go_loopg [5, 13] n (fun gg v5 v wr => ∃ k : Nat, k ≤ n ∧ gg = n - k ∧ v = .int .i64 k ∧ (∃ u, v5 = u) ∧ Ext w wr)
  case atStart => exact ⟨0, by omega, rfl, rfl, ⟨_, rfl⟩, hww⟩
  case round =>
    obtain ⟨k, hk, rfl, rfl, ⟨u, rfl⟩, hxr⟩ := hrel
    by_cases hlt : k < n
    · have hlt' : (k : Int) < (n : Int) := by omega
      have hkl : k < l.length := by rw [← HN.out]; exact hlt
      obtain rfl := H1.out.pa (by omega)
      obtain rfl := H2.out.pa (by omega)
      have pb1 := H1.out.pb (by omega)
      have pb2 := H2.out.pb (by omega)
      have p0 : ∀ w', Ext w w' → w'.cell? ⟨b1, o1 + k * 3, none⟩ = _ := fun w' h => H1.out.p0 w' h k hkl
      have p1 : ∀ w', Ext w w' → w'.cell? ⟨b1, o1 + k * 3 + 1, none⟩ = _ := fun w' h => H1.out.p1 w' h k hkl
      have p2 : ∀ w', Ext w w' → w'.cell? ⟨b1, o1 + k * 3 + 2, none⟩ = _ := fun w' h => H1.out.p2 w' h k hkl
      have q0 : ∀ w', Ext w w' → w'.cell? ⟨b2, o2 + k * 3, none⟩ = _ := fun w' h => H2.out.p0 w' h k hkl
      have q1 : ∀ w', Ext w w' → w'.cell? ⟨b2, o2 + k * 3 + 1, none⟩ = _ := fun w' h => H2.out.p1 w' h k hkl
      have q2 : ∀ w', Ext w w' → w'.cell? ⟨b2, o2 + k * 3 + 2, none⟩ = _ := fun w' h => H2.out.p2 w' h k hkl
      generalize trmAt l k = t at p0 p1 p2 q0 q1 q2
      obtain ⟨x, s, c⟩ := t
      go_upto_region 6 with fail
      go_quiet (fail)
      go_wp2_with fail
      go_roundg (n - (k + 1))
      case rel => exact ⟨k + 1, by omega, rfl, by go_num, ⟨_, rfl⟩, hxr.drewN _⟩
      case measure => omega
    · have hke : k = n := by omega
      subst hke
      go_wp2_with fail
      go_ret
      exact ⟨rfl, hxr⟩

/-- comparisons -/
theorem compareBytes_lt : ∀ a b : List UInt8, (Lib.compareBytes a b < 0 ↔ a < b)
  | [], [] => by simp [Lib.compareBytes]
  | [], _ :: _ => by simp [Lib.compareBytes]
  | _ :: _, [] => by simp [Lib.compareBytes]
  | a :: p, b :: q => by
    unfold Lib.compareBytes
    rw [List.cons_lt_cons_iff]
    by_cases h : a < b
    · simp [h]
    · rw [if_neg h]
      by_cases h2 : b < a
      · rw [if_pos h2]
        have : ¬ a = b := fun e => by subst e; exact h h2
        simp [h, this]
      · rw [if_neg h2, compareBytes_lt p q]
        have e : a = b := UInt8.le_antisymm (UInt8.not_lt.1 h2) (UInt8.not_lt.1 h)
        simp [e]
/-- the order of terms, as the program has it -/
def cmpT (x y : Trm) : Int := if (Lib.compareInt x.1 y.1 != 0) = true then Lib.compareInt x.1 y.1 else Lib.compareBytes x.2.1.data.toList y.2.1.data.toList
theorem cmpT_lt (x y : Trm) : cmpT x y < 0 ↔ kLt x.key y.key := by
  unfold cmpT kLt Trm.key Lib.compareInt
  by_cases h : x.1 < y.1
  · rw [if_pos h]; simp [h]
  · rw [if_neg h]
    by_cases h2 : x.1 > y.1
    · rw [if_pos h2]; simp [h]; omega
    · rw [if_neg h2]
      have e : x.1 = y.1 := by omega
      simp [e, compareBytes_lt]
set_option maxHeartbeats 1000000 in
theorem isNaN_any (a : Int) (w : World) : Calls Tryz.prog 84 #[.int .i64 a] w fun e w' => e = .returned (.bool false) ∧ w = w' := by
  go_enter Tryz.func84, Tryz.ntmps84
  go_wp2
  go_ret
  exact ⟨by simp, rfl⟩
set_option maxHeartbeats 1000000 in
theorem cmpInt_any (a b : Int) (w : World) : Calls Tryz.prog 45 #[.int .i64 a, .int .i64 b] w fun e w' => e = .returned (.int .i64 (Lib.compareInt a b)) ∧ w = w' := by
  unfold Lib.compareInt
  by_cases h : a < b
  · rw [if_pos h]
    go_enter Tryz.func45, Tryz.ntmps45
    go_wp2_with (go_at_call 84; refine (isNaN_any _ _).mono ?_; rintro e w' ⟨rfl, rfl⟩)
    go_ret
    exact ⟨rfl, rfl⟩
  · rw [if_neg h]
    by_cases h2 : a > b
    · rw [if_pos h2]
      go_enter Tryz.func45, Tryz.ntmps45
      go_wp2_with (go_at_call 84; refine (isNaN_any _ _).mono ?_; rintro e w' ⟨rfl, rfl⟩)
      go_ret
      exact ⟨rfl, rfl⟩
    · rw [if_neg h2]
      go_enter Tryz.func45, Tryz.ntmps45
      go_wp2_with (go_at_call 84; refine (isNaN_any _ _).mono ?_; rintro e w' ⟨rfl, rfl⟩)
      go_ret
      exact ⟨rfl, rfl⟩
set_option maxRecDepth 100000 in
set_option maxHeartbeats 1000000 in
theorem cmpStr_any (a b : ByteArray) (w : World) : Calls Tryz.prog 46 #[.string a, .string b] w fun e w' => e = .returned (.int .i64 (Lib.compareBytes a.data.toList b.data.toList)) ∧ w = w' := by
  go_enter Tryz.func46, Tryz.ntmps46
  go_wp2
  rw [run_callFunc_extern Tryz.func120 (by kernel_rfl) (by kernel_rfl) (by kernel_rfl) (e := Extern.BytealgCompare.compare) (by kernel_rfl), Lib.run_compareString]
  simp only [Result.andThen]
  rw [Oper.upon_value]
  go_wp2
  go_ret
  exact ⟨rfl, rfl⟩
set_option maxRecDepth 100000 in
set_option maxHeartbeats 1000000 in
theorem cmpOr_any (w : World) (g : Nat) (x y : Int) (c0 : w.cell? ⟨g, 0, none⟩ = some (.int .i64 x)) (c1 : w.cell? ⟨g, 1, none⟩ = some (.int .i64 y)) :
    Calls Tryz.prog 44 #[.slice (some ⟨g, 0, none⟩) 2 2] w fun e w' => e = .returned (.int .i64 (if (x != 0) = true then x else y)) ∧ w = w' := by
  cases hx : (x != 0) with
  | true =>
    rw [if_pos rfl]
    go_enter Tryz.func44, Tryz.ntmps44
    go_wp2
    refine wp_loop_rounds 1 ?_
    rw [rounds_succ]
    go_wp2
    go_ret
    exact ⟨rfl, rfl⟩
  | false =>
    rw [if_neg (by simp)]
    cases hy : (y != 0) with
    | true =>
      go_enter Tryz.func44, Tryz.ntmps44
      go_wp2
      refine wp_loop_rounds 2 ?_
      rw [rounds_succ]
      go_wp2
      rw [rounds_succ]
      go_wp2
      go_ret
      exact ⟨rfl, rfl⟩
    | false =>
      have hy0 : y = 0 := by simpa using hy
      have HY := Lib.hid hy0
      clear hy0
      go_enter Tryz.func44, Tryz.ntmps44
      go_wp2
      refine wp_loop_rounds 3 ?_
      rw [rounds_succ]
      go_wp2
      rw [rounds_succ]
      go_wp2
      rw [rounds_succ]
      go_wp2
      go_ret
      exact ⟨ret_int HY.out.symm, rfl⟩
end Go.Proofs.YtdplphoohnnbcaaGreatDoor

namespace Go.Proofs.YtdplphoohnnbcaaGreatDoor
open Go.RowKit Go.Shelf

/-- the blocks from B on are as they were, but for those of the row -/
structure KeepR (B : Nat) (R : World → Nat → Prop) (w w' : World) : Prop where
  le : w.heap.size ≤ w'.heap.size
  at_ : ∀ k, B ≤ k → k < w.heap.size → ¬ R w k → w'.heap[k]? = w.heap[k]? ∧ ¬ R w' k
theorem KeepR.refl (B : Nat) (R : World → Nat → Prop) (w : World) : KeepR B R w w := ⟨Nat.le_refl _, fun _ _ _ h => ⟨rfl, h⟩⟩
theorem KeepR.trans {B : Nat} {R : World → Nat → Prop} {a b c : World} (h : KeepR B R a b) (k : KeepR B R b c) : KeepR B R a c :=
  ⟨Nat.le_trans h.le k.le, fun x h1 h2 h3 => by
    obtain ⟨h4, h5⟩ := h.at_ x h1 h2 h3
    obtain ⟨h6, h7⟩ := k.at_ x h1 (Nat.lt_of_lt_of_le h2 h.le) h5
    exact ⟨h6.trans h4, h7⟩⟩
theorem Hold.keepR {B : Nat} {R : World → Nat → Prop} {w w' : World} {b : Nat} {c : Array Value} (h : Hold w b c) (k : KeepR B R w w') (hb : B ≤ b) (hn : ¬ R w b) : Hold w' b c := by
  obtain ⟨t, h⟩ := h
  exact ⟨t, by rw [(k.at_ b hb (Array.getElem?_eq_some_iff.1 h).1 hn).1]; exact h⟩
/-- a measure that grows by at most one at a node -/
theorem foldK_m {σ : Type} {m : σ → Nat} {f : Nat → σ → σ} {g : Nat → Nat} (h : ∀ i s, m (f i s) ≤ m s + g i) : ∀ n s, m (foldK f n s) ≤ m s + Pr.sum g n
  | 0, _ => Nat.le_refl _
  | n + 1, s => by
    have h1 := h n (foldK f n s)
    have h2 := foldK_m h n s
    show m (f n (foldK f n s)) ≤ m s + (Pr.sum g n + g n)
    omega
theorem foldP_m {σ : Type} {m : σ → Nat} {step : Pr → σ → σ} (h : ∀ q s, m (step q s) ≤ m s + 1) : ∀ (p : Pr) (s : σ), m (p.foldP step s) ≤ m s + p.cnt := by
  intro p
  induction p with
  | nil => exact fun s => h _ s
  | mk k n pr pe s a b o c len kid ih =>
    intro st
    have h1 := foldK_m (m := m) (f := fun i => (kid i).foldP step) (g := fun i => (kid i).cnt) (fun i s => ih i s) len (step (.mk k n pr pe s a b o c len kid) st)
    have h2 := h (.mk k n pr pe s a b o c len kid) st
    show m (foldK (fun i => (kid i).foldP step) len (step (.mk k n pr pe s a b o c len kid) st)) ≤ m st + (1 + Pr.sum (fun i => (kid i).cnt) len)
    omega
theorem fold_kid {σ : Type} {m : σ → Nat} {M : Nat} {step : Pr → σ → σ} (h : ∀ q s, m (step q s) ≤ m s + 1) {p : Pr} {s : σ} {i : Nat} (hi : i < p.len) (hM : m s + p.cnt ≤ M) :
    m (foldK (fun i => (p.kid i).foldP step) i (step p s)) + (p.kid i).cnt ≤ M := by
  have h1 := foldK_m (m := m) (f := fun i => (p.kid i).foldP step) (g := fun i => (p.kid i).cnt) (fun i s => foldP_m h (p.kid i) s) i (step p s)
  have h2 := h p s
  have h3 := Pr.sum_mono (f := fun i => (p.kid i).cnt) (k := i + 1) (n := p.len) hi
  have h4 : Pr.sum (fun i => (p.kid i).cnt) (i + 1) = Pr.sum (fun i => (p.kid i).cnt) i + (p.kid i).cnt := rfl
  rw [Pr.cnt_eq] at hM
  omega
def EachStepR {σ : Type} (B : Nat) (R : World → Nat → Prop) (I : σ → World → Prop) (Q : World → Prop) (good : Prop) (s' : σ) (w : World) (e : Ending) (w' : World) : Prop :=
  KeepR B R w w' ∧ ∃ b : Bool, e = .returned (.bool b) ∧ (b = true → good ∧ I s' w') ∧ (b = false → ¬ good ∧ Q w')
set_option maxRecDepth 100000 in
set_option maxHeartbeats 1000000 in
theorem each2_any {σ : Type} (w0 : World) (B : Nat) (R : World → Nat → Prop) (g : Nat) (lb : Array Value) (eg : Enters Tryz.prog g) (I : σ → World → Prop) (Q : World → Prop) (step : Pr → σ → σ) (good Ok : Pr → Prop) (m : σ → Nat) (M : Nat) (hm : ∀ q s, m (step q s) ≤ m s + 1)
    (hB : ∀ s w', I s w' → B ≤ w'.heap.size) (hI : ∀ s w', I s w' → Ext w0 w') (hx : ∀ s w1 w2, I s w1 → Ext w1 w2 → I s w2) (hr : ∀ s w1 w2, I s w1 → Ext w1 w2 → KeepR B R w1 w2) (hfr : ∀ s w1 w2 k, I s w1 → Ext w1 w2 → w1.heap.size ≤ k → ¬ R w2 k)
    (hf : ∀ q, q.NodeAt w0 → Ok q → ∀ s w', I s w' → m s < M → Calls Tryz.prog g (#[q.val] ++ lb) w' (EachStepR B R I Q (good q) (step q s) w')) :
    ∀ p : Pr, p.At w0 → p.All Ok → ∀ s w, I s w → m s + p.cnt ≤ M → Calls Tryz.prog 38 #[p.val, .func (.func g) #[] lb] w (EachStepR B R I Q (p.All good) (p.foldP step s) w) := by
  intro p
  induction p using Pr.ind with
  | h p ih =>
    intro hp hok s w hIw hmM
    have hms : m s < M := by rw [Pr.cnt_eq] at hmM; omega
    have HF := Lib.hid fun w' (h : I s w') => hf p hp.here hok.here s w' h hms
    have HMM := Lib.hid (fun i (hi : i < p.len) => fold_kid hm hi hmM)
    clear hms hmM
    have HP := Lib.hid hp
    have HOK := Lib.hid hok
    have HIH := Lib.hid ih
    have HI := Lib.hid hI
    have HX := Lib.hid hx
    have HRR := Lib.hid hr
    have HFR := Lib.hid hfr
    have HW := Lib.hid hIw
    have hx0 := hI s w hIw
    have hb0 : B ≤ w.heap.size := hB s w hIw
    clear hp hok ih hI hx hIw hf hr hfr hm hB
    have HG := Lib.hid eg
    unfold Enters at eg
    simp only [Pr.val]
    go_enter Tryz.func38, Tryz.ntmps38
    go_upto_region 1 with fail
    refine boxed2 (w := w) (G := fun x => Code.wp _ _ _ _ x) ?_
    intro w2 hx2 hs2 ⟨l0, c0, _, k0⟩ ⟨l1, c1, _, k1⟩
    have hx22 : Ext w2 w2 := Ext.refl _
    have HI2 := Lib.hid (HX.out s w w2 HW.out hx2)
    have hc := HF.out w2 HI2.out
    simp only [Pr.val] at hc
    have HK0 := Lib.hid k0
    have HK1 := Lib.hid k1
    clear hs2 k0 k1
    have hb1 : B ≤ w.heap.size + 1 := by omega
    go_wp2_with fail
    go_at_fn g
    refine hc.mono ?_
    rintro e w3 ⟨hk3, b, rfl, hy, hn⟩
    have HK3 := Lib.hid hk3
    clear hk3
    cases b with
    | false =>
      have HN := Lib.hid (hn rfl)
      clear hn hy
      go_wp2_with fail
      go_ret
      exact ⟨(HRR.out s w w2 HW.out hx2).trans HK3.out, false, rfl, (fun h => by cases h), fun _ => ⟨fun h => HN.out.1 h.here, HN.out.2⟩⟩
    | true =>
      have HY := Lib.hid (hy rfl)
      clear hn hy l0 c0 l1 c1 hc
      have h0 := HK0.out
      have h1 := HK1.out
      have g0 : Hold w3 w.heap.size _ := Hold.keepR h0 HK3.out hb0 (HFR.out s w w2 _ HW.out hx2 (Nat.le_refl _))
      have g1 : Hold w3 (w.heap.size + 1) _ := Hold.keepR h1 HK3.out hb1 (HFR.out s w w2 _ HW.out hx2 (Nat.le_succ _))
      have HN1 := Lib.hid (show ¬ R w3 (w.heap.size + 1) from (HK3.out.at_ (w.heap.size + 1) hb1 (Hold.lt h1) (HFR.out s w w2 _ HW.out hx2 (Nat.le_succ _))).2)
      have HG1 := Lib.hid g1
      obtain ⟨l0, c0, _, _⟩ := g0.box
      clear h0 h1 g0 g1
      have hx33 : Ext w3 w3 := Ext.refl _
      have hH := has_Pred w0 w3 p HP.out.here 81 #[.pointer (some ⟨w.heap.size + 1, 0, none⟩)]
        (fun i w' => KeepR B R w3 w' ∧ I (foldK (fun i => (p.kid i).foldP step) i (step p s)) w' ∧ ∀ j, j < i → (p.kid j).All good)
        (fun i w' => KeepR B R w3 w' ∧ ¬ (p.kid i).All good ∧ Q w')
        (fun i w' h => HI.out _ _ h.2.1) ⟨KeepR.refl _ _ _, HY.out.2, fun j hj => absurd hj (Nat.not_lt_zero _)⟩ (enters_of Tryz.func81 (by kernel_rfl) rfl)
        (fun i hi w' hIw => by
          refine (each1_any w' (p.kid i) (w.heap.size + 1) (.func g) #[] lb (Hold.keepR HG1.out hIw.1 hb1 HN1.out)
            (R := fun b w'' => KeepR B R w3 w'' ∧ (b = true → (p.kid i).All good ∧ I (foldK (fun i => (p.kid i).foldP step) (i + 1) (step p s)) w'') ∧ (b = false → ¬ (p.kid i).All good ∧ Q w''))
            (fun w1 hx1 => (HIH.out i hi (HP.out.kid hi) (HOK.out.kid hi) _ w1 (HX.out _ _ _ hIw.2.1 hx1) (HMM.out i hi)).mono ?_)).mono ?_
          · rintro e w2 ⟨hk, b, rfl, hy, hn⟩
            exact ⟨b, rfl, hIw.1.trans ((HRR.out _ _ _ hIw.2.1 hx1).trans hk), hy, hn⟩
          · rintro e w2 ⟨b, rfl, hk, hy, hn⟩
            refine ⟨b, rfl, fun hb => ?_, fun hb => ?_⟩
            · subst hb
              have := hy rfl
              exact ⟨hk, this.2, fun j hj => by
                by_cases e : j = i
                · subst e; exact this.1
                · exact hIw.2.2 j (by omega)⟩
            · subst hb
              exact ⟨hk, hn rfl⟩)
      go_wp2_with fail
      go_at_call 51
      refine hH.mono ?_
      rintro e w4 ⟨b, rfl, h0, h1⟩
      have H0 := Lib.hid h0
      have H1 := Lib.hid h1
      clear h0 h1 hH
      cases b with
      | false =>
        have H := Lib.hid (H0.out rfl)
        clear H0 H1
        go_wp2_with fail
        go_ret
        exact ⟨((HRR.out s w w2 HW.out hx2).trans HK3.out).trans H.out.1, true, rfl, fun _ => ⟨(Pr.All_eq _ _).2 ⟨HY.out.1, H.out.2.2⟩, by rw [Pr.foldP_eq]; exact H.out.2.1⟩, (fun h => by cases h)⟩
      | true =>
        obtain ⟨i, hi, h⟩ := H1.out rfl
        have H := Lib.hid h
        clear H0 H1 h
        go_wp2_with fail
        go_ret
        exact ⟨((HRR.out s w w2 HW.out hx2).trans HK3.out).trans H.out.1, false, rfl, (fun h => by cases h), fun _ => ⟨fun h => H.out.2.1 (h.kid hi), H.out.2.2⟩⟩

end Go.Proofs.YtdplphoohnnbcaaGreatDoor

namespace Go.Proofs.YtdplphoohnnbcaaGreatDoor
open Go.RowKit Go.Shelf

theorem Que.putC {w : World} {base size n g off cap : Nat} {xs : List Value} (h : Que w base size (.slice (some ⟨g, off, none⟩) n cap) n xs) {j : Nat} (hj : j < n * size) (v : Value) : Que (w.setCell ⟨g, off + j, none⟩ v) base size (.slice (some ⟨g, off, none⟩) n cap) n (xs.set j v) := by
  refine ⟨by rw [List.length_set]; exact h.len, ?_⟩
  rcases h.val with ⟨ao, hv, hn, ha⟩ | ⟨g', off', cap', hv, h1, h2, h3, h4, h5, h6⟩
  · subst hn; simp at hj
  · cases hv
    have hxl := h.len
    have hcell : w.cell? ⟨g, off + j, none⟩ = some (xs[j]'(by omega)) := by rw [h5 j hj]; exact List.getElem?_eq_getElem _
    refine .inr ⟨g, off, cap, rfl, h1, by rw [World.size_setCell]; exact h2, h3, h4, fun i hi => ?_, fun i hi => ?_⟩
    · rw [cell_set w g (off + j) (off + i) v hcell]
      by_cases e : i = j
      · subst e; rw [if_pos rfl, List.getElem?_set_self (by omega)]
      · rw [if_neg (by omega), List.getElem?_set_ne (fun h => e h.symm)]; exact h5 i hi
    · rw [cell_set w g (off + j) (off + i) v hcell, frozen_set]
      refine ⟨?_, (h6 i hi).2⟩
      by_cases e : off + i = off + j
      · rw [if_pos e]; rfl
      · rw [if_neg e]; exact (h6 i hi).1
theorem tmCells_set : ∀ (l : List Trm) (k : Nat) (c : Int), k < l.length → tmCells (l.set k ((trmAt l k).1, (trmAt l k).2.1, c)) = (tmCells l).set (k * 3 + 2) (.int .i64 c)
  | [], k, _, h => by simp at h
  | x :: l, 0, c, _ => rfl
  | x :: l, k + 1, c, h => by
    have := tmCells_set l k c (by simpa using h)
    have e : (k + 1) * 3 + 2 = k * 3 + 2 + 1 + 1 + 1 := by omega
    rw [e]
    show tmCells (x :: l.set k ((trmAt l k).1, (trmAt l k).2.1, c)) = _
    show [.int .i64 x.1, .string x.2.1, .int .i64 x.2.2] ++ tmCells (l.set k ((trmAt l k).1, (trmAt l k).2.1, c)) = _
    rw [this]; rfl
theorem Hold.uniq {w : World} {b : Nat} {v v' : Value} (h : Hold w b #[v]) (h' : Hold w b #[v']) : v = v' := by
  obtain ⟨t, h⟩ := h
  obtain ⟨t', h'⟩ := h'
  rw [h] at h'
  cases h'; rfl
/-- the gathered terms lie in a slice of the call's own, which a box holds -/
structure VrS (w0 : World) (bo : Nat) (L : List VK) (w : World) : Prop where
  hx : Ext w0 w
  hb : w0.heap.size ≤ bo
  ho : ∃ v, Hold w bo #[v] ∧ TmOwn w (bo + 1) v (gather L) ∧ ∀ g, v.ownBlock = some g → g < w.heap.size
/-- the row that the box holds -/
def RowIn (bo : Nat) (w : World) (k : Nat) : Prop := ∃ v, Hold w bo #[v] ∧ v.ownBlock = some k
theorem VrS.ext {w0 w w' : World} {bo : Nat} {L : List VK} (h : VrS w0 bo L w) (x : Ext w w') : VrS w0 bo L w' := by
  obtain ⟨h1, hb, v, h2, h3, h4⟩ := h
  exact ⟨h1.trans x, hb, v, h2.ext x, h3.ext x, fun g hg => Nat.lt_of_lt_of_le (h4 g hg) x.le⟩
theorem VrS.keep {w0 w w' : World} {bo : Nat} {L : List VK} (h : VrS w0 bo L w) (x : Ext w w') : KeepR (bo + 1) (RowIn bo) w w' := by
  obtain ⟨h1, _, v, h2, h3, h4⟩ := h
  refine ⟨x.le, fun k hk hlt hn => ⟨x.block k hlt, ?_⟩⟩
  rintro ⟨v', h5, h6⟩
  obtain rfl := (h2.ext x).uniq h5
  exact hn ⟨v, h2, h6⟩
theorem VrS.fresh {w0 w w' : World} {bo : Nat} {L : List VK} (h : VrS w0 bo L w) (x : Ext w w') (k : Nat) (hk : w.heap.size ≤ k) : ¬ RowIn bo w' k := by
  obtain ⟨h1, _, v, h2, h3, h4⟩ := h
  rintro ⟨v', h5, h6⟩
  obtain rfl := (h2.ext x).uniq h5
  have := h4 k h6
  omega
def stepTm (q : Pr) (L : List VK) : List VK := if q.kind = 2 then L ++ [(q.proc, q.name)] else L
theorem stepTm_len (q : Pr) (L : List VK) : (stepTm q L).length ≤ L.length + 1 := by
  unfold stepTm
  split
  · simp
  · omega
theorem gather_len (L : List VK) : (gather L).length ≤ L.length := by
  refine list_snoc (C := fun L => (gather L).length ≤ L.length) (Nat.le_refl _) (fun l x h => ?_) L
  rw [gather_snoc, List.length_append]
  have : ∀ S : List Trm, (bump x S).length ≤ S.length + 1 := by
    intro S
    induction S with
    | nil => exact Nat.le_refl _
    | cons s S ih =>
      unfold bump
      split
      · simp
      · simp only [List.length_cons]; omega
  have := this (gather l)
  simp only [List.length_cons, List.length_nil]; omega
/-- one number is set -/
theorem VrS.setAt {w0 w : World} {bo : Nat} {L : List VK} {S : List Trm} {k g off cap : Nat} (hx : Ext w0 w) (hb : w0.heap.size ≤ bo) (ho : Hold w bo #[.slice (some ⟨g, off, none⟩) S.length cap]) (hown : TmOwn w (bo + 1) (.slice (some ⟨g, off, none⟩) S.length cap) S)
    (hg : g < w.heap.size) (hk : k < S.length) (c : Int) (e1 : gather L = S.set k ((trmAt S k).1, (trmAt S k).2.1, c)) :
    VrS w0 bo L (w.setCell ⟨g, off + k * 3 + 2, none⟩ (.int .i64 c)) ∧ KeepR (bo + 1) (RowIn bo) w (w.setCell ⟨g, off + k * 3 + 2, none⟩ (.int .i64 c)) := by
  have hbg : bo + 1 ≤ g := hown.block g rfl
  have e2 : (gather L).length = S.length := by rw [e1, List.length_set]
  rw [Nat.add_assoc]
  have ho' : Hold (w.setCell ⟨g, off + (k * 3 + 2), none⟩ (.int .i64 c)) bo #[.slice (some ⟨g, off, none⟩) S.length cap] := ho.other _ _ (by show bo ≠ g; omega)
  refine ⟨⟨hx.setCell (by show w0.heap.size ≤ g; omega) _, hb, _, ho', ?_, fun g' hg' => by cases hg'; rw [World.size_setCell]; exact hg⟩, ⟨Nat.le_of_eq (World.size_setCell _ _ _).symm, fun k' h1 h2 h3 => ⟨?_, ?_⟩⟩⟩
  · have h := Que.putC hown (j := k * 3 + 2) (by omega) (.int .i64 c)
    rw [← tmCells_set _ _ _ hk, ← e1] at h
    unfold TmOwn
    rw [e2]; exact h
  · refine Below.heap_setCell _ _ _ _ ?_
    intro e
    exact h3 ⟨_, ho, by rw [show k' = g from e]; rfl⟩
  · rintro ⟨v', h5, h6⟩
    obtain rfl := ho'.uniq h5
    exact h3 ⟨_, ho, h6⟩
/-- the row has grown, and the box holds it -/
theorem keep_grown {bo : Nat} {w w1 w2 : World} {v v' : Value} (ho : Hold w bo #[v]) (hx : Ext w w1) (hg : w1.grownBy w2 v.ownBlock) (hor : v'.ownBlock = v.ownBlock ∨ v'.ownBlock = some w1.heap.size) (ho2 : Hold w2 bo #[v]) :
    KeepR (bo + 1) (RowIn bo) w (w2.setCell ⟨bo, 0, none⟩ v') := by
  have h9 : Hold (w2.setCell ⟨bo, 0, none⟩ v') bo #[v'] := by simpa using ho2.set 0 v'
  refine ⟨by rw [World.size_setCell]; exact Nat.le_trans hx.le hg.size, fun k h1 h2 h3 => ⟨?_, ?_⟩⟩
  · rw [Below.heap_setCell _ _ _ _ (by show k ≠ bo; omega), hg.block k (Nat.lt_of_lt_of_le h2 hx.le) (fun e => h3 ⟨v, ho, e.symm⟩)]
    exact hx.block k h2
  · rintro ⟨u, h5, h6⟩
    obtain rfl := h9.uniq h5
    rcases hor with e | e
    · exact h3 ⟨v, ho, by rw [← e]; exact h6⟩
    · rw [e] at h6
      cases h6
      have := hx.le
      omega
theorem setwT {w : World} {p : Addr} {v : Value} {G : World → Prop} (h : ∀ w7, w7 = w.setCell p v → G w7) : G (w.setCell p v) := h _ rfl
theorem news_okT (w : World) (l : List Value) (t : TypeId) : ∀ (j : Nat) (u : Value), l[j]? = some u → (w.alloc (.cells l.toArray t)).cell? ((⟨w.heap.size, 0, none⟩ : Addr).add j) = some u := news_ok w l t
set_option maxHeartbeats 400000 in
theorem vars11_any (w : World) (t : Trm) (p : Pr) (bx : Nat) (h : Hold w bx #[.int .i64 p.kind, .int .i64 p.num, .int .i64 p.proc, .int .i64 p.peer, .string p.name, .slice p.a p.len p.cap]) :
    Calls Tryz.prog 41 #[.agg #[.int .i64 t.1, .string t.2.1, .int .i64 t.2.2], .pointer (some ⟨bx, 0, none⟩)] w fun e w' => e = .returned (.bool (decide (t.key = (p.proc, p.name)))) ∧ Ext w w' := by
  obtain ⟨x, s, c⟩ := t
  obtain ⟨l0, c0, _, _⟩ := h.box
  have HK := Lib.hid (show ∀ b : Bool, (b = ((x == p.proc) && (s.toList == p.name.toList))) → b = decide (Trm.key (x, s, c) = (p.proc, p.name)) from fun b hb => by
    rw [hb]
    show _ = decide ((x, s) = (p.proc, p.name))
    rw [Bool.eq_iff_iff]
    simp only [Bool.and_eq_true, beq_iff_eq, decide_eq_true_eq, Prod.mk.injEq]
    rw [Lib.toList_data, Lib.toList_data]
    exact ⟨fun h => ⟨h.1, bytes_ext h.2⟩, fun h => ⟨h.1, by rw [h.2]⟩⟩)
  generalize decide (Trm.key (x, s, c) = (p.proc, p.name)) = r at HK ⊢
  have hww : Ext w w := Ext.refl _
  clear h
  cases hb : (x == p.proc) with
  | true =>
    have HR := Lib.hid (HK.out (s.toList == p.name.toList) (by rw [hb]; rfl))
    have HXP := Lib.hid hb
    go_enter Tryz.func41, Tryz.ntmps41
    go_upto_region 1 with fail
    refine boxed1 (w := w) (G := fun x => Code.wp _ _ _ _ x) ?_
    intro w1 hx1 hs1 ⟨l1, c1, _, _⟩
    have hx11 : Ext w1 w1 := Ext.refl _
    go_wp2_with fail
    go_ret
    exact ⟨ret_bool HR.out, hx1⟩
  | false =>
    have HR := Lib.hid (HK.out false (by rw [hb]; rfl))
    go_enter Tryz.func41, Tryz.ntmps41
    go_upto_region 1 with fail
    refine boxed1 (w := w) (G := fun x => Code.wp _ _ _ _ x) ?_
    intro w1 hx1 hs1 ⟨l1, c1, _, _⟩
    have hx11 : Ext w1 w1 := Ext.refl _
    go_wp2_with fail
    go_ret
    exact ⟨ret_bool HR.out, hx1⟩
set_option maxRecDepth 100000 in
set_option maxHeartbeats 2000000 in
theorem vars1_any (w0 : World) (bo : Nat) (hB : w0.heap.size ≤ bo) (q : Pr) (hq : q.NodeAt w0) (L : List VK) (w : World) (hS : VrS w0 bo L w) (hL : L.length < 500) :
    Calls Tryz.prog 39 #[q.val, .pointer (some ⟨bo, 0, none⟩)] w (EachStepR (bo + 1) (RowIn bo) (VrS w0 bo) (fun _ => True) True (stepTm q L) w) := by
  obtain ⟨hx, _, v, ho, hown, hlt⟩ := hS
  have hgl := gather_len L
  obtain ⟨a, g, off, cap, rfl, hat, hgb, hfr⟩ := TmOwn.at hown (by omega)
  have HX := Lib.hid hx
  have HO := Lib.hid ho
  have HOWN := Lib.hid hown
  have HLT := Lib.hid hlt
  have HAT := Lib.hid hat
  have HGB := Lib.hid hgb
  have HFR := Lib.hid hfr
  have HQ := Lib.hid hq
  have HS := Lib.hid (show VrS w0 bo L w from ⟨hx, hB, _, ho, hown, hlt⟩)
  have HSUM := Lib.hid (gather_sum L)
  have hbox : bo < w.heap.size := ho.lt
  obtain ⟨n, hn⟩ : ∃ n, n = (gather L).length := ⟨_, rfl⟩
  have HN := Lib.hid hn
  rw [← hn] at hgl HO HFR
  clear hx ho hown hlt hat hgb hfr hq hn
  by_cases hk : q.kind = 2
  · have HST := Lib.hid (show stepTm q L = L ++ [(q.proc, q.name)] from if_pos hk)
    have d2 : (q.kind != 2) = false := by simp [hk]
    clear hk
    simp only [Pr.val]
    go_enter Tryz.func39, Tryz.ntmps39
    go_upto_region 1 with fail
    refine boxed1 (w := w) (G := fun x => Code.wp _ _ _ _ x) ?_
    intro w1 hx1 hs1 ⟨l0, c0, f0, k0⟩
    have hx11 : Ext w1 w1 := Ext.refl _
    have HK0 := Lib.hid (show Hold w1 w.heap.size #[.int .i64 q.kind, .int .i64 q.num, .int .i64 q.proc, .int .i64 q.peer, .string q.name, .slice q.a q.len q.cap] from k0)
    have HO1 := Lib.hid (HO.out.ext hx1)
    obtain ⟨lb, cb, fb, _⟩ := HO1.out.box
    have hI := idx_Term w1 a g off n cap (fun k => .int .i64 (trmAt (gather L) k).1) (fun k => .string (trmAt (gather L) k).2.1) (fun k => .int .i64 (trmAt (gather L) k).2.2) 41 #[.pointer (some ⟨w.heap.size, 0, none⟩)] (fun k => decide ((trmAt (gather L) k).key = (q.proc, q.name)))
      (by omega) (fun h => HAT.out.pa (by rw [← HN.out]; exact h)) (fun w' h k hk => HAT.out.p0 w' (hx1.trans h) k (by rw [← HN.out]; exact hk)) (fun w' h k hk => HAT.out.p1 w' (hx1.trans h) k (by rw [← HN.out]; exact hk)) (fun w' h k hk => HAT.out.p2 w' (hx1.trans h) k (by rw [← HN.out]; exact hk)) (enters_of Tryz.func41 (by kernel_rfl) rfl)
      (fun k hk w' h => vars11_any w' (trmAt (gather L) k) q w.heap.size (HK0.out.ext h))
    clear hs1 k0
    go_wp2_with fail
    go_at_call 40
    refine hI.mono ?_
    rintro e w2 ⟨rfl, hx2⟩
    have hx12 : Ext w1 w2 := hx2
    have hxw2 := hx1.trans hx2
    clear hI
    obtain ⟨ix, hix⟩ : ∃ x, x = idxI (fun k => decide ((trmAt (gather L) k).key = (q.proc, q.name))) n := ⟨_, rfl⟩
    have HIX := Lib.hid hix
    rw [← hix]
    clear hix
    rcases noneB_or_first (fun k => decide ((trmAt (gather L) k).key = (q.proc, q.name))) n with hnone | ⟨k, hkn, hkey, hno⟩
    · have e1 : ix = -1 := by rw [HIX.out]; exact idxI_none hnone
      have HG2 := Lib.hid (show gather (L ++ [(q.proc, q.name)]) = gather L ++ [(q.proc, q.name, 1)] from by
        rw [gather_snoc]
        refine bump_none fun t ht => ?_
        obtain ⟨j, hj, rfl⟩ := List.getElem_of_mem ht
        have h1 := hnone j (by rw [HN.out]; exact hj)
        rw [← trmAt_eq hj]
        simpa using h1)
      subst e1
      have HQ2 := Lib.hid (show Que w2 (bo + 1) 3 (.slice a n cap) n (tmCells (gather L)) from by have := HOWN.out.ext hxw2; unfold TmOwn at this; rwa [← HN.out] at this)
      have hb9 : bo + 1 ≤ w2.heap.size := by have := hxw2.le; omega
      obtain ⟨j0, hj0, hy0, hy1, hy2⟩ := info_parts infoTerm
      go_upto_region 7 with (at_builtin; refine wpList_append_que _ rfl _ _ 44 44 rfl (base := bo + 1) (e := 49) (size := 3) j0 (.agg #[.int .i64 0, .string ⟨#[]⟩, .int .i64 0]) 32 Tryz.underlying44 hj0 hy0 hy1 hy2 rfl rfl (v := .slice a n cap) (n := n) (xs := tmCells (gather L)) (by exact HQ2.out.ext (Ext.alloc _ _)) (by rw [World.size_alloc]; omega) _ 1 [.int .i64 q.proc, .string q.name, .int .i64 0] rfl (by exact Src.ofSlice _ Tryz.underlying44 ⟨w2.heap.size, 0, none⟩ 1 1 _ rfl (news_okT w2 _ _) (by intro u hu; simp at hu; rcases hu with rfl | rfl | rfl <;> rfl)) (by unfold maxLen; omega) (by omega) ?_; rintro v8 w8 hq8 hg8 hor8; obtain ⟨a8, cp8, rfl⟩ := hq8.slice; have H8 := Lib.hid (And.intro hq8 (And.intro hg8 hor8)); have hbel8 := ((Below.refl _ w2).alloc hb9 _).grown hg8 (by rw [World.size_alloc]; omega) HQ2.out.block; have ho8 := (HO1.out.ext hx12).below hbel8 (Nat.lt_succ_self _); have HO8 := Lib.hid ho8; obtain ⟨l9, c9, f9, _⟩ := ho8.box; have hx88 : Ext w8 w8 := Ext.refl _; clear hq8 hg8 hor8 hbel8 ho8)
      refine setwT (w := w8) (G := fun x => Code.wp _ _ _ _ x) ?_
      intro w9 hw9
      have HW9 := Lib.hid hw9
      obtain ⟨S, hS⟩ : ∃ S, S = gather L ++ [(q.proc, q.name, 0)] := ⟨_, rfl⟩
      have HSS := Lib.hid hS
      have hsl : S.length = n + 1 := by rw [hS, List.length_append, ← HN.out]; rfl
      have hq9 : TmOwn w9 (bo + 1) (.slice a8 (n + 1) cp8) S := by
        unfold TmOwn
        rw [hsl, hS, tmCells_snoc, hw9]
        exact H8.out.1.same (Nat.le_of_eq (World.size_setCell _ _ _).symm) fun g hg _ => Below.heap_setCell _ _ _ _ (by show g ≠ bo; omega)
      have ho9 : Hold w9 bo #[.slice a8 (n + 1) cp8] := by rw [hw9]; simpa using HO8.out.set 0 _
      have hkeep : KeepR (bo + 1) (RowIn bo) w2 w9 := by rw [hw9]; exact keep_grown (HO1.out.ext hx12) (Ext.alloc _ _) H8.out.2.1 H8.out.2.2 HO8.out
      obtain ⟨a9, g9, off9, cap9, hv9, hat9, hgb9, hfr9⟩ := TmOwn.at hq9 (by omega)
      rw [hsl] at hv9
      cases hv9
      have hx99 : Ext w9 w9 := Ext.refl _
      have hpa := hat9.pa (by omega)
      subst hpa
      have q2 := fun w' (h : Ext w9 w') => hat9.p2 w' h n (by omega)
      have e0 : (trmAt S n).2.2 = 0 := by rw [hS, trmAt_eq (by simp [HN.out])]; simp [HN.out]
      rw [e0] at q2
      have qb := hat9.pb (by omega)
      have qf : ∀ w', Ext w9 w' → w'.frozen? ⟨g9, off9 + n * 3 + 2, none⟩ = false := fun w' h => by
        have h0 := hfr9 (n * 3 + 2) (by omega)
        rw [← Nat.add_assoc] at h0
        rw [h.frozen (by exact (hgb9 (by omega)).2)]; exact h0
      obtain ⟨l10, c10, f10, _⟩ := ho9.box
      have HR := Lib.hid (VrS.setAt (L := L ++ [(q.proc, q.name)]) (w := w9) (S := S) (k := n) (g := g9) (off := off9) (cap := cp8) (w0 := w0) (bo := bo) (by
        have h1 := HX.out.trans hxw2
        refine Below.trans h1 (Below.mono (B := bo) ?_ (by omega))
        rw [hw9]
        exact Below.setCell (Below.mono (((Below.refl _ w2).alloc hb9 _).grown H8.out.2.1 (by rw [World.size_alloc]; omega) HQ2.out.block) (Nat.le_succ _)) (Nat.le_refl _) _) hB (by rw [hsl]; exact ho9) (by rw [hsl]; exact hq9) (hgb9 (by omega)).2 (by omega) 1 (by
        rw [HG2.out, hS]
        have e2 : n = (gather L).length := HN.out
        rw [trmAt_eq (by simp [e2])]
        subst e2
        simp))
      have HKP := Lib.hid hkeep
      clear hw9 hS hsl hq9 ho9 hkeep hat9 hgb9 hfr9 e0 l0 c0 f0 lb cb fb l9 c9 f9
      go_wp2_with fail
      go_ret
      exact ⟨(HS.out.keep hxw2).trans (HKP.out.trans HR.out.2), true, rfl, fun _ => ⟨trivial, by rw [HST.out]; exact HR.out.1⟩, (fun h => by cases h)⟩
    · have e1 : ix = (k : Int) := by rw [HIX.out]; exact idxI_hit hkn hkey hno
      subst e1
      have hkl : k < (gather L).length := by rw [← HN.out]; exact hkn
      obtain rfl := HAT.out.pa (by omega)
      have hk1 : (0 : Int) ≤ (k : Int) := by omega
      have hk2 : (k : Int) < (n : Int) := by omega
      have hsum := HSUM.out _ (show trmAt (gather L) k ∈ gather L from by rw [trmAt_eq hkl]; exact List.getElem_mem hkl)
      obtain ⟨c, hc⟩ : ∃ c, c = (trmAt (gather L) k).2.2 := ⟨_, rfl⟩
      rw [← hc] at hsum
      obtain ⟨hs1, hs2⟩ := hsum
      have hx22 : Ext w2 w2 := Ext.refl _
      have HAT2 := Lib.hid (HAT.out.ext hxw2)
      have q2 : ∀ w', Ext w2 w' → w'.cell? ⟨g, off + k * 3 + 2, none⟩ = some (.int .i64 c) := fun w' h => by rw [hc]; exact HAT2.out.p2 w' h k hkl
      have qb := HAT2.out.pb (by omega)
      have hglt : g < w2.heap.size := Nat.lt_of_lt_of_le (HGB.out (by omega)).2 hxw2.le
      have qf : ∀ w', Ext w2 w' → w'.frozen? ⟨g, off + k * 3 + 2, none⟩ = false := fun w' h => by
        have h0 := HFR.out (k * 3 + 2) (by omega)
        rw [← Nat.add_assoc] at h0
        rw [(hxw2.trans h).frozen (by exact (HGB.out (by omega)).2)]; exact h0
      have HR := Lib.hid (VrS.setAt (L := L ++ [(q.proc, q.name)]) (w := w2) (S := gather L) (k := k) (g := g) (off := off) (cap := cap) (w0 := w0) (bo := bo) (HX.out.trans hxw2) hB (by rw [← HN.out]; exact HO1.out.ext hx12) (HOWN.out.ext hxw2) hglt hkl (c + 1) (by
        have hkey' : (trmAt (gather L) k).key = (q.proc, q.name) := by simpa using hkey
        rw [gather_snoc, bump_at hkl (by rw [← trmAt_eq hkl]; exact hkey') (fun j hj => by
          have := hno j hj
          rw [← trmAt_eq (by omega)]
          simpa using this), ← trmAt_eq hkl, hc]
        have e1 : (trmAt (gather L) k).1 = q.proc := congrArg Prod.fst hkey'
        have e2 : (trmAt (gather L) k).2.1 = q.name := congrArg Prod.snd hkey'
        rw [e1, e2]))
      have hL2 : (L.length : Int) < 500 := by omega
      clear hc hkey hno hkl
      go_wp2_with fail
      go_ret
      exact ⟨(HS.out.keep hxw2).trans HR.out.2, true, rfl, fun _ => ⟨trivial, by rw [HST.out]; exact HR.out.1⟩, (fun h => by cases h)⟩
  · have HST := Lib.hid (show stepTm q L = L from if_neg hk)
    have d2 : (q.kind != 2) = true := by simp [hk]
    clear hk
    simp only [Pr.val]
    go_enter Tryz.func39, Tryz.ntmps39
    go_upto_region 1 with fail
    refine boxed1 (w := w) (G := fun x => Code.wp _ _ _ _ x) ?_
    intro w1 hx1 hs1 ⟨l0, c0, f0, k0⟩
    have hx11 : Ext w1 w1 := Ext.refl _
    clear hs1 k0
    go_wp2_with fail
    go_ret
    exact ⟨HS.out.keep hx1, true, rfl, fun _ => ⟨trivial, by rw [HST.out]; exact HS.out.ext hx1⟩, (fun h => by cases h)⟩

end Go.Proofs.YtdplphoohnnbcaaGreatDoor
