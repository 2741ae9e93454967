/- The past of an event, by a queue: plain. -/
import Derived.Test.YtecgigeeolindaaBack
namespace Go.Proofs.Ytecgigeeolindaa

/-- y happened before x, or is it -/
inductive Tr.Past (T : Tr) (x : NN) : NN → Prop
  | self : Tr.Past T x x
  | step {y z : NN} : Tr.Past T x y → T.Dir z y → Tr.Past T x z
theorem Tr.mem_bk {T : Tr} {y z : NN} : z ∈ T.bk y ↔ T.Dir z y := by
  unfold Tr.bk Tr.Dir
  rw [List.mem_append]
  constructor
  · rintro (h | h)
    · split at h
      · simp at h; subst h; left; exact ⟨rfl, by show y.2 = y.2 - 1 + 1; omega⟩
      · cases h
    · split at h
      · next hk => simp at h; exact .inr ⟨hk, h⟩
      · cases h
  · rintro (⟨h1, h2⟩ | ⟨h1, h2⟩)
    · left; rw [if_pos (by omega)]; simp; exact Prod.ext h1.symm (by show z.2 = y.2 - 1; omega)
    · right; rw [if_pos h1]; simp [h2]
theorem Tr.bk_len (T : Tr) (y : NN) : (T.bk y).length ≤ 2 := by
  unfold Tr.bk; rw [List.length_append]; split <;> split <;> simp
theorem Tr.Past.V {T : Tr} {x y : NN} (hx : T.V x) (h : T.Past x y) : T.V y := by
  induction h with
  | self => exact hx
  | step _ d ih => exact Tr.Dir.V ih d
theorem Tr.Past.down {T : Tr} {x : NN} {p : Nat} : ∀ (d i : Nat), T.Past x (p, i + d) → T.Past x (p, i)
  | 0, _, h => h
  | d + 1, i, h => Tr.Past.down d i (.step h (.inl ⟨rfl, by show i + (d + 1) = i + d + 1; omega⟩))
theorem Tr.Past.le {T : Tr} {x : NN} {p i j : Nat} (h : T.Past x (p, j)) (hij : i ≤ j) : T.Past x (p, i) := by
  obtain ⟨d, rfl⟩ := Nat.exists_eq_add_of_le hij
  exact Tr.Past.down d i h
/-- the events before the events hi, hi - 1, .. of p: d of them -/
noncomputable def Tr.bkTo (T : Tr) (p hi : Nat) : Nat → List NN
  | 0 => []
  | d + 1 => T.bkTo p hi d ++ T.bk (p, hi - d)
theorem Tr.bkTo_len (T : Tr) (p hi : Nat) : ∀ d, (T.bkTo p hi d).length ≤ 2 * d
  | 0 => by simp [Tr.bkTo]
  | d + 1 => by
    have h1 := Tr.bkTo_len T p hi d
    have h2 := T.bk_len (p, hi - d)
    rw [Tr.bkTo, List.length_append]; omega
theorem Tr.bkTo_mem {T : Tr} {p hi : Nat} {z : NN} : ∀ {d}, z ∈ T.bkTo p hi d ↔ ∃ e, e < d ∧ z ∈ T.bk (p, hi - e)
  | 0 => by simp [Tr.bkTo]
  | d + 1 => by
    rw [Tr.bkTo, List.mem_append, Tr.bkTo_mem (d := d)]
    constructor
    · rintro (⟨e, h1, h2⟩ | h)
      · exact ⟨e, by omega, h2⟩
      · exact ⟨d, by omega, h⟩
    · rintro ⟨e, h1, h2⟩
      by_cases he : e = d
      · subst he; exact .inr h2
      · exact .inl ⟨e, by omega, h2⟩
def updC (c : Nat → Nat) (p v : Nat) : Nat → Nat := fun k => if k = p then v else c k
/-- the search for the past of x: c: how many of each process are found; q: the queue -/
structure Tr.PaI (T : Tr) (x : NN) (c : Nat → Nat) (q : List NN) : Prop where
  hx : T.V x
  le : ∀ p, p < T.n → c p ≤ T.en p
  v : ∀ y, y ∈ q → T.Past x y
  p1 : ∀ p i, p < T.n → i < c p → T.Past x (p, i)
  cl : ∀ p i, p < T.n → i < c p → ∀ z, T.Dir z (p, i) → z.2 < c z.1 ∨ z ∈ q
  xx : x.2 < c x.1 ∨ x ∈ q
theorem Tr.PaI.start {T : Tr} {x : NN} (hx : T.V x) : T.PaI x (fun _ => 0) [x] :=
  ⟨hx, fun _ _ => Nat.zero_le _, fun y hy => by simp at hy; subst hy; exact .self, fun _ _ _ h => absurd h (Nat.not_lt_zero _), fun _ _ _ h => absurd h (Nat.not_lt_zero _), .inr (by simp)⟩
theorem Tr.PaI.skip {T : Tr} {x y : NN} {c : Nat → Nat} {q : List NN} (h : T.PaI x c (y :: q)) (hy : y.2 < c y.1) : T.PaI x c q := by
  refine ⟨h.hx, h.le, fun z hz => h.v z (by simp [hz]), h.p1, fun p i hp hi z hz => ?_, ?_⟩
  · rcases h.cl p i hp hi z hz with h | h
    · exact .inl h
    · rcases List.mem_cons.1 h with rfl | h
      · exact .inl hy
      · exact .inr h
  · rcases h.xx with h | h
    · exact .inl h
    · rcases List.mem_cons.1 h with rfl | h
      · exact .inl hy
      · exact .inr h
theorem Tr.PaI.take {T : Tr} {x y : NN} {c : Nat → Nat} {q : List NN} (h : T.PaI x c (y :: q)) (hy : c y.1 ≤ y.2) : T.PaI x (updC c y.1 (y.2 + 1)) (q ++ T.bkTo y.1 y.2 (y.2 + 1 - c y.1)) := by
  have hpy := h.v y (by simp)
  have hVy := hpy.V h.hx
  have hge : ∀ k, c k ≤ updC c y.1 (y.2 + 1) k := fun k => by
    unfold updC
    by_cases e : k = y.1
    · rw [if_pos e, e]; omega
    · rw [if_neg e]; omega
  refine ⟨h.hx, fun p hp => ?_, fun z hz => ?_, fun p i hp hi => ?_, fun p i hp hi z hz => ?_, ?_⟩
  · unfold updC; split
    · next e => subst e; exact hVy.2
    · exact h.le p hp
  · rcases List.mem_append.1 hz with hz | hz
    · exact h.v z (by simp [hz])
    · obtain ⟨e, he, hb⟩ := Tr.bkTo_mem.1 hz
      exact .step (Tr.Past.le (j := y.2) hpy (Nat.sub_le _ _)) (Tr.mem_bk.1 hb)
  · unfold updC at hi; split at hi
    · next e => subst e; exact Tr.Past.le (j := y.2) hpy (by omega)
    · exact h.p1 p i hp hi
  · by_cases hold : i < c p
    · rcases h.cl p i hp hold z hz with h | h
      · exact .inl (Nat.lt_of_lt_of_le h (hge _))
      · rcases List.mem_cons.1 h with rfl | h
        · left; unfold updC; rw [if_pos rfl]; omega
        · exact .inr (by simp [h])
    · unfold updC at hi; split at hi
      · next e =>
        subst e
        right
        refine List.mem_append.2 (.inr (Tr.bkTo_mem.2 ⟨y.2 - i, by omega, ?_⟩))
        rw [show y.2 - (y.2 - i) = i by omega]; exact Tr.mem_bk.2 hz
      · exact absurd hi hold
  · rcases h.xx with h | h
    · exact .inl (Nat.lt_of_lt_of_le h (hge _))
    · rcases List.mem_cons.1 h with rfl | h
      · left; unfold updC; rw [if_pos rfl]; omega
      · exact .inr (by simp [h])
/-- c counts the past of x -/
def Tr.PastC (T : Tr) (x : NN) (c : Nat → Nat) : Prop := (∀ p, p < T.n → c p ≤ T.en p) ∧ ∀ p i, p < T.n → (i < c p ↔ T.Past x (p, i))
theorem Tr.PaI.done {T : Tr} {x : NN} {c : Nat → Nat} (h : T.PaI x c []) : T.PastC x c := by
  refine ⟨h.le, fun p i hp => ⟨fun hi => h.p1 p i hp hi, fun hP => ?_⟩⟩
  have key : ∀ y, T.Past x y → y.2 < c y.1 := by
    intro y hy
    induction hy with
    | self =>
      rcases h.xx with h | h
      · exact h
      · cases h
    | @step y z hy d ih =>
      have hV := hy.V h.hx
      rcases h.cl y.1 y.2 hV.1 ih z d with h | h
      · exact h
      · cases h
  exact key (p, i) hP
/-- what is left to be done -/
def Tr.paM (T : Tr) (c : Nat → Nat) (q : List NN) : Nat := q.length + 3 * (tot T.en T.n - tot c T.n)
theorem tot_add {f g : Nat → Nat} {p d : Nat} : ∀ {n : Nat}, p < n → (∀ k, k ≠ p → f k = g k) → f p = g p + d → tot f n = tot g n + d
  | 0, h, _, _ => by omega
  | n + 1, h, ho, hp => by
    unfold tot
    by_cases e : p = n
    · subst e
      rw [tot_congr (f := f) (g := g) fun k hk => ho k (by omega), hp]; omega
    · rw [tot_add (f := f) (g := g) (n := n) (by omega) ho hp, ho n (fun h => e h.symm)]; omega
theorem Tr.PaI.less {T : Tr} {x y : NN} {c : Nat → Nat} {q : List NN} (h : T.PaI x c (y :: q)) (hy : c y.1 ≤ y.2) : T.paM (updC c y.1 (y.2 + 1)) (q ++ T.bkTo y.1 y.2 (y.2 + 1 - c y.1)) < T.paM c (y :: q) := by
  have hVy := (h.v y (by simp)).V h.hx
  have h2 := h.take hy
  have ht := tot_add (f := updC c y.1 (y.2 + 1)) (g := c) (p := y.1) (d := y.2 + 1 - c y.1) (n := T.n) hVy.1 (fun k hk => by unfold updC; rw [if_neg hk]) (by unfold updC; rw [if_pos rfl]; omega)
  have hle := tot_le (n := T.n) h2.le
  have hb := T.bkTo_len y.1 y.2 (y.2 + 1 - c y.1)
  unfold Tr.paM
  rw [List.length_append, List.length_cons]
  omega

end Go.Proofs.Ytecgigeeolindaa
