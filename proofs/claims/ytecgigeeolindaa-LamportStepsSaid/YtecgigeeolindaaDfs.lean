/- A search in a graph, in plain words: what has been seen, what is still to do. Nothing of the program. -/
import Derived.Test.YtecgigeeolindaaBase
namespace Go.Proofs.Ytecgigeeolindaa

abbrev NN := Nat × Nat
/-- y can be reached from x by n + 1 steps -/
def PathN (R : NN → List NN) : Nat → NN → NN → Prop
  | 0, x, y => y ∈ R x
  | n + 1, x, y => ∃ z, z ∈ R x ∧ PathN R n z y
def Path (R : NN → List NN) (x y : NN) : Prop := ∃ n, PathN R n x y
theorem Path.one {R : NN → List NN} {x y : NN} (h : y ∈ R x) : Path R x y := ⟨0, h⟩
theorem PathN.snoc {R : NN → List NN} {y z : NN} (h : z ∈ R y) : ∀ {n : Nat} {x : NN}, PathN R n x y → PathN R (n + 1) x z
  | 0, _, hx => ⟨y, hx, h⟩
  | _ + 1, _, ⟨u, hu, hp⟩ => ⟨u, hu, PathN.snoc h hp⟩
theorem Path.snoc {R : NN → List NN} {x y z : NN} (h : Path R x y) (hz : z ∈ R y) : Path R x z := by obtain ⟨n, h⟩ := h; exact ⟨n + 1, h.snoc hz⟩
theorem Path.cons {R : NN → List NN} {x y z : NN} (h : y ∈ R x) (hz : Path R y z) : Path R x z := by obtain ⟨n, hz⟩ := hz; exact ⟨n + 1, y, h, hz⟩

/-- the search from s: S: seen; rest: the stack; x, todo: what is being looked at, and its followers still to do -/
structure Dfs (R : NN → List NN) (V : NN → Prop) (s : NN) (S rest : List NN) (x : NN) (todo : List NN) : Prop where
  reach : ∀ y, y ∈ S → Path R s y
  stack : ∀ y, y ∈ rest → y = s ∨ y ∈ S
  cur : x = s ∨ x ∈ S
  sub : ∀ y, y ∈ todo → y ∈ R x
  noself : s ∉ S
  nodup : S.Nodup
  valid : ∀ y, y ∈ S → V y
  vs : V s
  closed : ∀ z, (z = s ∨ z ∈ S) → z ∉ rest → ∀ y, y ∈ R z → y ∈ S ∨ (z = x ∧ y ∈ todo)
section
variable {R : NN → List NN} {V : NN → Prop} {s : NN} {S rest : List NN} {x : NN}
theorem Dfs.start (hv : V s) : Dfs R V s [] [s] s [] :=
  ⟨by simp, by simp, .inl rfl, by simp, by simp, List.nodup_nil, by simp, hv, fun z h hn => by rcases h with h | h
                                                                                               · exact absurd (by rw [h]; simp) hn
                                                                                               · cases h⟩
theorem Dfs.pop {y : NN} (h : Dfs R V s S (rest ++ [y]) x []) : Dfs R V s S rest y (R y) := by
  refine ⟨h.reach, fun z hz => h.stack z (by simp [hz]), h.stack y (by simp), fun z hz => hz, h.noself, h.nodup, h.valid, h.vs, fun z hz hn u hu => ?_⟩
  by_cases e : z = y
  · subst e; exact .inr ⟨rfl, hu⟩
  · rcases h.closed z hz (by simp [hn, e]) u hu with h' | ⟨_, h'⟩
    · exact .inl h'
    · cases h'
theorem Dfs.skip {y : NN} {t : List NN} (h : Dfs R V s S rest x (y :: t)) (hy : y ∈ S) : Dfs R V s S rest x t := by
  refine ⟨h.reach, h.stack, h.cur, fun z hz => h.sub z (by simp [hz]), h.noself, h.nodup, h.valid, h.vs, fun z hz hn u hu => ?_⟩
  rcases h.closed z hz hn u hu with h' | ⟨e, h'⟩
  · exact .inl h'
  · rcases List.mem_cons.1 h' with e' | h'
    · subst e'; exact .inl hy
    · exact .inr ⟨e, h'⟩
theorem Dfs.reached {t : List NN} (h : Dfs R V s S rest x t) {y : NN} (hy : y ∈ R x) : Path R s y := by
  rcases h.cur with e | e
  · subst e; exact .one hy
  · exact (h.reach x e).snoc hy
theorem Dfs.push {y : NN} {t : List NN} (h : Dfs R V s S rest x (y :: t)) (hy : y ∉ S) (hs : y ≠ s) (hv : V y) : Dfs R V s (S ++ [y]) (rest ++ [y]) x t := by
  have hr := h.reached (h.sub y (by simp))
  refine ⟨fun z hz => ?_, fun z hz => ?_, h.cur.imp id (fun e => by simp [e]), fun z hz => h.sub z (by simp [hz]), ?_, ?_, fun z hz => ?_, h.vs, fun z hz hn u hu => ?_⟩
  · rcases List.mem_append.1 hz with hz | hz
    · exact h.reach z hz
    · simp at hz; subst hz; exact hr
  · rcases List.mem_append.1 hz with hz | hz
    · exact (h.stack z hz).imp id (fun e => by simp [e])
    · simp at hz; subst hz; exact .inr (by simp)
  · intro hm
    rcases List.mem_append.1 hm with hm | hm
    · exact h.noself hm
    · simp at hm; exact hs hm.symm
  · rw [List.nodup_append]
    exact ⟨h.nodup, by simp, fun a ha b hb => by simp at hb; subst hb; intro e; subst e; exact hy ha⟩
  · rcases List.mem_append.1 hz with hz | hz
    · exact h.valid z hz
    · simp at hz; subst hz; exact hv
  · have hzy : z ≠ y := fun e => hn (by simp [e])
    have hz' : z = s ∨ z ∈ S := hz.imp id (fun e => by
      rcases List.mem_append.1 e with e | e
      · exact e
      · simp at e; exact absurd e hzy)
    rcases h.closed z hz' (fun e => hn (by simp [e])) u hu with h' | ⟨e, h'⟩
    · exact .inl (by simp [h'])
    · rcases List.mem_cons.1 h' with e' | h'
      · subst e'; exact .inl (by simp)
      · exact .inr ⟨e, h'⟩
theorem Dfs.hit {t : List NN} (h : Dfs R V s S rest x (s :: t)) : Path R s s := h.reached (h.sub s (by simp))
theorem Dfs.none (h : Dfs R V s S [] x []) : ¬ Path R s s := by
  have key : ∀ n z, (z = s ∨ z ∈ S) → ∀ y, PathN R n z y → y ∈ S := by
    intro n
    induction n with
    | zero =>
      intro z hz y hy
      rcases h.closed z hz (by simp) y hy with h' | ⟨_, h'⟩
      · exact h'
      · cases h'
    | succ n ih =>
      rintro z hz y ⟨u, hu, hp⟩
      rcases h.closed z hz (by simp) u hu with h' | ⟨_, h'⟩
      · exact ih u (.inr h') y hp
      · cases h'
  rintro ⟨n, hn⟩
  exact h.noself (key n s (.inl rfl) s hn)
end
theorem nodup_le {α : Type} : ∀ (S l : List α), S.Nodup → (∀ y, y ∈ S → y ∈ l) → S.length ≤ l.length
  | [], _, _, _ => by simp
  | x :: S, l, hn, hs => by
    obtain ⟨a, b, hl⟩ := List.append_of_mem (hs x (by simp))
    subst hl
    rw [List.nodup_cons] at hn
    have := nodup_le S (a ++ b) hn.2 (fun y hy => by
      have h1 := hs y (by simp [hy])
      simp only [List.mem_append, List.mem_cons] at h1 ⊢
      rcases h1 with h1 | h1 | h1
      · exact .inl h1
      · subst h1; exact absurd hy hn.1
      · exact .inr h1)
    simp at this ⊢; omega

end Go.Proofs.Ytecgigeeolindaa
