/- A list of lists of numbers ([][]int), and where it lies; in a valid trace numbers are sent and received once. -/
import Derived.Test.YtecgigeeolindaaSnd
namespace Go.Proofs.Ytecgigeeolindaa
open Go.RowKit Go.Shelf

structure Mx where
  n : Nat
  rn : Nat → Nat
  val : Nat → Nat → Int
structure MM extends Mx where
  a : Option Addr
  b : Nat
  off : Nat
  cap : Nat
  ra : Nat → Option Addr
  rb : Nat → Nat
  ro : Nat → Nat
  rc : Nat → Nat
abbrev MM.v (M : MM) : Value := .slice M.a M.n M.cap
structure MM.At (M : MM) (w : World) : Prop where
  hn : M.n ≤ 140737488355328
  pa : 0 < M.n → M.a = some ⟨M.b, M.off, none⟩
  pb : 0 < M.n → ∀ w', Ext w w' → M.b < w'.heap.size
  p0 : ∀ w', Ext w w' → ∀ k, k < M.n → w'.cell? ⟨M.b, M.off + k, none⟩ = some (.slice (M.ra k) (M.rn k) (M.rc k))
  hr : ∀ k, k < M.n → M.rn k ≤ 140737488355328
  ra : ∀ k, k < M.n → 0 < M.rn k → M.ra k = some ⟨M.rb k, M.ro k, none⟩
  rb : ∀ k, k < M.n → 0 < M.rn k → ∀ w', Ext w w' → M.rb k < w'.heap.size
  r0 : ∀ w', Ext w w' → ∀ k i, k < M.n → i < M.rn k → w'.cell? ⟨M.rb k, M.ro k + i, none⟩ = some (.int .i64 (M.val k i))
theorem MM.At.ext {M : MM} {w w' : World} (h : M.At w) (x : Ext w w') : M.At w' :=
  ⟨h.hn, h.pa, fun h0 w' y => h.pb h0 w' (x.trans y), fun w' y => h.p0 w' (x.trans y), h.hr, h.ra, fun k h1 h2 w' y => h.rb k h1 h2 w' (x.trans y), fun w' y => h.r0 w' (x.trans y)⟩

theorem two_places {α : Type} {l : List α} {x y : α} (hx : x ∈ l) (hy : y ∈ l) (hne : x ≠ y) : (∃ pre, pre ++ [y] <+: l ∧ x ∈ pre) ∨ (∃ pre, pre ++ [x] <+: l ∧ y ∈ pre) := by
  obtain ⟨a, b, rfl⟩ := List.append_of_mem hx
  rcases List.mem_append.1 hy with hy | hy
  · exact .inr ⟨a, ⟨b, by simp⟩, hy⟩
  · rcases List.mem_cons.1 hy with e | hy
    · exact absurd e.symm hne
    · obtain ⟨c, d, rfl⟩ := List.append_of_mem hy
      exact .inl ⟨a ++ x :: c, ⟨d, by simp⟩, by simp⟩
theorem Tr.Valid.uniq2 {T : Tr} (h : T.Valid) {x y : T.Id} (hx : T.kind x.1.1 x.1.2 = 2) (hy : T.kind y.1.1 y.1.2 = 2) (hm : T.msg x.1.1 x.1.2 = T.msg y.1.1 y.1.2) : x = y := by
  have key : ∀ (x y : T.Id) pre, pre ++ [y] <+: T.evs → x ∈ pre → T.kind x.1.1 x.1.2 = 2 → T.kind y.1.1 y.1.2 = 2 → T.msg x.1.1 x.1.2 = T.msg y.1.1 y.1.2 → False := by
    intro x y pre hp hx h1 h2 h3
    have hn := (h.msg pre y hp).1 h2
    have := Ltr.of_fi h.formed pre Ltr.zero (T.msg y.1.1 y.1.2).toNat (.inr ⟨x, hx, h1, by rw [h3]; rcases h.formed y with h | h <;> omega⟩)
    unfold Ltr.of at hn; omega
  refine Classical.byContradiction fun hne => ?_
  rcases two_places (evs_all x) (evs_all y) hne with ⟨pre, hp, hi⟩ | ⟨pre, hp, hi⟩
  · exact key x y pre hp hi hx hy hm
  · exact key y x pre hp hi hy hx hm.symm
theorem Tr.Valid.uniq3 {T : Tr} (h : T.Valid) {x y : T.Id} (hx : T.kind x.1.1 x.1.2 = 3) (hy : T.kind y.1.1 y.1.2 = 3) (hm : T.msg x.1.1 x.1.2 = T.msg y.1.1 y.1.2) : x = y := by
  have key : ∀ (x y : T.Id) pre, pre ++ [y] <+: T.evs → x ∈ pre → T.kind x.1.1 x.1.2 = 3 → T.kind y.1.1 y.1.2 = 3 → T.msg x.1.1 x.1.2 = T.msg y.1.1 y.1.2 → False := by
    intro x y pre hp hx h1 h2 h3
    have hn := ((h.msg pre y hp).2 h2).1
    have := Ltr.of_ti h.formed pre Ltr.zero (T.msg y.1.1 y.1.2).toNat (.inr ⟨x, hx, h1, by rw [h3]; rcases h.formed y with h | h <;> omega⟩)
    unfold Ltr.of at hn; omega
  refine Classical.byContradiction fun hne => ?_
  rcases two_places (evs_all x) (evs_all y) hne with ⟨pre, hp, hi⟩ | ⟨pre, hp, hi⟩
  · exact key x y pre hp hi hx hy hm
  · exact key y x pre hp hi hy hx hm.symm
/-- y sends what x receives -/
def Tr.Snd (T : Tr) (x y : T.Id) : Prop := T.kind x.1.1 x.1.2 = 3 ∧ T.kind y.1.1 y.1.2 = 2 ∧ T.msg y.1.1 y.1.2 = T.msg x.1.1 x.1.2
theorem Tr.Valid.snd_ex {T : Tr} (h : T.Valid) (x : T.Id) (hx : T.kind x.1.1 x.1.2 = 3) : ∃ y, T.Snd x y := by
  obtain ⟨a, b, e⟩ := List.append_of_mem (evs_all x)
  have hs := ((h.msg a x ⟨b, by rw [e]; simp⟩).2 hx).2
  obtain ⟨i, hi, hp⟩ := anyB_iff.1 hs
  simp only [Bool.and_eq_true, decide_eq_true_eq] at hp
  have hpeer : (T.peer x.1.1 x.1.2).toNat < T.n := by rcases h.formed x with h | h <;> omega
  exact ⟨⟨((T.peer x.1.1 x.1.2).toNat, i), hpeer, hi⟩, hx, hp.1.1, hp.1.2⟩
open Classical in
/-- who sends what x receives -/
noncomputable def Tr.snd (T : Tr) (x : T.Id) : T.Id := if h : ∃ y, T.Snd x y then Classical.choose h else x
theorem Tr.Valid.snd {T : Tr} (h : T.Valid) (x : T.Id) (hx : T.kind x.1.1 x.1.2 = 3) : T.Snd x (T.snd x) := by
  have he := h.snd_ex x hx
  unfold Tr.snd
  rw [dif_pos he]; exact Classical.choose_spec he
theorem Tr.Valid.snd_eq {T : Tr} (h : T.Valid) {x y : T.Id} (hy : T.Snd x y) : T.snd x = y := by
  have hs := h.snd x hy.1
  exact h.uniq2 hs.2.1 hy.2.1 (hs.2.2.trans hy.2.2.symm)
/-- what Sender finds for a received number -/
theorem Tr.Valid.found {T : Tr} (h : T.Valid) {x : T.Id} (hx : T.kind x.1.1 x.1.2 = 3) {p q : Int} {b : Bool} (hf : T.FindIs 2 (T.msg x.1.1 x.1.2) p q b) : p = (T.snd x).1.1 ∧ q = (T.snd x).1.2 + 1 ∧ b = true := by
  rcases hf with ⟨y, hy, hp, hq, hb⟩ | ⟨hn, _⟩
  · have := h.snd_eq (x := x) (y := y) ⟨hx, hy.1, hy.2⟩
    rw [this]; exact ⟨hp, hq, hb⟩
  · have hs := h.snd x hx
    exact absurd ⟨hs.2.1, hs.2.2⟩ (hn _)

end Go.Proofs.Ytecgigeeolindaa
