/- Contract: trace.Sender; who sends a number, in a valid trace. -/
import Derived.Test.YtecgigeeolindaaFind
namespace Go.Proofs.Ytecgigeeolindaa
open Go.RowKit Go.Shelf

set_option maxRecDepth 100000 in
set_option maxHeartbeats 1000000 in
theorem sender_any (w : World) (T : TM) (hT : T.At w) (hV : T.toTr.Valid) (m : Int) :
    Calls Try.prog 39 #[T.val, .int .i64 m] w (FindPost T 2 m w) := by
  go_enter Try.func39, Try.ntmps39
  go_upto_region 1 with fail
  refine boxed2 (w := w) (G := fun x => Code.wp _ _ _ _ x) ?_
  intro w1 hx1 hs1 ⟨l0, c0, _, _⟩ ⟨l1, c1, f1, k1⟩
  have hx11 : Ext w1 w1 := Ext.refl _
  have hF := find_any w1 T (hT.ext hx1) hV 2 m
  have HS := Lib.hid hs1
  clear hs1 hT hV
  go_wp2_with (go_at_call 59; refine hF.mono ?_; rintro e w2 ⟨hx2, p, q, b, rfl, hc⟩; have hx22 := Ext.refl w2)
  have HC := Lib.hid hc
  have h2 := ((Hold.ext k1 hx2).set 0 (.int .i64 p)).set 1 (.int .i64 q)
  simp only [List.setIfInBounds_toArray, List.set_cons_zero, List.set_cons_succ] at h2
  have g0 := h2.cell0 0
  have g1 := h2.cell0 1
  refine bodyPost_ret (v := .tuple #[.agg #[.int .i64 p, .int .i64 q], .bool b]) ?_ rfl ⟨?_, p, q, b, rfl, HC.out⟩
  · simp at g0 g1
    simp [results, Try.results39, go_sem, g0, g1]
  · exact ((hx1.trans hx2).setCell (by dsimp only; omega) _).setCell (by dsimp only; omega) _

/-- in a valid trace no two events send the same number -/
theorem Ltr.of_fi {T : Tr} (hf : ∀ x : T.Id, FormedP T x.1.1 (T.kind x.1.1 x.1.2) (T.peer x.1.1 x.1.2) (T.msg x.1.1 x.1.2)) : ∀ (l : List T.Id) (L : Ltr) (m : Nat), 0 < L.fi m ∨ (∃ x, x ∈ l ∧ T.kind x.1.1 x.1.2 = 2 ∧ T.msg x.1.1 x.1.2 = m) → 0 < (l.foldl (Ltr.step T) L).fi m
  | [], L, m, h => by
    rcases h with h | ⟨x, hx, _⟩
    · exact h
    · cases hx
  | x :: l, L, m, h => by
    refine Ltr.of_fi hf l _ m ?_
    by_cases hx : T.kind x.1.1 x.1.2 = 2
    · by_cases hm : (T.msg x.1.1 x.1.2).toNat = m
      · left; unfold Ltr.step; rw [if_pos hx]; simp only [upd, hm, if_true]; omega
      · rcases h with h | ⟨y, hy, h2, h3⟩
        · left; unfold Ltr.step; rw [if_pos hx]; simp only [upd, if_neg (Ne.symm hm)]; exact h
        · rcases List.mem_cons.1 hy with e | hy
          · subst e; exact absurd (by rw [h3]; rfl) hm
          · exact .inr ⟨y, hy, h2, h3⟩
    · rcases h with h | ⟨y, hy, h2, h3⟩
      · left; unfold Ltr.step; rw [if_neg hx]
        by_cases h3 : T.kind x.1.1 x.1.2 = 3
        · rw [if_pos h3]; exact h
        · rw [if_neg h3]; exact h
      · rcases List.mem_cons.1 hy with e | hy
        · subst e; exact absurd h2 hx
        · exact .inr ⟨y, hy, h2, h3⟩
theorem Ltr.of_ti {T : Tr} (hf : ∀ x : T.Id, FormedP T x.1.1 (T.kind x.1.1 x.1.2) (T.peer x.1.1 x.1.2) (T.msg x.1.1 x.1.2)) : ∀ (l : List T.Id) (L : Ltr) (m : Nat), 0 < L.ti m ∨ (∃ x, x ∈ l ∧ T.kind x.1.1 x.1.2 = 3 ∧ T.msg x.1.1 x.1.2 = m) → 0 < (l.foldl (Ltr.step T) L).ti m
  | [], L, m, h => by
    rcases h with h | ⟨x, hx, _⟩
    · exact h
    · cases hx
  | x :: l, L, m, h => by
    refine Ltr.of_ti hf l _ m ?_
    by_cases hx : T.kind x.1.1 x.1.2 = 3
    · have h2' : ¬ T.kind x.1.1 x.1.2 = 2 := by rw [hx]; decide
      by_cases hm : (T.msg x.1.1 x.1.2).toNat = m
      · left; unfold Ltr.step; rw [if_neg h2', if_pos hx]; simp only [upd, hm, if_true]; omega
      · rcases h with h | ⟨y, hy, h2, h3⟩
        · left; unfold Ltr.step; rw [if_neg h2', if_pos hx]; simp only [upd, if_neg (Ne.symm hm)]; exact h
        · rcases List.mem_cons.1 hy with e | hy
          · subst e; exact absurd (by rw [h3]; rfl) hm
          · exact .inr ⟨y, hy, h2, h3⟩
    · rcases h with h | ⟨y, hy, h2, h3⟩
      · left; unfold Ltr.step
        by_cases h2 : T.kind x.1.1 x.1.2 = 2
        · rw [if_pos h2]; exact h
        · rw [if_neg h2, if_neg hx]; exact h
      · rcases List.mem_cons.1 hy with e | hy
        · subst e; exact absurd h2 hx
        · exact .inr ⟨y, hy, h2, h3⟩
theorem evs_all {T : Tr} (x : T.Id) : x ∈ T.evs := by
  have hm := evs_mem (T := T) (x := x.1) x.2
  obtain ⟨y, hy, e⟩ := List.mem_map.1 hm
  rw [show x = y from Subtype.ext e.symm]; exact hy
theorem Tr.Valid.formed {T : Tr} (h : T.Valid) (x : T.Id) : FormedP T x.1.1 (T.kind x.1.1 x.1.2) (T.peer x.1.1 x.1.2) (T.msg x.1.1 x.1.2) := (h.ev x.1.1 x.1.2 x.2.1 x.2.2).1

end Go.Proofs.Ytecgigeeolindaa
