/- Contract: slices.Reverse at EventId. -/
import Derived.Test.YtecgigeeolindaaStam
namespace Go.Proofs.Ytecgigeeolindaa
open Go.RowKit Go.Shelf

/-- n events lie in block g -/
structure EvRow (w : World) (g n : Nat) (f : Nat → Int × Int) : Prop where
  c0 : ∀ k, k < n → w.cell? ⟨g, k * 2, none⟩ = some (.int .i64 (f k).1)
  c1 : ∀ k, k < n → w.cell? ⟨g, k * 2 + 1, none⟩ = some (.int .i64 (f k).2)
  fr : ∀ o, w.frozen? ⟨g, o, none⟩ = false
/-- the first i and the last i have changed places -/
def revF (f : Nat → Int × Int) (n i : Nat) : Nat → Int × Int := fun k => if k < i ∨ n - 1 - i < k then f (n - 1 - k) else f k
theorem EvRow.swap {w : World} {g n i j : Nat} {f : Nat → Int × Int} (h : EvRow w g n (revF f n i)) (hi : i < j) (hj : j = n - 1 - i) (hn : 0 < n) :
    EvRow ((((w.setCell ⟨g, i * 2, none⟩ (.int .i64 (f j).1)).setCell ⟨g, i * 2 + 1, none⟩ (.int .i64 (f j).2)).setCell ⟨g, j * 2, none⟩ (.int .i64 (f i).1)).setCell ⟨g, j * 2 + 1, none⟩ (.int .i64 (f i).2)) g n (revF f n (i + 1)) := by
  have a0 := h.c0 i (by omega)
  have a1 := h.c1 i (by omega)
  have b0 := h.c0 j (by omega)
  have b1 := h.c1 j (by omega)
  have e1 := fun o => cell_set w g (i * 2) o (.int .i64 (f j).1) a0
  have x2 : (w.setCell ⟨g, i * 2, none⟩ (.int .i64 (f j).1)).cell? ⟨g, i * 2 + 1, none⟩ = some (.int .i64 (revF f n i i).2) := by rw [e1, if_neg (by omega)]; exact a1
  have e2 := fun o => cell_set _ g (i * 2 + 1) o (.int .i64 (f j).2) x2
  have x3 : ((w.setCell ⟨g, i * 2, none⟩ (.int .i64 (f j).1)).setCell ⟨g, i * 2 + 1, none⟩ (.int .i64 (f j).2)).cell? ⟨g, j * 2, none⟩ = some (.int .i64 (revF f n i j).1) := by rw [e2, if_neg (by omega), e1, if_neg (by omega)]; exact b0
  have e3 := fun o => cell_set _ g (j * 2) o (.int .i64 (f i).1) x3
  have x4 : (((w.setCell ⟨g, i * 2, none⟩ (.int .i64 (f j).1)).setCell ⟨g, i * 2 + 1, none⟩ (.int .i64 (f j).2)).setCell ⟨g, j * 2, none⟩ (.int .i64 (f i).1)).cell? ⟨g, j * 2 + 1, none⟩ = some (.int .i64 (revF f n i j).2) := by rw [e3, if_neg (by omega), e2, if_neg (by omega), e1, if_neg (by omega)]; exact b1
  have e4 := fun o => cell_set _ g (j * 2 + 1) o (.int .i64 (f i).2) x4
  have hrev : ∀ k, k < n → revF f n (i + 1) k = if k = i then f j else if k = j then f i else revF f n i k := by
    intro k hk
    unfold revF
    by_cases k1 : k = i
    · subst k1; rw [if_pos (by omega), if_pos rfl, hj]
    · rw [if_neg k1]
      by_cases k2 : k = j
      · rw [if_pos (by omega), if_pos k2]; congr 1; omega
      · rw [if_neg k2]
        by_cases k3 : k < i ∨ n - 1 - i < k
        · rw [if_pos k3, if_pos (by omega)]
        · rw [if_neg k3, if_neg (by omega)]
  refine ⟨fun k hk => ?_, fun k hk => ?_, fun o => by rw [frozen_set, frozen_set, frozen_set, frozen_set]; exact h.fr o⟩
  · rw [e4, e3, e2, e1, hrev k hk, if_neg (by omega)]
    by_cases k2 : k = j
    · rw [if_pos (by omega), if_neg (by omega), if_pos k2]
    · rw [if_neg (by omega), if_neg (by omega)]
      by_cases k1 : k = i
      · rw [if_pos (by omega), if_pos k1]
      · rw [if_neg (by omega), if_neg k1, if_neg k2]; exact h.c0 k hk
  · rw [e4, e3, e2, e1, hrev k hk]
    by_cases k2 : k = j
    · rw [if_pos (by omega), if_neg (by omega), if_pos k2]
    · rw [if_neg (by omega), if_neg (by omega)]
      by_cases k1 : k = i
      · rw [if_pos (by omega), if_pos k1]
      · rw [if_neg (by omega), if_neg (by omega), if_neg k1, if_neg k2]; exact h.c1 k hk

set_option maxHeartbeats 1000000 in
theorem reverse_any (w : World) (g n cap : Nat) (f : Nat → Int × Int) (hR : EvRow w g n f) (hn : n ≤ 100000000) (h0 : 0 < n) :
    Calls Try.prog 40 #[.slice (some ⟨g, 0, none⟩) n cap] w fun e w' => e = .returned (.tuple #[]) ∧ EvRow w' g n (fun k => f (n - 1 - k)) ∧ Below g w w' := by
  go_enter Try.func40, Try.ntmps40
  go_wp2_with fail
  go_loopg [2, 3] n (fun gg v2 v3 wr => ∃ i : Nat, 2 * i ≤ n ∧ gg = n - i ∧ v2 = .int .i64 i ∧ v3 = .int .i64 (n - 1 - i) ∧ EvRow wr g n (revF f n i) ∧ Below g w wr)
  case atStart => exact ⟨0, by omega, rfl, rfl, by congr 1; omega, ⟨fun k hk => by rw [hR.c0 k hk, revF, if_neg (by omega)], fun k hk => by rw [hR.c1 k hk, revF, if_neg (by omega)], hR.fr⟩, Below.refl _ _⟩
  case round =>
    obtain ⟨i, hi, rfl, rfl, rfl, hr, hb⟩ := hrel
    by_cases hlt : i + 1 + i < n
    · obtain ⟨j, hj⟩ : ∃ j : Nat, j = n - 1 - i := ⟨_, rfl⟩
      have hj' : (n : Int) - 1 - i = j := by omega
      rw [hj'] 
      have hij : (i : Int) < (j : Int) := by omega
      have hjn : j < n := by omega
      have hin : i < n := by omega
      have a0 : wr.cell? ⟨g, i * 2, none⟩ = some (.int .i64 (f i).1) := by rw [hr.c0 i hin, revF, if_neg (by omega)]
      have a1 : wr.cell? ⟨g, i * 2 + 1, none⟩ = some (.int .i64 (f i).2) := by rw [hr.c1 i hin, revF, if_neg (by omega)]
      have b0 : wr.cell? ⟨g, j * 2, none⟩ = some (.int .i64 (f j).1) := by rw [hr.c0 j hjn, revF, if_neg (by omega)]
      have b1 : wr.cell? ⟨g, j * 2 + 1, none⟩ = some (.int .i64 (f j).2) := by rw [hr.c1 j hjn, revF, if_neg (by omega)]
      have fz := hr.fr
      have HS := Lib.hid (hr.swap (j := j) (by omega) hj (by omega))
      have HJ := Lib.hid hj
      have HB := Lib.hid hb
      have HL := Lib.hid hlt
      clear hj hj' hr hb hlt hR
      go_upto_region 3 with fail
      go_region
      all_goals go_wp2_with fail
      go_roundg (n - (i + 1))
      case rel => exact ⟨i + 1, by have := HL.out; omega, rfl, by go_num, by have := HJ.out; have := HL.out; congr 1; omega, ⟨HS.out.c0, HS.out.c1, HS.out.fr⟩, (((((HB.out.setCell (Nat.le_refl _) _).setCell (Nat.le_refl _) _).setCell (Nat.le_refl _) _).setCell (Nat.le_refl _) _).drew)⟩
      case measure => omega
    · have hij : ¬ (i : Int) < (n : Int) - 1 - i := by omega
      have hF : ∀ k, k < n → revF f n i k = f (n - 1 - k) := by
        intro k hk
        unfold revF
        by_cases h : k < i ∨ n - 1 - i < k
        · rw [if_pos h]
        · rw [if_neg h]; congr 1; omega
      go_wp2_with fail
      go_end0
      refine ⟨rfl, ⟨fun k hk => ?_, fun k hk => ?_, hr.fr⟩, hb⟩
      · rw [hr.c0 k hk, hF k hk]
      · rw [hr.c1 k hk, hF k hk]

end Go.Proofs.Ytecgigeeolindaa
