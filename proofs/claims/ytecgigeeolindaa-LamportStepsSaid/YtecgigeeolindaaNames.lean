/- Contracts: letters, digits, names, numbers in a range. -/
import Derived.Test.YtecgigeeolindaaTrace
namespace Go.Proofs.Ytecgigeeolindaa
open Go.RowKit

def letterB (c : Int) : Bool := (decide (97 ≤ c) && decide (c ≤ 122)) || (decide (65 ≤ c) && decide (c ≤ 90))
def digitB (c : Int) : Bool := decide (48 ≤ c) && decide (c ≤ 57)
def inB (x low high : Int) : Bool := decide (low ≤ x) && decide (x ≤ high)

set_option maxHeartbeats 400000 in
theorem letter_any (c : Int) (w : World) :
    Calls Try.prog 93 #[.int .u8 c] w fun e w' => e = .returned (.bool (letterB c)) ∧ w = w' := by
  go_enter Try.func93, Try.ntmps93
  go_wp2
  all_goals go_ret
  all_goals refine ⟨ret_bool ?_, rfl⟩
  all_goals (rw [Bool.eq_iff_iff]; simp [letterB]; try omega)
set_option maxHeartbeats 400000 in
theorem digit_any (c : Int) (w : World) :
    Calls Try.prog 94 #[.int .u8 c] w fun e w' => e = .returned (.bool (digitB c)) ∧ w = w' := by
  go_enter Try.func94, Try.ntmps94
  go_wp2
  all_goals go_ret
  all_goals refine ⟨ret_bool ?_, rfl⟩
  all_goals (rw [Bool.eq_iff_iff]; simp [digitB]; try omega)
set_option maxHeartbeats 400000 in
theorem in_any (x low high : Int) (w : World) :
    Calls Try.prog 72 #[.int .i64 x, .int .i64 low, .int .i64 high] w fun e w' => e = .returned (.bool (inB x low high)) ∧ w = w' := by
  go_enter Try.func72, Try.ntmps72
  go_wp2
  all_goals go_ret
  all_goals refine ⟨ret_bool ?_, rfl⟩
  all_goals (rw [Bool.eq_iff_iff]; simp [inB]; try omega)

/-- a name: a letter, then letters, digits and '_', at most 16 -/
def nameC (c : UInt8) : Bool := letterB c.toNat || digitB c.toNat || decide (c.toNat = 95)
def nameB (s : ByteArray) : Bool := decide (1 ≤ s.size) && decide (s.size ≤ 16) && letterB (s.data.toList.headD 0).toNat && s.data.toList.all nameC

theorem take_all_snoc (s : ByteArray) (k : Nat) (h : k < s.size) : (s.data.toList.take (k + 1)).all nameC = ((s.data.toList.take k).all nameC && nameC s[k]) := by
  rw [List.take_succ_eq_append_getElem (by simpa using h)]; simp; rfl
theorem take_all_whole (s : ByteArray) : (s.data.toList.take s.size).all nameC = s.data.toList.all nameC := by
  rw [List.take_of_length_le (by simp)]
theorem all_false (s : ByteArray) (k : Nat) (h : k < s.size) (hc : nameC s[k] = false) : s.data.toList.all nameC = false := by
  rw [List.all_eq_false]
  exact ⟨s[k], by simp [ByteArray.getElem_eq_getElem_data], by simp [hc]⟩
theorem nameB_false_of_all (s : ByteArray) (h : s.data.toList.all nameC = false) : nameB s = false := by simp [nameB, h]
theorem head_get (s : ByteArray) (h : 0 < s.size) : s.data.toList.headD 0 = s[0] := by
  obtain ⟨⟨l⟩⟩ := s
  cases l with
  | nil => exact absurd h (by decide)
  | cons x l => rfl

theorem nameB_true (s : ByteArray) (h0 : 0 < s.size) (h1 : s.size ≤ 16) (h2 : letterB s[0].toNat = true) (ha : s.data.toList.all nameC = true) : nameB s = true := by
  unfold nameB; rw [head_get s h0, h2, ha, decide_eq_true h1, decide_eq_true (show 1 ≤ s.size from h0)]; rfl
theorem nameB_head (s : ByteArray) (h0 : 0 < s.size) (h2 : letterB s[0].toNat = false) : nameB s = false := by
  unfold nameB; rw [head_get s h0, h2]; simp
theorem nameC_no {c : UInt8} (h1 : letterB c.toNat = false) (h2 : ¬ digitB c.toNat = true) (h3 : ((c.toNat : Int) != 95) = true) : nameC c = false := by
  have : ¬ c.toNat = 95 := by intro e; rw [e] at h3; simp at h3
  simp [nameC, h1, h2, this]
theorem nameC_yes {c : UInt8} (h3 : ((c.toNat : Int) != 95) = false) : nameC c = true := by
  have : c.toNat = 95 := by simp at h3; omega
  simp [nameC, this]
theorem nameC_letter {c : UInt8} (h : letterB c.toNat = true) : nameC c = true := by simp [nameC, h]
theorem nameC_digit {c : UInt8} (h : digitB c.toNat = true) : nameC c = true := by simp [nameC, h]
theorem toList_size (s : ByteArray) : s.toList.length = s.size := by
  simp [ByteArray.toList_eq]
set_option maxRecDepth 10000 in
set_option maxHeartbeats 400000 in
theorem isName_any (s : ByteArray) (w : World) (hs : s.size ≤ 9223372036854775807) :
    Calls Try.prog 82 #[.string s] w fun e w' => e = .returned (.bool (nameB s)) ∧ w = w' := by
  by_cases h0 : 0 < s.size
  · have hl := toList_size s
    have hne : s.toList.isEmpty = false := by rw [List.isEmpty_eq_false_iff_exists_mem]; cases h : s.toList with | nil => (rw [h] at hl; simp at hl; omega) | cons x l => exact ⟨x, by simp⟩
    have hne2 : ¬ s.toList = [] := by intro h; rw [h] at hne; simp at hne
    clear hl
    by_cases h1 : s.size ≤ 16
    · cases h2 : letterB s[0].toNat with
      | true =>
        have HA := Lib.hid (take_all_whole s)
        go_enter Try.func82, Try.ntmps82
        go_wp2_with (go_at_call 93; refine (letter_any _ _).mono ?_; rintro e w' ⟨rfl, rfl⟩)
        go_loop [19] (fun i => ∃ k : Nat, k ≤ s.size ∧ i = .int .i64 k ∧ (s.data.toList.take k).all nameC = true) (fun i => s.size - (intOf i).toNat)
        case atStart => exact ⟨0, Nat.zero_le _, rfl, by simp⟩
        case round =>
          obtain ⟨k, hk, rfl, hall⟩ := hrel
          by_cases hlt : k < s.size
          · have HT := Lib.hid (take_all_snoc s k hlt)
            have HF := Lib.hid (all_false s k hlt)
            have HL := Lib.hid hall
            clear hall
            cases hA : letterB s[k].toNat with
            | true =>
              go_wp2_with (first | (go_at_call 93; refine (letter_any _ _).mono ?_; rintro e w' ⟨rfl, rfl⟩) | (go_at_call 94; refine (digit_any _ _).mono ?_; rintro e w' ⟨rfl, rfl⟩))
              go_round
              case rel => exact ⟨k + 1, by omega, by go_num, by rw [HT.out, HL.out, nameC_letter hA]; rfl⟩
              case measure => simp [intOf]; omega
            | false =>
              go_wp2_with (first | (go_at_call 93; refine (letter_any _ _).mono ?_; rintro e w' ⟨rfl, rfl⟩) | (go_at_call 94; refine (digit_any _ _).mono ?_; rintro e w' ⟨rfl, rfl⟩))
              · go_round
                case rel => exact ⟨k + 1, by omega, by go_num, by rw [HT.out, HL.out, nameC_digit ‹_›]; rfl⟩
                case measure => simp [intOf]; omega
              · go_ret
                exact ⟨ret_bool (nameB_false_of_all s (HF.out (nameC_no hA ‹_› ‹_›))).symm, rfl⟩
              · go_round
                case rel => exact ⟨k + 1, by omega, by go_num, by rw [HT.out, HL.out, nameC_yes ‹_›]; rfl⟩
                case measure => simp [intOf]; omega
          · go_wp2
            go_ret
            have hkk : k = s.size := by omega
            exact ⟨ret_bool (by rw [hkk, HA.out] at hall; exact (nameB_true s h0 h1 h2 hall).symm), rfl⟩
      | false =>
        go_enter Try.func82, Try.ntmps82
        go_wp2_with (go_at_call 93; refine (letter_any _ _).mono ?_; rintro e w' ⟨rfl, rfl⟩)
        go_ret
        exact ⟨ret_bool (nameB_head s h0 h2).symm, rfl⟩
    · go_enter Try.func82, Try.ntmps82
      go_wp2
      go_ret
      exact ⟨ret_bool (by simp [nameB, h1]), rfl⟩
  · have h00 : s.size = 0 := by omega
    have hl := toList_size s
    have hne : s.toList = [] := by rw [← List.length_eq_zero_iff]; omega
    clear hl h00
    go_enter Try.func82, Try.ntmps82
    go_wp2
    go_ret
    exact ⟨ret_bool (by simp [nameB]; omega), rfl⟩

end Go.Proofs.Ytecgigeeolindaa
