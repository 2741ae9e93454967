/- Contracts of the small closures of package trace. -/
import Derived.Test.YtecgigeeolindaaTrace
namespace Go.Proofs.Ytecgigeeolindaa
open Go.RowKit

def strEq (s t : ByteArray) : Bool := s.toList == t.toList
set_option maxHeartbeats 400000 in
theorem processFault1 (w : World) (s nm : ByteArray) (v1 v2 : Value) (bx : Nat) (hc : w.cell? ⟨bx, 0, none⟩ = some (.string nm)) :
    Calls Try.prog 84 #[.agg #[.string s, v1, v2], .pointer (some ⟨bx, 0, none⟩)] w fun e w' => e = .returned (.bool (strEq s nm)) ∧ Ext w w' := by
  have hlt := cell_lt hc
  dsimp only at hlt
  go_enter Try.func84, Try.ntmps84
  go_wp2
  go_ret
  exact ⟨ret_bool (by simp [strEq]), Ext.alloc _ _⟩
set_option maxHeartbeats 400000 in
theorem processFault2 (w : World) (s nm : ByteArray) (v1 : Value) (bx : Nat) (hc : w.cell? ⟨bx, 0, none⟩ = some (.string nm)) :
    Calls Try.prog 85 #[.agg #[.string s, v1], .pointer (some ⟨bx, 0, none⟩)] w fun e w' => e = .returned (.bool (strEq s nm)) ∧ Ext w w' := by
  have hlt := cell_lt hc
  dsimp only at hlt
  go_enter Try.func85, Try.ntmps85
  go_wp2
  go_ret
  exact ⟨ret_bool (by simp [strEq]), Ext.alloc _ _⟩
set_option maxHeartbeats 400000 in
theorem eventFault1 (w : World) (v x : Int) (v1 : Value) (bx : Nat) (hc : w.cell? ⟨bx, 0, none⟩ = some (.int .i64 x)) :
    Calls Try.prog 89 #[.agg #[.int .i64 v, v1], .pointer (some ⟨bx, 0, none⟩)] w fun e w' => e = .returned (.bool (v == x)) ∧ Ext w w' := by
  have hlt := cell_lt hc
  dsimp only at hlt
  go_enter Try.func89, Try.ntmps89
  go_wp2
  go_ret
  exact ⟨rfl, Ext.alloc _ _⟩
set_option maxHeartbeats 400000 in
theorem sends1 (w : World) (kind peer msg m q : Int) (v3 v4 : Value) (bm bt : Nat) (hm : w.cell? ⟨bm, 0, none⟩ = some (.int .i64 m)) (ht : w.cell? ⟨bt, 0, none⟩ = some (.int .i64 q)) :
    Calls Try.prog 97 #[.agg #[.int .i64 kind, .int .i64 peer, .int .i64 msg, v3, v4], .pointer (some ⟨bm, 0, none⟩), .pointer (some ⟨bt, 0, none⟩)] w fun e w' => e = .returned (.bool (decide (kind = 2) && decide (msg = m) && decide (peer = q))) ∧ Ext w w' := by
  have hlt := cell_lt hm
  have hlt' := cell_lt ht
  dsimp only at hlt hlt'
  go_enter Try.func97, Try.ntmps97
  go_wp2
  all_goals go_ret
  all_goals refine ⟨ret_bool ?_, Ext.alloc _ _⟩
  all_goals (rw [Bool.eq_iff_iff]; simp; try omega)

end Go.Proofs.Ytecgigeeolindaa
