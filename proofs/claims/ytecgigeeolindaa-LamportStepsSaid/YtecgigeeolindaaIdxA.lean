/- slices.IndexFunc and slices.ContainsFunc at further element types (printed by gen.py). -/
import Derived.Test.YtecgigeeolindaaIdx
namespace Go.Proofs.Ytecgigeeolindaa
open Go.RowKit Go.Shelf

/-- slices.IndexFunc at Assign: the first i < n with p i, or -1 -/
theorem idx_Assign (w : World) (a : Option Addr) (b off n cap : Nat) (c0 c1 : Nat → Value) (g : Nat) (lb : Array Value) (p : Nat → Bool)
    (hn : n ≤ 140737488355328) (ha : 0 < n → a = some ⟨b, off, none⟩)
    (l0 : ∀ w', Ext w w' → ∀ i, i < n → w'.cell? ⟨b, off + i * 2, none⟩ = some (c0 i))
    (l1 : ∀ w', Ext w w' → ∀ i, i < n → w'.cell? ⟨b, off + i * 2 + 1, none⟩ = some (c1 i))
    (eg : Enters Try.prog g)
    (hp : ∀ i, i < n → ∀ w', Ext w w' → Calls Try.prog g (#[.agg #[c0 i, c1 i]] ++ lb) w' fun e w'' => e = .returned (.bool (p i)) ∧ Ext w' w'') :
    Calls Try.prog 96 #[.slice a n cap, .func (.func g) #[] lb] w fun e w' => e = .returned (.int .i64 (idxI p n)) ∧ Ext w w' := by
  have HP := Lib.hid hp
  clear hp
  go_enter Try.func96, Try.ntmps96
  go_wp2
  go_loopw [8] (fun v wr => ∃ k : Nat, k ≤ n ∧ v = .int .i64 k ∧ Ext w wr ∧ NoneB p k) (fun v _ => n - (intOf v).toNat)
  case atStart => exact ⟨0, Nat.zero_le _, rfl, Ext.refl _, NoneB.zero _⟩
  case round =>
    obtain ⟨k, hk, rfl, hx, hN⟩ := hrel
    have HN := Lib.hid hN
    clear hN
    by_cases hlt : k < n
    · obtain rfl := ha (by omega)
      have hc := HP.out k hlt wr hx
      unfold Enters at eg
      cases hq : p k with
      | true =>
        rw [hq] at hc
        go_wp2_with (go_at_fn g; refine hc.mono ?_; rintro e w' ⟨rfl, hx'⟩)
        go_ret
        exact ⟨ret_int (idxI_hit hlt hq HN.out).symm, hx.trans hx'⟩
      | false =>
        rw [hq] at hc
        go_wp2_with (go_at_fn g; refine hc.mono ?_; rintro e w' ⟨rfl, hx'⟩)
        go_roundw
        case rel => exact ⟨k + 1, by omega, by go_num, hx.trans hx', HN.out.succ hq⟩
        case measure => simp [intOf]; omega
    · have HN' := Lib.hid (show NoneB p n from fun i hi => HN.out i (by omega))
      go_wp2
      go_ret
      exact ⟨ret_int (idxI_none HN'.out).symm, hx⟩

/-- slices.ContainsFunc at Assign: is there an i < n with p i? -/
theorem has_Assign (w : World) (a : Option Addr) (b off n cap : Nat) (c0 c1 : Nat → Value) (g : Nat) (lb : Array Value) (p : Nat → Bool)
    (hn : n ≤ 140737488355328) (ha : 0 < n → a = some ⟨b, off, none⟩)
    (l0 : ∀ w', Ext w w' → ∀ i, i < n → w'.cell? ⟨b, off + i * 2, none⟩ = some (c0 i))
    (l1 : ∀ w', Ext w w' → ∀ i, i < n → w'.cell? ⟨b, off + i * 2 + 1, none⟩ = some (c1 i))
    (eg : Enters Try.prog g)
    (hp : ∀ i, i < n → ∀ w', Ext w w' → Calls Try.prog g (#[.agg #[c0 i, c1 i]] ++ lb) w' fun e w'' => e = .returned (.bool (p i)) ∧ Ext w' w'') :
    Calls Try.prog 88 #[.slice a n cap, .func (.func g) #[] lb] w fun e w' => e = .returned (.bool (anyB p n)) ∧ Ext w w' := by
  have hc := idx_Assign w a b off n cap c0 c1 g lb p hn ha l0 l1 eg hp
  have HI := Lib.hid (idxI_anyB p n)
  clear hp l0 l1 ha eg
  go_enter Try.func88, Try.ntmps88
  go_wp2_with (go_at_call 96; refine hc.mono ?_; rintro e w' ⟨rfl, hx'⟩)
  go_ret
  exact ⟨ret_bool HI.out, hx'⟩

end Go.Proofs.Ytecgigeeolindaa
