/- slices.IndexFunc and slices.ContainsFunc at further element types (printed by gen.py). -/
import Derived.Test.YtecgigeeolindaaIdx
namespace Go.Proofs.Ytecgigeeolindaa
open Go.RowKit Go.Shelf

/-- slices.IndexFunc at Event: the first i < n with p i, or -1 -/
theorem idx_Event (w : World) (a : Option Addr) (b off n cap : Nat) (c0 c1 c2 c3 c4 : Nat → Value) (g : Nat) (lb : Array Value) (p : Nat → Bool)
    (hn : n ≤ 140737488355328) (ha : 0 < n → a = some ⟨b, off, none⟩)
    (l0 : ∀ w', Ext w w' → ∀ i, i < n → w'.cell? ⟨b, off + i * 5, none⟩ = some (c0 i))
    (l1 : ∀ w', Ext w w' → ∀ i, i < n → w'.cell? ⟨b, off + i * 5 + 1, none⟩ = some (c1 i))
    (l2 : ∀ w', Ext w w' → ∀ i, i < n → w'.cell? ⟨b, off + i * 5 + 2, none⟩ = some (c2 i))
    (l3 : ∀ w', Ext w w' → ∀ i, i < n → w'.cell? ⟨b, off + i * 5 + 3, none⟩ = some (c3 i))
    (l4 : ∀ w', Ext w w' → ∀ i, i < n → w'.cell? ⟨b, off + i * 5 + 4, none⟩ = some (c4 i))
    (eg : Enters Try.prog g)
    (hp : ∀ i, i < n → ∀ w', Ext w w' → Calls Try.prog g (#[.agg #[c0 i, c1 i, c2 i, c3 i, c4 i]] ++ lb) w' fun e w'' => e = .returned (.bool (p i)) ∧ Ext w' w'') :
    Calls Try.prog 51 #[.slice a n cap, .func (.func g) #[] lb] w fun e w' => e = .returned (.int .i64 (idxI p n)) ∧ Ext w w' := by
  have HP := Lib.hid hp
  clear hp
  go_enter Try.func51, Try.ntmps51
  go_wp2
  go_loopw [8] (fun v wr => ∃ k : Nat, k ≤ n ∧ v = .int .i64 k ∧ Ext w wr ∧ NoneB p k) (fun v _ => n - (intOf v).toNat)
  case atStart => exact ⟨0, Nat.zero_le _, rfl, Ext.refl _, NoneB.zero _⟩
  case round =>
    obtain ⟨k, hk, rfl, hx, hN⟩ := hrel
    have HN := Lib.hid hN
    clear hN
    by_cases hlt : k < n
    · obtain rfl := ha (by omega)
      have hc := HP.out k hlt wr hx
      unfold Enters at eg
      cases hq : p k with
      | true =>
        rw [hq] at hc
        go_wp2_with (go_at_fn g; refine hc.mono ?_; rintro e w' ⟨rfl, hx'⟩)
        go_ret
        exact ⟨ret_int (idxI_hit hlt hq HN.out).symm, hx.trans hx'⟩
      | false =>
        rw [hq] at hc
        go_wp2_with (go_at_fn g; refine hc.mono ?_; rintro e w' ⟨rfl, hx'⟩)
        go_roundw
        case rel => exact ⟨k + 1, by omega, by go_num, hx.trans hx', HN.out.succ hq⟩
        case measure => simp [intOf]; omega
    · have HN' := Lib.hid (show NoneB p n from fun i hi => HN.out i (by omega))
      go_wp2
      go_ret
      exact ⟨ret_int (idxI_none HN'.out).symm, hx⟩

/-- slices.ContainsFunc at Event: is there an i < n with p i? -/
theorem has_Event (w : World) (a : Option Addr) (b off n cap : Nat) (c0 c1 c2 c3 c4 : Nat → Value) (g : Nat) (lb : Array Value) (p : Nat → Bool)
    (hn : n ≤ 140737488355328) (ha : 0 < n → a = some ⟨b, off, none⟩)
    (l0 : ∀ w', Ext w w' → ∀ i, i < n → w'.cell? ⟨b, off + i * 5, none⟩ = some (c0 i))
    (l1 : ∀ w', Ext w w' → ∀ i, i < n → w'.cell? ⟨b, off + i * 5 + 1, none⟩ = some (c1 i))
    (l2 : ∀ w', Ext w w' → ∀ i, i < n → w'.cell? ⟨b, off + i * 5 + 2, none⟩ = some (c2 i))
    (l3 : ∀ w', Ext w w' → ∀ i, i < n → w'.cell? ⟨b, off + i * 5 + 3, none⟩ = some (c3 i))
    (l4 : ∀ w', Ext w w' → ∀ i, i < n → w'.cell? ⟨b, off + i * 5 + 4, none⟩ = some (c4 i))
    (eg : Enters Try.prog g)
    (hp : ∀ i, i < n → ∀ w', Ext w w' → Calls Try.prog g (#[.agg #[c0 i, c1 i, c2 i, c3 i, c4 i]] ++ lb) w' fun e w'' => e = .returned (.bool (p i)) ∧ Ext w' w'') :
    Calls Try.prog 32 #[.slice a n cap, .func (.func g) #[] lb] w fun e w' => e = .returned (.bool (anyB p n)) ∧ Ext w w' := by
  have hc := idx_Event w a b off n cap c0 c1 c2 c3 c4 g lb p hn ha l0 l1 l2 l3 l4 eg hp
  have HI := Lib.hid (idxI_anyB p n)
  clear hp l0 l1 l2 l3 l4 ha eg
  go_enter Try.func32, Try.ntmps32
  go_wp2_with (go_at_call 51; refine hc.mono ?_; rintro e w' ⟨rfl, hx'⟩)
  go_ret
  exact ⟨ret_bool HI.out, hx'⟩

end Go.Proofs.Ytecgigeeolindaa
