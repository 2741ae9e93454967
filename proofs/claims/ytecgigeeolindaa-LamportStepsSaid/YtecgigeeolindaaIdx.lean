/- slices.IndexFunc and slices.ContainsFunc at the element types of the program (printed by gen.py). -/
import Derived.Test.YtecgigeeolindaaTrace
import Derived.Shelf.Abstract
namespace Go.Proofs.Ytecgigeeolindaa
open Go.RowKit Go.Shelf

def anyB (p : Nat → Bool) : Nat → Bool
  | 0 => false
  | n + 1 => anyB p n || p n
def NoneB (p : Nat → Bool) (k : Nat) : Prop := ∀ i, i < k → p i = false
theorem NoneB.zero (p : Nat → Bool) : NoneB p 0 := fun _ h => absurd h (Nat.not_lt_zero _)
theorem NoneB.succ {p : Nat → Bool} {k : Nat} (h : NoneB p k) (hk : p k = false) : NoneB p (k + 1) := fun i hi => by
  by_cases e : i = k
  · rw [e]; exact hk
  · exact h i (by omega)
/-- the first i < n with p i; -1 if there is none -/
def idxFrom (p : Nat → Bool) : Nat → Nat → Int
  | 0, _ => -1
  | f + 1, i => if p i then i else idxFrom p f (i + 1)
def idxI (p : Nat → Bool) (n : Nat) : Int := idxFrom p n 0
theorem idxFrom_none {p : Nat → Bool} : ∀ (f i : Nat), (∀ j, i ≤ j → j < i + f → p j = false) → idxFrom p f i = -1
  | 0, _, _ => rfl
  | f + 1, i, h => by
    rw [idxFrom, h i (Nat.le_refl _) (by omega)]
    simp only [Bool.false_eq_true, if_false]
    exact idxFrom_none f (i + 1) (fun j h1 h2 => h j (by omega) (by omega))
theorem idxFrom_hit {p : Nat → Bool} : ∀ (f i k : Nat), i ≤ k → k < i + f → p k = true → (∀ j, i ≤ j → j < k → p j = false) → idxFrom p f i = k
  | 0, _, _, h1, h2, _, _ => by omega
  | f + 1, i, k, h1, h2, hp, h => by
    rw [idxFrom]
    by_cases e : i = k
    · subst e; rw [hp]; rfl
    · rw [h i (Nat.le_refl _) (by omega)]
      simp only [Bool.false_eq_true, if_false]
      exact idxFrom_hit f (i + 1) k (by omega) (by omega) hp (fun j h1 h2 => h j (by omega) h2)
theorem idxI_none {p : Nat → Bool} {n : Nat} (h : NoneB p n) : idxI p n = -1 := idxFrom_none n 0 (fun j _ h2 => h j (by omega))
theorem idxI_hit {p : Nat → Bool} {n k : Nat} (hk : k < n) (hp : p k = true) (h : NoneB p k) : idxI p n = k := idxFrom_hit n 0 k (by omega) (by omega) hp (fun j _ h2 => h j h2)
theorem anyB_none {p : Nat → Bool} {n : Nat} (h : NoneB p n) : anyB p n = false := by
  induction n with
  | zero => rfl
  | succ n ih => simp [anyB, ih (fun i hi => h i (by omega)), h n (by omega)]
theorem anyB_hit {p : Nat → Bool} {n k : Nat} (hk : k < n) (hp : p k = true) : anyB p n = true := by
  induction n with
  | zero => omega
  | succ n ih =>
    by_cases e : k = n
    · subst e; simp [anyB, hp]
    · simp [anyB, ih (by omega)]
theorem noneB_or_first (p : Nat → Bool) (n : Nat) : NoneB p n ∨ ∃ k, k < n ∧ p k = true ∧ NoneB p k := by
  induction n with
  | zero => exact .inl (NoneB.zero p)
  | succ n ih =>
    rcases ih with h | ⟨k, h1, h2, h3⟩
    · cases e : p n with
      | true => exact .inr ⟨n, by omega, e, h⟩
      | false => exact .inl (h.succ e)
    · exact .inr ⟨k, by omega, h2, h3⟩
theorem idxI_anyB (p : Nat → Bool) (n : Nat) : decide (0 ≤ idxI p n) = anyB p n := by
  rcases noneB_or_first p n with h | ⟨k, h1, h2, h3⟩
  · rw [idxI_none h, anyB_none h]; rfl
  · rw [idxI_hit h1 h2 h3, anyB_hit h1 h2]; simp
theorem anyB_iff {p : Nat → Bool} {n : Nat} : anyB p n = true ↔ ∃ i, i < n ∧ p i = true := by
  constructor
  · intro h
    rcases noneB_or_first p n with h' | ⟨k, h1, h2, _⟩
    · rw [anyB_none h'] at h; cases h
    · exact ⟨k, h1, h2⟩
  · rintro ⟨i, h1, h2⟩; exact anyB_hit h1 h2
theorem anyB_false_iff {p : Nat → Bool} {n : Nat} : anyB p n = false ↔ ∀ i, i < n → p i = false := by
  constructor
  · intro h i hi
    cases e : p i with
    | false => rfl
    | true => rw [anyB_hit hi e] at h; cases h
  · exact anyB_none

/-- slices.IndexFunc at Proc: the first i < n with p i, or -1 -/
theorem idx_Proc (w : World) (a : Option Addr) (b off n cap : Nat) (c0 c1 c2 : Nat → Value) (g : Nat) (lb : Array Value) (p : Nat → Bool)
    (hn : n ≤ 140737488355328) (ha : 0 < n → a = some ⟨b, off, none⟩)
    (l0 : ∀ w', Ext w w' → ∀ i, i < n → w'.cell? ⟨b, off + i * 3, none⟩ = some (c0 i))
    (l1 : ∀ w', Ext w w' → ∀ i, i < n → w'.cell? ⟨b, off + i * 3 + 1, none⟩ = some (c1 i))
    (l2 : ∀ w', Ext w w' → ∀ i, i < n → w'.cell? ⟨b, off + i * 3 + 2, none⟩ = some (c2 i))
    (eg : Enters Try.prog g)
    (hp : ∀ i, i < n → ∀ w', Ext w w' → Calls Try.prog g (#[.agg #[c0 i, c1 i, c2 i]] ++ lb) w' fun e w'' => e = .returned (.bool (p i)) ∧ Ext w' w'') :
    Calls Try.prog 95 #[.slice a n cap, .func (.func g) #[] lb] w fun e w' => e = .returned (.int .i64 (idxI p n)) ∧ Ext w w' := by
  have HP := Lib.hid hp
  clear hp
  go_enter Try.func95, Try.ntmps95
  go_wp2
  go_loopw [8] (fun v wr => ∃ k : Nat, k ≤ n ∧ v = .int .i64 k ∧ Ext w wr ∧ NoneB p k) (fun v _ => n - (intOf v).toNat)
  case atStart => exact ⟨0, Nat.zero_le _, rfl, Ext.refl _, NoneB.zero _⟩
  case round =>
    obtain ⟨k, hk, rfl, hx, hN⟩ := hrel
    have HN := Lib.hid hN
    clear hN
    by_cases hlt : k < n
    · obtain rfl := ha (by omega)
      have hc := HP.out k hlt wr hx
      unfold Enters at eg
      cases hq : p k with
      | true =>
        rw [hq] at hc
        go_wp2_with (go_at_fn g; refine hc.mono ?_; rintro e w' ⟨rfl, hx'⟩)
        go_ret
        exact ⟨ret_int (idxI_hit hlt hq HN.out).symm, hx.trans hx'⟩
      | false =>
        rw [hq] at hc
        go_wp2_with (go_at_fn g; refine hc.mono ?_; rintro e w' ⟨rfl, hx'⟩)
        go_roundw
        case rel => exact ⟨k + 1, by omega, by go_num, hx.trans hx', HN.out.succ hq⟩
        case measure => simp [intOf]; omega
    · have HN' := Lib.hid (show NoneB p n from fun i hi => HN.out i (by omega))
      go_wp2
      go_ret
      exact ⟨ret_int (idxI_none HN'.out).symm, hx⟩

/-- slices.ContainsFunc at Proc: is there an i < n with p i? -/
theorem has_Proc (w : World) (a : Option Addr) (b off n cap : Nat) (c0 c1 c2 : Nat → Value) (g : Nat) (lb : Array Value) (p : Nat → Bool)
    (hn : n ≤ 140737488355328) (ha : 0 < n → a = some ⟨b, off, none⟩)
    (l0 : ∀ w', Ext w w' → ∀ i, i < n → w'.cell? ⟨b, off + i * 3, none⟩ = some (c0 i))
    (l1 : ∀ w', Ext w w' → ∀ i, i < n → w'.cell? ⟨b, off + i * 3 + 1, none⟩ = some (c1 i))
    (l2 : ∀ w', Ext w w' → ∀ i, i < n → w'.cell? ⟨b, off + i * 3 + 2, none⟩ = some (c2 i))
    (eg : Enters Try.prog g)
    (hp : ∀ i, i < n → ∀ w', Ext w w' → Calls Try.prog g (#[.agg #[c0 i, c1 i, c2 i]] ++ lb) w' fun e w'' => e = .returned (.bool (p i)) ∧ Ext w' w'') :
    Calls Try.prog 83 #[.slice a n cap, .func (.func g) #[] lb] w fun e w' => e = .returned (.bool (anyB p n)) ∧ Ext w w' := by
  have hc := idx_Proc w a b off n cap c0 c1 c2 g lb p hn ha l0 l1 l2 eg hp
  have HI := Lib.hid (idxI_anyB p n)
  clear hp l0 l1 l2 ha eg
  go_enter Try.func83, Try.ntmps83
  go_wp2_with (go_at_call 95; refine hc.mono ?_; rintro e w' ⟨rfl, hx'⟩)
  go_ret
  exact ⟨ret_bool HI.out, hx'⟩

end Go.Proofs.Ytecgigeeolindaa
