/- Contracts: package bits (words, inside, Valid, has, Has, Of). -/
import Derived.Test.YtecgigeeolindaaMem
import Derived.WalkSmall
namespace Go.Proofs.Ytecgigeeolindaa
open Go.RowKit

/-- a set: N, and m words -/
structure BSet where
  N : Int
  m : Nat
  wd : Nat → Nat
/-- where it lies -/
structure SetM extends BSet where
  a : Option Addr
  b : Nat
  off : Nat
  cap : Nat
abbrev SetM.val (S : SetM) : Value := .agg #[.int .i64 S.N, .slice S.a S.m S.cap]
structure SetM.At (S : SetM) (w : World) : Prop where
  hm : S.m ≤ 140737488355328
  pa : 0 < S.m → S.a = some ⟨S.b, S.off, none⟩
  pb : 0 < S.m → ∀ w', Ext w w' → S.b < w'.heap.size
  p0 : ∀ w', Ext w w' → ∀ k, k < S.m → w'.cell? ⟨S.b, S.off + k, none⟩ = some (.int .u64 (S.wd k))
  u : ∀ k, k < S.m → S.wd k < 18446744073709551616
theorem SetM.At.ext {S : SetM} {w w' : World} (h : S.At w) (x : Ext w w') : S.At w' :=
  ⟨h.hm, h.pa, fun h0 w' y => h.pb h0 w' (x.trans y), fun w' y => h.p0 w' (x.trans y), h.u⟩

theorem words_any (n : Int) (w : World) (h0 : 0 ≤ n) (h1 : n ≤ 1000000) :
    Calls Try.prog 79 #[.int .i64 n] w fun e w' => e = .returned (.int .i64 ((n + 63) / 64)) ∧ w = w' := by
  go_enter Try.func79, Try.ntmps79
  go_wp2
  go_ret
  exact ⟨ret_int (by omega), rfl⟩
theorem inside_any (S : SetM) (i : Int) (w : World) :
    Calls Try.prog 68 #[S.val, .int .i64 i] w fun e w' => e = .returned (.bool (decide (0 ≤ i ∧ i < S.N))) ∧ Ext w w' := by
  by_cases h0 : 0 ≤ i
  · by_cases h1 : i < S.N
    · go_enter Try.func68, Try.ntmps68
      go_wp2
      go_ret
      exact ⟨ret_bool (by rw [decide_eq_true ⟨h0, h1⟩]), Ext.alloc _ _⟩
    · go_enter Try.func68, Try.ntmps68
      go_wp2
      go_ret
      exact ⟨ret_bool (by simp; omega), Ext.alloc _ _⟩
  · go_enter Try.func68, Try.ntmps68
    go_wp2
    go_ret
    exact ⟨ret_bool (by simp; intro; omega), Ext.alloc _ _⟩
theorem bit_eq (x k : Nat) (hx : x < 18446744073709551616) : (bits BinOp.and IntKind.u64 ((x : Int) / 2 ^ k) 1 == 1) = x.testBit k := by
  have h1 : ((x : Int) / 2 ^ k) = ((x / 2 ^ k : Nat) : Int) := by simp
  have h2 : x / 2 ^ k ≤ x := Nat.div_le_self _ _
  rw [h1, Nat.testBit_eq_decide_div_mod_eq]
  generalize x / 2 ^ k = q at h2
  rw [and_one_u64 _ (by omega) (by omega)]
  by_cases h : q % 2 = 1
  · have : ((q : Int) % 2) = 1 := by omega
    rw [this, decide_eq_true h]; rfl
  · have : ((q : Int) % 2) = 0 := by omega
    rw [this, decide_eq_false h]; rfl
set_option maxHeartbeats 1000000 in
theorem has_any (S : SetM) (i : Nat) (w : World) (hS : S.At w) (h : i / 64 < S.m) (hi : i < 1000000) :
    Calls Try.prog 69 #[S.val, .int .i64 i] w fun e w' => e = .returned (.bool ((S.wd (i / 64)).testBit (i % 64))) ∧ Ext w w' := by
  have pa := hS.pa (by omega)
  have pb := hS.pb (by omega)
  have p0 := hS.p0
  have hm := hS.hm
  have hu := hS.u _ h
  have h' : ((i / 64 : Nat) : Int) < (S.m : Int) := by omega
  clear hS
  go_enter Try.func69, Try.ntmps69
  go_upto_region 1 with fail
  refine boxed1 (w := w) (G := fun x => Code.wp _ _ _ _ x) ?_
  intro w1 hx1 hs1 ⟨l0, c0, _, _⟩
  have hx11 : Ext w1 w1 := Ext.refl _
  clear hs1
  go_wp2
  go_ret
  exact ⟨ret_bool (bit_eq _ _ hu), hx1⟩
/-- a valid set of numbers below n -/
structure SetM.Good (S : SetM) (n : Nat) : Prop where
  hN : S.N = n
  n5 : n ≤ 512
  hm : S.m = (n + 63) / 64
  top : n % 64 ≠ 0 → S.wd (S.m - 1) < 2 ^ (n % 64)
set_option maxHeartbeats 1000000 in
theorem bvalid_any (S : SetM) (n : Nat) (w : World) (hS : S.At w) (hG : S.Good n) :
    Calls Try.prog 67 #[S.val] w fun e w' => e = .returned (.bool true) ∧ Ext w w' := by
  obtain ⟨hN, n5, hm, top⟩ := hG
  obtain ⟨⟨N, m, wd⟩, a, b, off, cap⟩ := S
  dsimp only at hN hm top
  subst hN hm
  have pa := hS.pa
  have pb := hS.pb
  have p0 := hS.p0
  have hu := hS.u
  dsimp only at pa pb p0 hu
  have hW := fun W => words_any (n : Int) W (by omega) (by omega)
  have e1 : ((n : Int) + 63) / 64 = (((n + 63) / 64 : Nat) : Int) := by omega
  simp only [e1] at hW
  have d1 : decide ((n : Int) < 0) = false := decide_eq_false (by omega)
  have d2 : decide ((512 : Int) < (n : Int)) = false := decide_eq_false (by omega)
  have d2' : decide (512 < n) = false := decide_eq_false (by omega)
  clear hS e1
  go_enter Try.func67, Try.ntmps67
  go_upto_region 1 with fail
  refine boxed1 (w := w) (G := fun x => Code.wp _ _ _ _ x) ?_
  intro w1 hx1 hs1 ⟨l0, c0, _, _⟩
  have hx11 : Ext w1 w1 := Ext.refl _
  clear hs1
  go_quiet ((exact Calls.quiet_of_same ((hW _).mono fun e w' h => ⟨h.1, h.2.symm⟩)))
  clear d1 d2 d2' hW
  by_cases hr : n % 64 = 0
  · have d3 : ((n : Int) % 64 == 0) = true := by simp; omega
    go_wp2_with fail
    go_ret
    exact ⟨rfl, hx1.drewN _⟩
  · have d3 : ((n : Int) % 64 == 0) = false := by simp; omega
    have top := top hr
    have hm : 0 < (n + 63) / 64 := by omega
    have pa := pa hm
    have pb := pb hm
    obtain ⟨x, hx⟩ : ∃ x, x = wd ((n + 63) / 64 - 1) := ⟨_, rfl⟩
    have pc : ∀ w', Ext w w' → w'.cell? ⟨b, off + ((n + 63) / 64 - 1), none⟩ = some (.int .u64 x) := fun w' h => by rw [hx]; exact p0 w' h _ (by omega)
    have hwm := hu ((n + 63) / 64 - 1) (by omega)
    rw [← hx] at hwm top
    have hz : ((x : Int) / 2 ^ (n % 64)) = 0 := Int.ediv_eq_zero_of_lt (by omega) (by exact_mod_cast top)
    clear p0 hu hx
    subst pa
    go_wp2_with fail
    go_ret
    exact ⟨rfl, hx1.drewN _⟩

set_option maxHeartbeats 1000000 in
theorem bhas_any (S : SetM) (n i : Nat) (w : World) (hS : S.At w) (hG : S.Good n) (hi : i < n) :
    Calls Try.prog 50 #[S.val, .int .i64 i] w fun e w' => e = .returned (.bool ((S.wd (i / 64)).testBit (i % 64))) ∧ Ext w w' := by
  have hN := hG.hN
  have hn := hG.n5
  have hV := fun W (hx : Ext w W) => bvalid_any S n W (hS.ext hx) hG
  have hI := fun W => inside_any S i W
  have hH := fun W (hx : Ext w W) => has_any S i W (hS.ext hx) (by rw [hG.hm]; omega) (by omega)
  have e1 : decide (0 ≤ (i : Int) ∧ (i : Int) < S.N) = true := decide_eq_true ⟨by omega, by omega⟩
  simp only [e1] at hI
  clear e1 hS hG hN
  generalize (S.wd (i / 64)).testBit (i % 64) = bb at hH ⊢
  go_enter Try.func50, Try.ntmps50
  go_upto_region 1 with fail
  refine boxed1 (w := w) (G := fun x => Code.wp _ _ _ _ x) ?_
  intro w1 hx1 hs1 ⟨l0, c0, _, _⟩
  have hx11 : Ext w1 w1 := Ext.refl _
  clear hs1
  go_wp2_with (first | (go_at_call 67; refine (hV _ hx1).mono ?_; rintro e w2 ⟨rfl, hx2⟩; have hx12 := hx1.trans hx2) | (go_at_call 68; refine (hI _).mono ?_; rintro e w3 ⟨rfl, hx3⟩; have hx13 := hx12.trans hx3; have hx23 := hx2.trans hx3) | (go_at_call 69; refine (hH _ hx13).mono ?_; rintro e w4 ⟨rfl, hx4⟩; have hx14 := hx13.trans hx4))
  go_ret
  exact ⟨rfl, hx14⟩

end Go.Proofs.Ytecgigeeolindaa
