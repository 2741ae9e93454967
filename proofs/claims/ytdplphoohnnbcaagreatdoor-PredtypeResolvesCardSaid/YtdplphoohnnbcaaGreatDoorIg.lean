/- Contracts: package bits (words, inside, Valid, has, Has, Of). Contract: bits.Of. -/
import Derived.Test.YtdplphoohnnbcaaGreatDoorHa
import Derived.WalkSmall
import Derived.Test.YtdplphoohnnbcaaGreatDoorIb
import Derived.Test.YtdplphoohnnbcaaGreatDoorId
import Derived.Laws.Bits64b
namespace Go.Proofs.YtdplphoohnnbcaaGreatDoor
open Go.RowKit

/-- a set: N, and m words -/
structure BSet where
  N : Int
  m : Nat
  wd : Nat → Nat
/-- where it lies -/
structure SetM extends BSet where
  a : Option Addr
  b : Nat
  off : Nat
  cap : Nat
abbrev SetM.val (S : SetM) : Value := .agg #[.int .i64 S.N, .slice S.a S.m S.cap]
structure SetM.At (S : SetM) (w : World) : Prop where
  hm : S.m ≤ 140737488355328
  pa : 0 < S.m → S.a = some ⟨S.b, S.off, none⟩
  pb : 0 < S.m → ∀ w', Ext w w' → S.b < w'.heap.size
  p0 : ∀ w', Ext w w' → ∀ k, k < S.m → w'.cell? ⟨S.b, S.off + k, none⟩ = some (.int .u64 (S.wd k))
  u : ∀ k, k < S.m → S.wd k < 18446744073709551616
theorem SetM.At.ext {S : SetM} {w w' : World} (h : S.At w) (x : Ext w w') : S.At w' :=
  ⟨h.hm, h.pa, fun h0 w' y => h.pb h0 w' (x.trans y), fun w' y => h.p0 w' (x.trans y), h.u⟩

theorem bit_eq (x k : Nat) (hx : x < 18446744073709551616) : (bits BinOp.and IntKind.u64 ((x : Int) / 2 ^ k) 1 == 1) = x.testBit k := by
  have h1 : ((x : Int) / 2 ^ k) = ((x / 2 ^ k : Nat) : Int) := by simp
  have h2 : x / 2 ^ k ≤ x := Nat.div_le_self _ _
  rw [h1, Nat.testBit_eq_decide_div_mod_eq]
  generalize x / 2 ^ k = q at h2
  rw [and_one_u64 _ (by omega) (by omega)]
  by_cases h : q % 2 = 1
  · have : ((q : Int) % 2) = 1 := by omega
    rw [this, decide_eq_true h]; rfl
  · have : ((q : Int) % 2) = 0 := by omega
    rw [this, decide_eq_false h]; rfl
/-- a valid set of numbers below n -/
structure SetM.Good (S : SetM) (n : Nat) : Prop where
  hN : S.N = n
  n5 : n ≤ 512
  hm : S.m = (n + 63) / 64
  top : n % 64 ≠ 0 → S.wd (S.m - 1) < 2 ^ (n % 64)


end Go.Proofs.YtdplphoohnnbcaaGreatDoor

namespace Go.Proofs.YtdplphoohnnbcaaGreatDoor
open Go.RowKit

theorem boxed1t' {w : World} {c : Array Value} {t : TypeId} {G : World → Prop}
    (h : ∀ w2, Ext w w2 → w2.heap.size = w.heap.size + 1 → Hold w2 w.heap.size c → G w2) : G (w.alloc (.cells c t)) :=
  h _ (Ext.alloc _ _) (by simp) (Hold.new _ _ _)
/-- m words -/
abbrev wordCells (m : Nat) (W : Nat → Nat) : Array Value := ((List.range m).map fun j => Value.int .u64 (W j)).toArray
/-- the words W hold the numbers l 0 .. l (k - 1), below n -/
structure BitsOf (l : Nat → Nat) (k n m : Nat) (W : Nat → Nat) : Prop where
  u : ∀ j, j < m → W j < 18446744073709551616
  b : ∀ i, i / 64 < m → (W (i / 64)).testBit (i % 64) = decide (∃ j, j < k ∧ l j = i)
theorem BitsOf.zero (l : Nat → Nat) (n m : Nat) : BitsOf l 0 n m (fun _ => 0) := ⟨fun _ _ => by omega, fun i _ => by simp⟩
theorem BitsOf.step {l : Nat → Nat} {k n m : Nat} {W : Nat → Nat} (h : BitsOf l k n m W) (hk : l k / 64 < m) :
    BitsOf l (k + 1) n m (fun j => if j = l k / 64 then W j ||| 2 ^ (l k % 64) else W j) := by
  refine ⟨fun j hj => ?_, fun i hi => ?_⟩
  · split
    · exact Nat.or_lt_two_pow (n := 64) (h.u j hj) (Nat.pow_lt_pow_right (by omega) (Nat.mod_lt _ (by omega)))
    · exact h.u j hj
  · have hb := h.b i hi
    by_cases he : i / 64 = l k / 64
    · rw [if_pos he, Nat.testBit_or, hb, Nat.testBit_two_pow]
      by_cases h2 : l k % 64 = i % 64
      · have : l k = i := by omega
        rw [decide_eq_true h2, Bool.or_true]
        exact (decide_eq_true ⟨k, by omega, this⟩).symm
      · have h3 : ¬ l k = i := fun h => h2 (by rw [h])
        simp only [h2, decide_false, Bool.or_false]
        refine decide_eq_decide.2 ⟨fun ⟨j, h1, h4⟩ => ⟨j, by omega, h4⟩, fun ⟨j, h1, h4⟩ => ?_⟩
        by_cases hj : j = k
        · subst hj; exact absurd h4 h3
        · exact ⟨j, by omega, h4⟩
    · rw [if_neg he, hb]
      refine decide_eq_decide.2 ⟨fun ⟨j, h1, h4⟩ => ⟨j, by omega, h4⟩, fun ⟨j, h1, h4⟩ => ?_⟩
      by_cases hj : j = k
      · subst hj; exact absurd (by rw [h4]) he
      · exact ⟨j, by omega, h4⟩
theorem shl_one (x r : Nat) (hr : r = x % 64) (W : World) : (Op.shift BinOp.shl IntKind.u64 1 IntKind.i64 ((x : Int).tmod 64)).run Tryz.prog W = .ok (.int .u64 ((2 ^ r : Nat) : Int)) W := by
  have h1 : (x : Int).tmod 64 = (r : Int) := by rw [hr, Int.tmod_eq_emod_of_nonneg (by omega)]; omega
  rw [h1]
  have h2 : ¬ ((r : Int) < 0) := by omega
  have h3 : min r 64 = r := by omega
  have h4 : (2 : Nat) ^ r < 2 ^ 64 := Nat.pow_lt_pow_right (by omega) (by omega)
  have h5 : IntKind.u64.wrap (1 * (2 : Int) ^ r) = ((2 ^ r : Nat) : Int) := by
    rw [Int.one_mul]
    have : ((2 : Int) ^ r) = ((2 ^ r : Nat) : Int) := by simp
    rw [this]
    generalize 2 ^ r = z at h4
    show (z : Int) % _ = _
    exact Int.emod_eq_of_lt (by omega) (by show (z : Int) < 18446744073709551616; omega)
  unfold Op.shift
  rw [if_neg h2]
  show Result.ok (Value.int .u64 (IntKind.u64.wrap (1 * 2 ^ min (r : Int).toNat 64))) W = _
  rw [Int.toNat_natCast, h3, h5]
theorem infoU64 : (Tryz.prog.info? 148).map (fun i => (i.zero, i.size, i.bytes)) = some (some (.int .u64 0), 1, 8) := by kernel_rfl
/-- m words lie in block g -/
structure WdRow (w : World) (g m : Nat) (W : Nat → Nat) : Prop where
  c : ∀ k, k < m → w.cell? ⟨g, k, none⟩ = some (.int .u64 (W k))
  fr : ∀ o, w.frozen? ⟨g, o, none⟩ = false
  lt : g < w.heap.size
theorem WdRow.ext {w w' : World} {g m : Nat} {W : Nat → Nat} (h : WdRow w g m W) (x : Ext w w') : WdRow w' g m W :=
  ⟨fun k hk => (World.cell?_of_block (w := w) (a := ⟨g, k, none⟩) (x.block g h.lt)).trans (h.c k hk), fun o => (World.frozen?_of_block (w := w) (a := ⟨g, o, none⟩) (x.block g h.lt)).trans (h.fr o), Nat.lt_of_lt_of_le h.lt x.le⟩
theorem WdRow.made {w : World} {base g n : Nat} (h : w.ownsRow base 148 1 (.slice (some ⟨g, 0, none⟩) n n) n (madeCells (Value.int .u64 0).cells (n * 1)).toList) : WdRow w g n (fun _ => 0) := by
  obtain ⟨h1, ⟨hv, _⟩ | ⟨g', cap, cur, hv, hg, hh, hc, hm, hs, ht⟩⟩ := h
  · cases hv
  · simp only [Value.slice.injEq, Option.some.injEq, Addr.mk.injEq] at hv
    obtain ⟨⟨rfl, _⟩, _, rfl⟩ := hv
    have hb := Box.of hh
    have hz : (Value.int .u64 0).cells = #[.int .u64 0] := rfl
    rw [hz, toList_madeCells_one] at ht
    refine ⟨fun k hk => ?_, fun o => hb.frozen w (Ext.refl _) o, hb.lt w (Ext.refl _)⟩
    rw [hb.cell w (Ext.refl _)]
    have : cur[k]? = (List.replicate (n * 1) (Value.int .u64 0))[k]? := by rw [← ht, List.getElem?_take_of_lt (by omega)]; simp
    rw [this, List.getElem?_replicate, if_pos (by omega)]; rfl
theorem WdRow.set {w : World} {g m : Nat} {W : Nat → Nat} (h : WdRow w g m W) (q v : Nat) (hq : q < m) : WdRow (w.setCell ⟨g, q, none⟩ (.int .u64 v)) g m (fun j => if j = q then v else W j) := by
  refine ⟨fun k hk => ?_, fun o => ?_, by rw [World.size_setCell]; exact h.lt⟩
  · by_cases e : k = q
    · subst e
      rw [if_pos rfl]; exact World.cell?_setCell_same _ _ _ (h.c k hk)
    · rw [if_neg e]; refine Eq.trans ?_ (h.c k hk); apply World.cell?_setCell_other; intro h9; simp only [Addr.mk.injEq] at h9; exact e h9.2.1.symm
  · rw [frozen_set]; exact h.fr o
/-- Of's answer -/
def OfPost (n len : Nat) (l : Nat → Nat) (w : World) (e : Ending) (w' : World) : Prop := Ext w w' ∧
  ∃ S : SetM, e = .returned (.tuple #[S.val, .int .i64 0]) ∧ S.At w' ∧ S.Good n ∧ w.heap.size ≤ S.b ∧ ∀ i, i < n → (S.wd (i / 64)).testBit (i % 64) = decide (∃ j, j < len ∧ l j = i)
/-- the words so far, and the boxes -/
structure OfI (l : Nat → Nat) (k n m : Nat) (W : Nat → Nat) (w : World) (g b : Nat) (wr : World) : Prop where
  row : WdRow wr g m W
  bits : BitsOf l k n m W
  h0 : Hold wr w.heap.size #[.int .i64 0, .slice none 0 0]
  h2 : Hold wr b #[.int .i64 n, .slice (some ⟨g, 0, none⟩) m m]
  bl : Ext w wr
theorem OfI.step {l : Nat → Nat} {k n m : Nat} {W : Nat → Nat} {w : World} {g b : Nat} {wr w5 : World} (h : OfI l k n m W w g b wr) (hgb : g < b) (hx : Ext wr w5) {q v : Nat} (hq : q < m) (hv : v = W q ||| 2 ^ (l k % 64)) (hqe : q = l k / 64) (hwg : w.heap.size < g := by omega) :
    OfI l (k + 1) n m (fun j => if j = l k / 64 then W j ||| 2 ^ (l k % 64) else W j) w g b (w5.drew.setCell ⟨g, q, none⟩ (.int .u64 v)) := by
  have hr := (h.row.ext hx).set (w := w5) q v hq
  have e : (fun j => if j = q then v else W j) = (fun j => if j = l k / 64 then W j ||| 2 ^ (l k % 64) else W j) := by
    funext j
    by_cases hj : j = q
    · subst hj; rw [if_pos rfl, if_pos hqe, hv]
    · rw [if_neg hj, if_neg (by omega)]
  rw [e] at hr
  refine ⟨⟨hr.c, hr.fr, hr.lt⟩, h.bits.step (by omega), ?_, ?_, ?_⟩
  · exact ((h.h0.ext hx).drew).other _ _ (by show _ ≠ g; omega)
  · exact ((h.h2.ext hx).drew).other _ _ (by show _ ≠ g; omega)
  · exact ((h.bl.trans hx).drew).setCell (by show _ ≤ g; omega) _
theorem bits_top {l : Nat → Nat} {k n m : Nat} {W : Nat → Nat} (h : BitsOf l k n m W) (hm : m = (n + 63) / 64) (hl : ∀ j, j < k → l j < n) (hn : n % 64 ≠ 0) : W (m - 1) < 2 ^ (n % 64) := by
  refine Nat.lt_pow_two_of_testBit _ fun i hi => ?_
  by_cases h64 : i < 64
  · have e := h.b (64 * (m - 1) + i) (by omega)
    rw [show (64 * (m - 1) + i) / 64 = m - 1 by omega, show (64 * (m - 1) + i) % 64 = i by omega] at e
    rw [e]
    refine decide_eq_false fun ⟨j, hj, he⟩ => ?_
    have := hl j hj; omega
  · exact Nat.testBit_lt_two_pow (Nat.lt_of_lt_of_le (h.u (m - 1) (by omega)) (show 2 ^ 64 ≤ 2 ^ i from Nat.pow_le_pow_right (by omega) (by omega)))
theorem OfI.post {l : Nat → Nat} {k n m : Nat} {W : Nat → Nat} {w : World} {b : Nat} {wr w' : World} (h : OfI l k n m W w (w.heap.size + 1) b wr) (hm : m = (n + 63) / 64) (hn : n ≤ 512) (hl : ∀ j, j < k → l j < n) (ho : Only w.heap.size wr w') :
    OfPost n k l w (.returned (.tuple #[.agg #[.int .i64 n, .slice (some ⟨w.heap.size + 1, 0, none⟩) m m], .int .i64 0])) w' := by
  refine ⟨Below.trans h.bl (ho.below (Nat.le_refl _)), ⟨⟨n, m, W⟩, some ⟨w.heap.size + 1, 0, none⟩, w.heap.size + 1, 0, m⟩, rfl, ?_, ⟨rfl, hn, hm, fun h0 => bits_top h.bits hm hl h0⟩, by show _ ≤ w.heap.size + 1; omega, fun i hi => h.bits.b i (by omega)⟩
  have e : w'.heap[w.heap.size + 1]? = wr.heap[w.heap.size + 1]? := ho.block _ (by omega)
  have hlt : w.heap.size + 1 < w'.heap.size := by rw [ho.size]; exact h.row.lt
  refine ⟨by show m ≤ _; omega, fun _ => rfl, fun _ w2 x => Nat.lt_of_lt_of_le hlt x.le, fun w2 x j hj => ?_, h.bits.u⟩
  rw [Nat.zero_add, World.cell?_of_block (w := w') (a := ⟨w.heap.size + 1, j, none⟩) (x.block _ hlt), World.cell?_of_block (w := wr) (a := ⟨w.heap.size + 1, j, none⟩) e]
  exact h.row.c j hj

end Go.Proofs.YtdplphoohnnbcaaGreatDoor
