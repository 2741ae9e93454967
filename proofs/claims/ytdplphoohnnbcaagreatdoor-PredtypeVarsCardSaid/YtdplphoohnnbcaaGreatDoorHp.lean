/- The bounds of an expression. Plain. Contracts of predtype: abs, product, hull, great, messages. Contracts of predtype: great, hull, messages, leaf. The bounds of an expression as the program computes them. Plain. -/
import Derived.Test.YtdplphoohnnbcaaGreatDoorHn
import Derived.Test.YtdplphoohnnbcaaGreatDoorHo
import Derived.Deep.LoopGhost
namespace Go.Proofs.YtdplphoohnnbcaaGreatDoor
open Go.RowKit

def mn (f : Nat → Int) : Nat → Int
  | 0 => f 0
  | n + 1 => min (mn f n) (f (n + 1))
def mx (f : Nat → Int) : Nat → Int
  | 0 => f 0
  | n + 1 => max (mx f n) (f (n + 1))
theorem mn_spec (f : Nat → Int) : ∀ n, (∃ j, j ≤ n ∧ f j = mn f n) ∧ ∀ j, j ≤ n → mn f n ≤ f j
  | 0 => ⟨⟨0, Nat.le_refl _, rfl⟩, fun j hj => by rw [show j = 0 by omega]; exact Int.le_refl _⟩
  | n + 1 => by
    obtain ⟨⟨j, hj, e⟩, h⟩ := mn_spec f n
    show (∃ j, j ≤ n + 1 ∧ f j = min (mn f n) (f (n + 1))) ∧ ∀ j, j ≤ n + 1 → min (mn f n) (f (n + 1)) ≤ f j
    refine ⟨?_, fun i hi => ?_⟩
    · by_cases hc : mn f n ≤ f (n + 1)
      · exact ⟨j, by omega, by rw [Int.min_eq_left hc]; exact e⟩
      · exact ⟨n + 1, by omega, by rw [Int.min_eq_right (by omega)]⟩
    · by_cases e2 : i = n + 1
      · subst e2; omega
      · have := h i (by omega); omega
theorem mx_spec (f : Nat → Int) : ∀ n, (∃ j, j ≤ n ∧ f j = mx f n) ∧ ∀ j, j ≤ n → f j ≤ mx f n
  | 0 => ⟨⟨0, Nat.le_refl _, rfl⟩, fun j hj => by rw [show j = 0 by omega]; exact Int.le_refl _⟩
  | n + 1 => by
    obtain ⟨⟨j, hj, e⟩, h⟩ := mx_spec f n
    show (∃ j, j ≤ n + 1 ∧ f j = max (mx f n) (f (n + 1))) ∧ ∀ j, j ≤ n + 1 → f j ≤ max (mx f n) (f (n + 1))
    refine ⟨?_, fun i hi => ?_⟩
    · by_cases hc : mx f n ≤ f (n + 1)
      · exact ⟨n + 1, by omega, by rw [Int.max_eq_right hc]⟩
      · exact ⟨j, by omega, by rw [Int.max_eq_left (by omega)]; exact e⟩
    · by_cases e2 : i = n + 1
      · subst e2; omega
      · have := h i (by omega); omega
def Tr.low (T : Tr) (p v : Nat) : Int := mn (T.st p v) (T.en p)
def Tr.high (T : Tr) (p v : Nat) : Int := mx (T.st p v) (T.en p)
theorem Tr.Valid.lowHigh {T : Tr} (h : T.Valid) {p v : Nat} (hp : p < T.n) : LowHigh (T.ValOf p v) (T.low p v) (T.high p v) := by
  obtain ⟨⟨j, hj, e⟩, h1⟩ := mn_spec (T.st p v) (T.en p)
  obtain ⟨⟨i, hi, e'⟩, h2⟩ := mx_spec (T.st p v) (T.en p)
  refine ⟨?_, ?_, fun x hx => ?_⟩
  · unfold Tr.low; rw [← e]; exact T.st_of p v j hj
  · unfold Tr.high; rw [← e']; exact T.st_of p v i hi
  · obtain ⟨k, hk, rfl⟩ := h.of_st hp hx
    exact ⟨h1 k hk, h2 k hk⟩
/-- how many messages process p sends to q -/
def Tr.sentTo (T : Tr) (p : Nat) (q : Int) : Nat → Nat
  | 0 => 0
  | i + 1 => Tr.sentTo T p q i + if T.kind p i = 2 ∧ T.peer p i = q then 1 else 0
theorem Tr.sentTo_le (T : Tr) (p : Nat) (q : Int) : ∀ i, T.sentTo p q i ≤ i
  | 0 => Nat.le_refl _
  | i + 1 => by
    have := Tr.sentTo_le T p q i
    show T.sentTo p q i + (if T.kind p i = 2 ∧ T.peer p i = q then 1 else 0) ≤ _
    split <;> omega
def absV (a : Int) : Int := if a < 0 then -a else a
/-- a product, or a number that is too great -/
def prodV (a b : Int) : Int := if a = 0 ∨ b = 0 then 0 else if 1125899906842624 / absV b < absV a then (if (a < 0) = (b < 0) then 1125899906842625 else -1125899906842625) else a * b
theorem absV_mul (a b : Int) : absV (a * b) = absV a * absV b := by
  unfold absV
  by_cases h1 : a < 0 <;> by_cases h2 : b < 0
  · have := Int.mul_pos_of_neg_of_neg h1 h2
    rw [if_pos h1, if_pos h2, if_neg (by omega), Int.neg_mul_neg]
  · by_cases h3 : b = 0
    · subst h3; simp
    · have := Int.mul_neg_of_neg_of_pos h1 (show 0 < b by omega)
      rw [if_pos h1, if_neg h2, if_pos this, Int.neg_mul]
  · by_cases h3 : a = 0
    · subst h3; simp
    · have := Int.mul_neg_of_pos_of_neg (show 0 < a by omega) h2
      rw [if_neg h1, if_pos h2, if_pos this, Int.mul_neg]
  · have := Int.mul_nonneg (show 0 ≤ a by omega) (show 0 ≤ b by omega)
    rw [if_neg h1, if_neg h2, if_neg (by omega)]
theorem prod_small {a b : Int} (hb : b ≠ 0) (h : ¬ 1125899906842624 / absV b < absV a) : -1125899906842624 ≤ a * b ∧ a * b ≤ 1125899906842624 := by
  have hb' : 0 < absV b := by unfold absV; split <;> omega
  have h1 : absV a * absV b ≤ 1125899906842624 := by
    have h2 : absV a ≤ 1125899906842624 / absV b := by omega
    exact Int.le_trans (Int.mul_le_mul_of_nonneg_right h2 (by omega)) (Int.ediv_mul_le 1125899906842624 (by omega))
  rw [← absV_mul] at h1
  unfold absV at h1
  split at h1 <;> omega
theorem prodV_bound (a b : Int) : -1125899906842625 ≤ prodV a b ∧ prodV a b ≤ 1125899906842625 := by
  unfold prodV
  by_cases h0 : a = 0 ∨ b = 0
  · rw [if_pos h0]; decide
  · rw [if_neg h0]
    by_cases h1 : 1125899906842624 / absV b < absV a
    · rw [if_pos h1]; split <;> decide
    · rw [if_neg h1]
      have := prod_small (show b ≠ 0 by omega) h1
      omega
/-- the bounds of a node without parts -/
def Tr.leafI (T : Tr) (kind num proc peer : Int) (name : ByteArray) : Int × Int :=
  if kind = 1 then (num, num) else if kind = 3 then (0, T.en proc.toNat) else if kind = 4 then (0, T.sentTo proc.toNat peer (T.en proc.toNat)) else (T.low proc.toNat (T.varI proc.toNat name).toNat, T.high proc.toNat (T.varI proc.toNat name).toNat)
def combI (k : Int) (x y : Int × Int) : Int × Int :=
  if k = 5 then (-x.2, -x.1) else if k = 6 then (x.1 + y.1, x.2 + y.2) else if k = 7 then (x.1 - y.2, x.2 - y.1) else
    (min (min (prodV x.1 y.1) (prodV x.1 y.2)) (min (prodV x.2 y.1) (prodV x.2 y.2)), max (max (prodV x.1 y.1) (prodV x.1 y.2)) (max (prodV x.2 y.1) (prodV x.2 y.2)))
/-- it is not too great -/
def chkI (x : Int × Int) : Option (Int × Int) := if -1125899906842624 ≤ x.1 ∧ x.2 ≤ 1125899906842624 then some x else none
def Tr.nodeI (T : Tr) (kind num proc peer : Int) (name : ByteArray) (len : Nat) (x y : Option (Int × Int)) : Option (Int × Int) :=
  if len = 0 then chkI (T.leafI kind num proc peer name) else
    match x, (if len = 2 then y else x) with
    | some a, some b => chkI (combI kind a b)
    | _, _ => none
/-- the bounds of an expression; none: it is too great -/
def Tr.ival (T : Tr) : Pr → Option (Int × Int)
  | .nil => T.nodeI 0 0 0 0 ⟨#[]⟩ 0 none none
  | .mk k n p q s _ _ _ _ len kid => T.nodeI k n p q s len (Tr.ival T (kid 0)) (Tr.ival T (kid 1))
theorem Tr.ival_eq (T : Tr) (p : Pr) : T.ival p = T.nodeI p.kind p.num p.proc p.peer p.name p.len (T.ival (p.kid 0)) (T.ival (p.kid 1)) := by cases p <;> rfl
/-- an expression's node -/
def Tr.IntN (T : Tr) (q : Pr) : Prop := q.NodeOk ∧ T.ResN q ∧ q.kind ≤ 8
/-- .. and its bounds are in order -/
theorem Tr.ival_ok {T : Tr} (hV : T.Valid) : ∀ {p : Pr} {x : Int × Int}, p.All T.IntN → T.ival p = some x → -1125899906842624 ≤ x.1 ∧ x.1 ≤ x.2 ∧ x.2 ≤ 1125899906842624 := by
  intro p
  induction p using Pr.ind with
  | h p ih =>
    intro x hp hx
    obtain ⟨hn, hr, h8⟩ := hp.here
    rw [Tr.ival_eq] at hx
    unfold Tr.nodeI at hx
    have hpl : (p.len : Int) = partsI p.kind := hn.2.2.1
    by_cases h0 : p.len = 0
    · rw [if_pos h0] at hx
      unfold chkI at hx
      split at hx
      · rename_i hc
        cases hx
        refine ⟨hc.1, ?_, hc.2⟩
        unfold Tr.leafI
        split
        · exact Int.le_refl _
        · split
          · show (0 : Int) ≤ _; omega
          · split
            · show (0 : Int) ≤ _; omega
            · have hk2 : p.kind = 2 := by
                have h1 := hn.1
                by_cases h5 : p.kind = 5
                · rw [h5] at hpl; have : partsI 5 = 1 := rfl; omega
                · by_cases h6 : 6 ≤ p.kind
                  · rw [partsI_2 (.inl ⟨h6, by omega⟩)] at hpl; omega
                  · omega
              have hp2 := (hr.1 hk2).1
              exact (hV.lowHigh (p := p.proc.toNat) (by have := hp2.1; have := hp2.2; omega)).le
      · cases hx
    · rw [if_neg h0] at hx
      have hlen2 : p.len = 1 ∨ p.len = 2 := by
        have h1 := hn.1
        by_cases h4 : p.kind ≤ 4
        · rw [partsI_0 (.inl ⟨h1, h4⟩)] at hpl; omega
        · by_cases h5 : p.kind = 5
          · rw [h5] at hpl; have : partsI 5 = 1 := rfl; omega
          · rw [partsI_2 (.inl ⟨by omega, by omega⟩)] at hpl; omega
      have hk0 : ∀ a, T.ival (p.kid 0) = some a → -1125899906842624 ≤ a.1 ∧ a.1 ≤ a.2 ∧ a.2 ≤ 1125899906842624 := fun a h => ih 0 (by omega) (hp.kid (by omega)) h
      have key : ∃ a b, T.ival (p.kid 0) = some a ∧ (-1125899906842624 ≤ b.1 ∧ b.1 ≤ b.2 ∧ b.2 ≤ 1125899906842624) ∧ chkI (combI p.kind a b) = some x := by
        cases ha : T.ival (p.kid 0) with
        | none => rw [ha] at hx; simp at hx
        | some a =>
          rw [ha] at hx
          rcases hlen2 with e | e
          · rw [if_neg (by omega)] at hx
            exact ⟨a, a, rfl, hk0 a ha, hx⟩
          · rw [if_pos e] at hx
            cases hb : T.ival (p.kid 1) with
            | none => rw [hb] at hx; simp at hx
            | some b => rw [hb] at hx; exact ⟨a, b, rfl, ih 1 (by omega) (hp.kid (by omega)) hb, hx⟩
      obtain ⟨a, b, ha, hb, hc⟩ := key
      have ha' := hk0 a ha
      unfold chkI at hc
      split at hc
      · rename_i hcc
        cases hc
        refine ⟨hcc.1, ?_, hcc.2⟩
        unfold combI
        split
        · simp only; omega
        · split
          · simp only; omega
          · split
            · simp only; omega
            · simp only; omega
      · cases hc
/-- no expression of a tree is too great -/
def Tr.SmallP (T : Tr) : Pr → Prop
  | .nil => T.ival .nil ≠ none
  | .mk k n p q s a b o c len kid => (k ≤ 8 → T.ival (.mk k n p q s a b o c len kid) ≠ none) ∧ (¬ k ≤ 8 → ∀ i, i < len → Tr.SmallP T (kid i))
theorem Tr.SmallP_eq (T : Tr) (p : Pr) : T.SmallP p ↔ (p.kind ≤ 8 → T.ival p ≠ none) ∧ (¬ p.kind ≤ 8 → ∀ i, i < p.len → T.SmallP (p.kid i)) := by
  cases p
  · exact ⟨fun h => ⟨fun _ => h, fun _ i hi => absurd hi (Nat.not_lt_zero _)⟩, fun h => h.1 (by show (0 : Int) ≤ 8; decide)⟩
  · exact Iff.rfl
/-- the first fault of a tree for a trace -/
def Tr.CheckIs (T : Tr) (p : Pr) (c : Int) : Prop :=
  (¬ (T.Valid ∧ p.Formed) ∧ c = 1) ∨ (T.Valid ∧ p.Formed ∧ ¬ p.All T.ResN ∧ c = 13) ∨ (T.Valid ∧ p.Formed ∧ p.All T.ResN ∧ ¬ p.Typed ∧ c = 14) ∨ (T.Valid ∧ p.Formed ∧ p.All T.ResN ∧ p.Typed ∧ ¬ T.SmallP p ∧ c = 9) ∨
    (T.Valid ∧ p.Formed ∧ p.All T.ResN ∧ p.Typed ∧ T.SmallP p ∧ c = 0)
theorem Tr.CheckIs.uniq {T : Tr} {p : Pr} {c d : Int} (h : T.CheckIs p c) (k : T.CheckIs p d) : c = d := by
  rcases h with ⟨a, rfl⟩ | ⟨v, f, a, rfl⟩ | ⟨v, f, r, a, rfl⟩ | ⟨v, f, r, t, a, rfl⟩ | ⟨v, f, r, t, s, rfl⟩ <;> rcases k with ⟨b, rfl⟩ | ⟨v', f', b, rfl⟩ | ⟨v', f', r', b, rfl⟩ | ⟨v', f', r', t', b, rfl⟩ | ⟨v', f', r', t', s', rfl⟩ <;>
    first | rfl | exact absurd (And.intro v' f') a | exact absurd (And.intro v f) b | exact absurd r' a | exact absurd r b | exact absurd t' a | exact absurd t b | exact absurd s' a | exact absurd s b
/-- a typed tree of integer type is an expression -/
theorem Tr.intTree {T : Tr} : ∀ {p : Pr}, p.All Pr.NodeOk → p.All T.ResN → p.Typed → p.kind ≤ 8 → p.All T.IntN := by
  intro p
  induction p using Pr.ind with
  | h p ih =>
    intro hn hr ht h8
    refine (Pr.All_eq _ p).2 ⟨⟨hn.here, hr.here, h8⟩, fun i hi => ih i hi (hn.kid hi) (hr.kid hi) (ht.kid hi) ?_⟩
    have := ht.here i hi
    unfold resT needT at this
    rw [if_pos (show p.kind ≤ 12 by omega)] at this
    split at this
    · assumption
    · omega
/-- the bounds of an expression, or an error -/
def Tr.BoundIs (T : Tr) (p : Pr) (l h c : Int) : Prop :=
  ∃ d, T.CheckIs p d ∧ ((d ≠ 0 ∧ l = 0 ∧ h = 0 ∧ c = d) ∨ (d = 0 ∧ ¬ p.kind ≤ 8 ∧ l = 0 ∧ h = 0 ∧ c = 14) ∨ (d = 0 ∧ p.kind ≤ 8 ∧ T.ival p = some (l, h) ∧ c = 0))
theorem Tr.BoundIs.uniq {T : Tr} {p : Pr} {l h c l' h' c' : Int} (a : T.BoundIs p l h c) (b : T.BoundIs p l' h' c') : l = l' ∧ h = h' ∧ c = c' := by
  obtain ⟨d, hd, ha⟩ := a
  obtain ⟨d', hd', hb⟩ := b
  obtain rfl := hd.uniq hd'
  rcases ha with ⟨h1, rfl, rfl, rfl⟩ | ⟨h1, h2, rfl, rfl, rfl⟩ | ⟨h1, h2, h3, rfl⟩ <;> rcases hb with ⟨g1, rfl, rfl, rfl⟩ | ⟨g1, g2, rfl, rfl, rfl⟩ | ⟨g1, g2, g3, rfl⟩
  · exact ⟨rfl, rfl, rfl⟩
  · exact absurd g1 h1
  · exact absurd g1 h1
  · exact absurd h1 g1
  · exact ⟨rfl, rfl, rfl⟩
  · exact absurd g2 h2
  · exact absurd h1 g1
  · exact absurd h2 g2
  · rw [h3] at g3; cases g3; exact ⟨rfl, rfl, rfl⟩

end Go.Proofs.YtdplphoohnnbcaaGreatDoor

namespace Go.Proofs.YtdplphoohnnbcaaGreatDoor
open Go.RowKit Go.Shelf

theorem abs_any (a : Int) (w : World) (h1 : -2000000000000000 ≤ a) (h2 : a ≤ 2000000000000000) :
    Calls Tryz.prog 93 #[.int .i64 a] w fun e w' => e = .returned (.int .i64 (absV a)) ∧ w = w' := by
  by_cases h : a < 0
  · have HR := Lib.hid (show absV a = -a from if_pos h)
    have h' : a < -a := by omega
    go_enter Tryz.func93, Tryz.ntmps93
    go_wp2
    go_ret
    refine ⟨ret_int ?_, rfl⟩
    rw [HR.out]
  · have HR := Lib.hid (show absV a = a from if_neg h)
    have h' : ¬ a < -a := by omega
    go_enter Tryz.func93, Tryz.ntmps93
    go_wp2
    go_ret
    refine ⟨ret_int ?_, rfl⟩
    rw [HR.out]
set_option maxRecDepth 100000 in
set_option maxHeartbeats 1000000 in
theorem product_any (a b : Int) (w : World) (h1 : -1125899906842624 ≤ a) (h2 : a ≤ 1125899906842624) (h3 : -1125899906842624 ≤ b) (h4 : b ≤ 1125899906842624) :
    Calls Tryz.prog 57 #[.int .i64 a, .int .i64 b] w fun e w' => e = .returned (.int .i64 (prodV a b)) ∧ w = w' := by
  by_cases ha : a = 0
  · have d1 : (a == 0) = true := by simp [ha]
    have HR := Lib.hid (show prodV a b = 0 from if_pos (.inl ha))
    clear ha
    go_enter Tryz.func57, Tryz.ntmps57
    go_wp2
    go_ret
    exact ⟨ret_int HR.out.symm, rfl⟩
  · have d1 : (a == 0) = false := by simp [ha]
    by_cases hb : b = 0
    · have d2 : (b == 0) = true := by simp [hb]
      have HR := Lib.hid (show prodV a b = 0 from if_pos (.inr hb))
      clear ha hb
      go_enter Tryz.func57, Tryz.ntmps57
      go_wp2
      go_ret
      exact ⟨ret_int HR.out.symm, rfl⟩
    · have d2 : (b == 0) = false := by simp [hb]
      have hA := fun W => abs_any a W (by omega) (by omega)
      have hB := fun W => abs_any b W (by omega) (by omega)
      have hr : prodV a b = if 1125899906842624 / absV b < absV a then (if (a < 0) = (b < 0) then 1125899906842625 else -1125899906842625) else a * b := if_neg (by omega)
      have hbp : 1 ≤ absV b := by unfold absV; split <;> omega
      have hs := prod_small (a := a) hb
      obtain ⟨p, hp⟩ : ∃ p, p = absV a := ⟨_, rfl⟩
      obtain ⟨q, hq⟩ : ∃ q, q = absV b := ⟨_, rfl⟩
      rw [← hp] at hA hr hs
      rw [← hq] at hB hr hs hbp
      have HAA := Lib.hid hA
      have HAB := Lib.hid hB
      clear hA hB hp hq ha hb
      by_cases hc : 1125899906842624 / q < p
      · rw [if_pos hc] at hr
        have hc1 : (1125899906842624 : Int) / q < p := hc
        have d3 : decide ((1125899906842624 : Int) / q < p) = true := decide_eq_true hc
        clear hs hc
        by_cases n1 : a < 0
        · have e1 : decide (a < 0) = true := decide_eq_true n1
          by_cases n2 : b < 0
          · have e2 : decide (b < 0) = true := decide_eq_true n2
            rw [if_pos (by simp [n1, n2])] at hr
            have HR := Lib.hid hr
            clear hr n1 n2
            go_enter Tryz.func57, Tryz.ntmps57
            go_wp2_with (first | (go_at_call 93; refine (HAA.out _).mono ?_; rintro e w' ⟨rfl, rfl⟩) | (go_at_call 93; refine (HAB.out _).mono ?_; rintro e w' ⟨rfl, rfl⟩))
            go_ret
            exact ⟨ret_int HR.out.symm, rfl⟩
          · have e2 : decide (b < 0) = false := decide_eq_false n2
            rw [if_neg (by simp [n1, n2])] at hr
            have HR := Lib.hid hr
            clear hr n1 n2
            go_enter Tryz.func57, Tryz.ntmps57
            go_wp2_with (first | (go_at_call 93; refine (HAA.out _).mono ?_; rintro e w' ⟨rfl, rfl⟩) | (go_at_call 93; refine (HAB.out _).mono ?_; rintro e w' ⟨rfl, rfl⟩))
            go_ret
            exact ⟨ret_int HR.out.symm, rfl⟩
        · have e1 : decide (a < 0) = false := decide_eq_false n1
          by_cases n2 : b < 0
          · have e2 : decide (b < 0) = true := decide_eq_true n2
            rw [if_neg (by simp [n1, n2])] at hr
            have HR := Lib.hid hr
            clear hr n1 n2
            go_enter Tryz.func57, Tryz.ntmps57
            go_wp2_with (first | (go_at_call 93; refine (HAA.out _).mono ?_; rintro e w' ⟨rfl, rfl⟩) | (go_at_call 93; refine (HAB.out _).mono ?_; rintro e w' ⟨rfl, rfl⟩))
            go_ret
            exact ⟨ret_int HR.out.symm, rfl⟩
          · have e2 : decide (b < 0) = false := decide_eq_false n2
            rw [if_pos (by simp [n1, n2])] at hr
            have HR := Lib.hid hr
            clear hr n1 n2
            go_enter Tryz.func57, Tryz.ntmps57
            go_wp2_with (first | (go_at_call 93; refine (HAA.out _).mono ?_; rintro e w' ⟨rfl, rfl⟩) | (go_at_call 93; refine (HAB.out _).mono ?_; rintro e w' ⟨rfl, rfl⟩))
            go_ret
            exact ⟨ret_int HR.out.symm, rfl⟩
      · rw [if_neg hc] at hr
        have hc1 : ¬ (1125899906842624 : Int) / q < p := hc
        have d3 : decide ((1125899906842624 : Int) / q < p) = false := decide_eq_false hc
        have hmul := hs hc
        have hw : IntKind.i64.wrap (a * b) = a * b := IntWalk.i64_in _ (by have := hmul.1; have := hmul.2; show _ ∧ _; constructor <;> omega)
        clear hs hc
        have HR := Lib.hid hr
        clear hr
        go_enter Tryz.func57, Tryz.ntmps57
        go_wp2_with (first | (go_at_call 93; refine (HAA.out _).mono ?_; rintro e w' ⟨rfl, rfl⟩) | (go_at_call 93; refine (HAB.out _).mono ?_; rintro e w' ⟨rfl, rfl⟩))
        go_ret
        exact ⟨ret_int HR.out.symm, rfl⟩

end Go.Proofs.YtdplphoohnnbcaaGreatDoor

namespace Go.Proofs.YtdplphoohnnbcaaGreatDoor
open Go.RowKit Go.Shelf

abbrev itv (l h : Int) : Value := .agg #[.int .i64 l, .int .i64 h]
set_option maxRecDepth 100000 in
set_option maxHeartbeats 400000 in
theorem great_any (w : World) (l h : Int) (b : Bool) (hb : b = true ↔ ¬ (-1125899906842624 ≤ l ∧ h ≤ 1125899906842624)) :
    Calls Tryz.prog 55 #[itv l h] w fun e w' => e = .returned (.bool b) ∧ Ext w w' := by
  by_cases h1 : l < -1125899906842624
  · have d1 : decide (l < -1125899906842624) = true := decide_eq_true h1
    have HB := Lib.hid (show b = true from hb.2 (by omega))
    clear hb h1
    go_enter Tryz.func55, Tryz.ntmps55
    go_wp2
    go_ret
    exact ⟨ret_bool HB.out.symm, Ext.alloc _ _⟩
  · have d1 : decide (l < -1125899906842624) = false := decide_eq_false h1
    by_cases h2 : 1125899906842624 < h
    · have d2 : decide (1125899906842624 < h) = true := decide_eq_true h2
      have HB := Lib.hid (show b = true from hb.2 (by omega))
      clear hb h1 h2
      go_enter Tryz.func55, Tryz.ntmps55
      go_wp2
      go_ret
      exact ⟨ret_bool HB.out.symm, Ext.alloc _ _⟩
    · have d2 : decide (1125899906842624 < h) = false := decide_eq_false h2
      have HB := Lib.hid (show b = false from Bool.eq_false_iff.2 fun e => by have := hb.1 e; omega)
      clear hb h1 h2
      go_enter Tryz.func55, Tryz.ntmps55
      go_wp2
      go_ret
      exact ⟨ret_bool HB.out.symm, Ext.alloc _ _⟩
def HullPost (n : Nat) (f : Nat → Int) (w : World) (e : Ending) (w' : World) : Prop :=
  Ext w w' ∧ ∃ lo hi : Int, e = .returned (itv lo hi) ∧ (∃ j, j < n ∧ f j = lo) ∧ (∀ j, j < n → lo ≤ f j) ∧ (∃ j, j < n ∧ f j = hi) ∧ ∀ j, j < n → f j ≤ hi
theorem hull_results (tmps : Array Value) (W : World) (b : Nat) (x y : Value) (t2 : tmps[2]? = some (.pointer (some ⟨b, 0, none⟩))) (c0 : W.cell? ⟨b, 0, none⟩ = some x) (c1 : W.cell? ⟨b, 1, none⟩ = some y) :
    (results Tryz.f56 tmps).run Tryz.prog W = .ok (.agg #[x, y]) W := by
  simp [results, Tryz.results56, go_sem, t2, c0, c1]
theorem setw2 {w : World} {p q : Addr} {v u : Value} {G : World → Prop} (h : ∀ w7, w7 = (w.setCell p v).setCell q u → G w7) : G ((w.setCell p v).setCell q u) := h _ rfl
/-- a result of two numbers is laid -/
theorem Hold.set2 {w : World} {b : Nat} {x y : Value} (h : Hold w b #[x, y]) (u v : Value) : Hold ((w.setCell ⟨b, 0, none⟩ u).setCell ⟨b, 1, none⟩ v) b #[u, v] := by
  have := (h.set 0 u).set 1 v
  simpa using this
set_option maxRecDepth 100000 in
set_option maxHeartbeats 1000000 in
theorem hull_any (w : World) (g off n cap : Nat) (f : Nat → Int) (hn : 1 ≤ n) (hn2 : n ≤ 1000000) (hc : ∀ j, j < n → w.cell? ⟨g, off + j, none⟩ = some (.int .i64 (f j))) :
    Calls Tryz.prog 56 #[.slice (some ⟨g, off, none⟩) n cap] w (HullPost n f w) := by
  have hmin := fun W (h : Ext w W) => min_any W g off n cap f hn hn2 (fun j hj => h.cell (hc j hj))
  have hmax := fun W (h : Ext w W) => max_any W g off n cap f hn hn2 (fun j hj => h.cell (hc j hj))
  have HMIN := Lib.hid hmin
  have HMAX := Lib.hid hmax
  clear hmin hmax hc
  go_enter Tryz.func56, Tryz.ntmps56
  go_upto_region 1 with fail
  refine boxed1 (w := w) (G := fun x => Code.wp _ _ _ _ x) ?_
  intro w1 hx1 hs1 ⟨l0, c0, f0, k0⟩
  have hx11 : Ext w1 w1 := Ext.refl _
  have HK := Lib.hid k0
  clear hs1 k0
  go_wp2_with fail
  go_at_call 91
  refine (HMIN.out w1 hx1).mono ?_
  rintro e w2 ⟨rfl, lo, rfl, hlo1, hlo2⟩
  have HLO := Lib.hid (And.intro hlo1 hlo2)
  clear hlo1 hlo2
  go_wp2_with fail
  go_at_call 92
  refine (HMAX.out _ hx1).mono ?_
  rintro e w2 ⟨rfl, hi, rfl, hhi1, hhi2⟩
  have HHI := Lib.hid (And.intro hhi1 hhi2)
  clear hhi1 hhi2
  go_wp2_with fail
  refine setw2 (w := w1) (G := fun x => bodyPost _ _ _ _ _ x) ?_
  intro w3 hw3
  have hk3 : Hold w3 w.heap.size #[.int .i64 lo, .int .i64 hi] := by rw [hw3]; exact Hold.set2 HK.out _ _
  have hx3 : Ext w w3 := by rw [hw3]; exact (hx1.setCell (Nat.le_refl _) _).setCell (Nat.le_refl _) _
  refine bodyPost_ret (hull_results _ _ _ _ _ rfl (hk3.cell0 0) (hk3.cell0 1)) rfl ?_
  exact ⟨hx3, lo, hi, rfl, HLO.out.1, HLO.out.2, HHI.out.1, HHI.out.2⟩

set_option maxRecDepth 100000 in
set_option maxHeartbeats 2000000 in
theorem messages_any (w : World) (T : TM) (hT : T.At w) (hV : T.toTr.Valid) (p : Nat) (hp : p < T.n) (q : Int) :
    Calls Tryz.prog 89 #[T.val, .int .i64 p, .int .i64 q] w (IntPost (T.toTr.sentTo p q (T.en p)) w) := by
  have hn := hT.P.hn
  have hen := hV.en64 hp
  have hp' : (p : Int) < (T.n : Int) := by omega
  have pa := hT.P.pa (by omega)
  have pb := hT.P.pb (by omega)
  obtain ⟨ea, hea⟩ : ∃ a, a = T.ea p := ⟨_, rfl⟩
  have p2 : ∀ w', Ext w w' → w'.cell? ⟨T.b, T.off + p * 3 + 2, none⟩ = some (.slice ea (T.en p) (T.ec p)) := fun w' h => by rw [hea]; exact hT.P.p2 w' h p hp
  have HEA := Lib.hid hea
  have HT := Lib.hid hT
  clear hT hV hea
  go_enter Tryz.func89, Tryz.ntmps89
  go_upto_region 1 with fail
  refine boxed1 (w := w) (G := fun x => Code.wp _ _ _ _ x) ?_
  intro w1 hx1 hs1 ⟨l0, c0, _, _⟩
  have hx11 : Ext w1 w1 := Ext.refl _
  clear hs1
  go_wp2_with fail
  go_loopg [7, 17] (T.en p) (fun gg v7 v17 wr => ∃ i : Nat, i ≤ T.en p ∧ gg = T.en p - i ∧ v17 = .int .i64 i ∧ v7 = .int .i64 (T.toTr.sentTo p q i : Nat) ∧ Ext w1 wr)
  case atStart => exact ⟨0, by omega, rfl, rfl, rfl, hx11⟩
  case round =>
    obtain ⟨i, hi, rfl, rfl, rfl, hxr⟩ := hrel
    have hx0r := hx1.trans hxr
    by_cases hlt : i < T.en p
    · have hlt' : (i : Int) < (T.en p : Int) := by omega
      obtain rfl : ea = some ⟨T.eb p, T.eo p, none⟩ := by rw [HEA.out]; exact HT.out.E.ea p hp (by omega)
      have eb : ∀ w', Ext w w' → T.eb p < w'.heap.size := HT.out.E.eb p hp (by omega)
      have e0 : ∀ w', Ext w w' → w'.cell? ⟨T.eb p, T.eo p + i * 5, none⟩ = some (.int .i64 (T.kind p i)) := fun w' h => HT.out.E.e0 w' h p i hp hlt
      have e1 : ∀ w', Ext w w' → w'.cell? ⟨T.eb p, T.eo p + i * 5 + 1, none⟩ = some (.int .i64 (T.peer p i)) := fun w' h => HT.out.E.e1 w' h p i hp hlt
      have e2 : ∀ w', Ext w w' → w'.cell? ⟨T.eb p, T.eo p + i * 5 + 2, none⟩ = some (.int .i64 (T.msg p i)) := fun w' h => HT.out.E.e2 w' h p i hp hlt
      have e3 : ∀ w', Ext w w' → w'.cell? ⟨T.eb p, T.eo p + i * 5 + 3, none⟩ = some (.int .i64 (T.time p i)) := fun w' h => HT.out.E.e3 w' h p i hp hlt
      have e4 : ∀ w', Ext w w' → w'.cell? ⟨T.eb p, T.eo p + i * 5 + 4, none⟩ = some (.slice (T.aa p i) (T.an p i) (T.ac p i)) := fun w' h => HT.out.E.e4 w' h p i hp hlt
      have hle := T.toTr.sentTo_le p q i
      have HS := Lib.hid (show T.toTr.sentTo p q (i + 1) = T.toTr.sentTo p q i + if T.kind p i = 2 ∧ T.peer p i = q then 1 else 0 from rfl)
      obtain ⟨m, hm⟩ : ∃ m, m = T.toTr.sentTo p q i := ⟨_, rfl⟩
      rw [← hm] at HS hle ⊢
      clear hm
      go_upto_region 5 with fail
      refine boxed1 (w := wr) (G := fun x => Code.wp _ _ _ _ x) ?_
      intro w2 hx2 hs2 ⟨l2, c2, _, _⟩
      have hx22 : Ext w2 w2 := Ext.refl _
      have hx12 := hxr.trans hx2
      clear hs2 e0 e1 e2 e3 e4 eb
      by_cases k1 : T.kind p i = 2
      · have d1 : (T.kind p i == 2) = true := by simp [k1]
        have HK1 := Lib.hid k1
        clear k1
        by_cases k2 : T.peer p i = q
        · have d2 : (T.peer p i == q) = true := by simp [k2]
          have HK2 := Lib.hid k2
          clear k2
          go_wp2_with fail
          go_roundg (T.en p - (i + 1))
          case rel => exact ⟨i + 1, by omega, rfl, by go_num, by rw [HS.out, if_pos ⟨HK1.out, HK2.out⟩]; go_num, hx12⟩
          case measure => omega
        · have d2 : (T.peer p i == q) = false := by simp [k2]
          have HK2 := Lib.hid k2
          clear k2
          go_wp2_with fail
          go_roundg (T.en p - (i + 1))
          case rel => exact ⟨i + 1, by omega, rfl, by go_num, by rw [HS.out, if_neg (fun h => HK2.out h.2)]; rfl, hx12⟩
          case measure => omega
      · have d1 : (T.kind p i == 2) = false := by simp [k1]
        have HK1 := Lib.hid k1
        clear k1
        go_wp2_with fail
        go_roundg (T.en p - (i + 1))
        case rel => exact ⟨i + 1, by omega, rfl, by go_num, by rw [HS.out, if_neg (fun h => HK1.out h.1)]; rfl, hx12⟩
        case measure => omega
    · have hie : i = T.en p := by omega
      subst hie
      go_wp2_with fail
      go_ret
      exact ⟨rfl, hx0r⟩
theorem leaf_results (tmps : Array Value) (W : World) (b : Nat) (x y : Value) (t4 : tmps[4]? = some (.pointer (some ⟨b, 0, none⟩))) (c0 : W.cell? ⟨b, 0, none⟩ = some x) (c1 : W.cell? ⟨b, 1, none⟩ = some y) :
    (results Tryz.f54 tmps).run Tryz.prog W = .ok (.agg #[x, y]) W := by
  simp [results, Tryz.results54, go_sem, t4, c0, c1]
def ItvPost (x : Int × Int) (w : World) (e : Ending) (w' : World) : Prop := e = .returned (itv x.1 x.2) ∧ Ext w w'
theorem Hold.ext' {w w' : World} {b : Nat} {c : Array Value} {t : TypeId} (h : w.heap[b]? = some (.cells c t (0, 0))) (x : Ext w w') : Hold w' b c := Hold.ext ⟨t, h⟩ x
set_option maxRecDepth 100000 in
set_option maxHeartbeats 2000000 in
theorem leaf_any (w : World) (T : TM) (hT : T.At w) (hV : T.toTr.Valid) (kind num proc peer : Int) (name : ByteArray) (v5 : Value) (hk : 1 ≤ kind ∧ kind ≤ 4) (hr : T.toTr.ResP kind proc peer name) :
    Calls Tryz.prog 54 #[T.val, .agg #[.int .i64 kind, .int .i64 num, .int .i64 proc, .int .i64 peer, .string name, v5]] w (ItvPost (T.toTr.leafI kind num proc peer name) w) := by
  have hn := hT.P.hn
  have HT := Lib.hid hT
  have HV := Lib.hid hV
  clear hT hV
  by_cases h1 : kind = 1
  · subst h1
    have HL := Lib.hid (show T.toTr.leafI 1 num proc peer name = (num, num) from rfl)
    clear hr hk
    go_enter Tryz.func54, Tryz.ntmps54
    go_upto_region 1 with fail
    refine boxed3 (w := w) (G := fun x => Code.wp _ _ _ _ x) ?_
    intro w1 hx1 hs1 ⟨l0, c0, _, _⟩ ⟨l1, c1, _, _⟩ ⟨l2, c2, f2, k2⟩
    have hx11 : Ext w1 w1 := Ext.refl _
    have HK := Lib.hid k2
    clear hs1 k2
    have hx2 : Ext w1 (w1.alloc (.cells #[.int .i64 num] 3)) := Ext.alloc _ _
    have hc2 : ∀ j, j < 1 → (w1.alloc (.cells #[.int .i64 num] 3)).cell? ⟨w1.heap.size, 0 + j, none⟩ = some (.int .i64 num) := fun j hj => by
      rw [show j = 0 by omega]; exact (Hold.new w1 #[.int .i64 num] _).cell0 0
    have hH := hull_any (w1.alloc (.cells #[.int .i64 num] 3)) w1.heap.size 0 1 1 (fun _ => num) (by omega) (by omega) hc2
    clear hc2
    go_wp2_with fail
    go_at_call 56
    refine hH.mono ?_
    rintro e w3 ⟨hx3, lo, hi, rfl, ⟨_, _, e1⟩, _, ⟨_, _, e2⟩, _⟩
    have hx13 := hx2.trans hx3
    obtain rfl : num = lo := e1
    obtain rfl : num = hi := e2
    clear hH
    obtain ⟨l3, c3, f3, _⟩ := (Hold.ext' HK.out.choose_spec hx13).box
    go_wp2_with fail
    refine setw2 (w := w3) (G := fun x => bodyPost _ _ _ _ _ x) ?_
    intro w9 hw9
    have hk9 : Hold w9 (w.heap.size + 1 + 1) #[.int .i64 num, .int .i64 num] := by rw [hw9]; exact Hold.set2 (Hold.ext HK.out hx13) _ _
    have hx9 : Ext w w9 := by rw [hw9]; exact ((hx1.trans hx13).setCell (by show w.heap.size ≤ w.heap.size + 1 + 1; omega) _).setCell (by show w.heap.size ≤ w.heap.size + 1 + 1; omega) _
    refine bodyPost_ret (leaf_results _ _ _ _ _ rfl (hk9.cell0 0) (hk9.cell0 1)) rfl ?_
    exact ⟨(by rw [HL.out]; rfl), hx9⟩
  · have d1 : (kind == 1) = false := by simp [h1]
    by_cases h3 : kind = 3
    · subst h3
      obtain ⟨⟨hp0, hp1⟩, _, _⟩ := hr.2.1 rfl
      obtain ⟨p, rfl⟩ : ∃ p : Nat, proc = p := ⟨proc.toNat, by omega⟩
      have hp : p < T.n := by omega
      have hp' : (p : Int) < (T.n : Int) := by omega
      have HL := Lib.hid (show T.toTr.leafI 3 num p peer name = (0, (T.en p : Int)) from rfl)
      have pa := HT.out.P.pa (by omega)
      have pb := HT.out.P.pb (by omega)
      have p2 : ∀ w', Ext w w' → w'.cell? ⟨T.b, T.off + p * 3 + 2, none⟩ = some (.slice (T.ea p) (T.en p) (T.ec p)) := fun w' h => HT.out.P.p2 w' h p hp
      have hen := HT.out.E.he p hp
      clear hr hk h1 d1
      go_enter Tryz.func54, Tryz.ntmps54
      go_upto_region 1 with fail
      refine boxed3 (w := w) (G := fun x => Code.wp _ _ _ _ x) ?_
      intro w1 hx1 hs1 ⟨l0, c0, _, _⟩ ⟨l1, c1, _, _⟩ ⟨l2, c2, f2, k2⟩
      have hx11 : Ext w1 w1 := Ext.refl _
      have HK := Lib.hid k2
      clear hs1 k2
      go_wp2_with fail
      refine setw2 (w := w1) (G := fun x => bodyPost _ _ _ _ _ x) ?_
      intro w9 hw9
      have hk9 : Hold w9 (w.heap.size + 1 + 1) #[.int .i64 0, .int .i64 (T.en p)] := by rw [hw9]; exact Hold.set2 (Hold.ext HK.out hx11) _ _
      have hx9 : Ext w w9 := by rw [hw9]; exact ((hx1.trans hx11).setCell (by show w.heap.size ≤ w.heap.size + 1 + 1; omega) _).setCell (by show w.heap.size ≤ w.heap.size + 1 + 1; omega) _
      refine bodyPost_ret (leaf_results _ _ _ _ _ rfl (hk9.cell0 0) (hk9.cell0 1)) rfl ?_
      exact ⟨(by rw [HL.out]; rfl), hx9⟩
    · have d3 : (kind == 3) = false := by simp [h3]
      by_cases h4 : kind = 4
      · subst h4
        obtain ⟨⟨hp0, hp1⟩, _, _, _⟩ := hr.2.2 rfl
        obtain ⟨p, rfl⟩ : ∃ p : Nat, proc = p := ⟨proc.toNat, by omega⟩
        have hp : p < T.n := by omega
        have HL := Lib.hid (show T.toTr.leafI 4 num p peer name = (0, (T.toTr.sentTo p peer (T.en p) : Int)) from rfl)
        have hM := fun W (h : Ext w W) => messages_any W T (HT.out.ext h) HV.out p hp peer
        have HM := Lib.hid hM
        generalize T.toTr.sentTo p peer (T.en p) = m at HM HL
        clear hr hk h1 h3 d1 d3 hM
        go_enter Tryz.func54, Tryz.ntmps54
        go_upto_region 1 with fail
        refine boxed3 (w := w) (G := fun x => Code.wp _ _ _ _ x) ?_
        intro w1 hx1 hs1 ⟨l0, c0, _, _⟩ ⟨l1, c1, _, _⟩ ⟨l2, c2, f2, k2⟩
        have hx11 : Ext w1 w1 := Ext.refl _
        have HK := Lib.hid k2
        clear hs1 k2
        go_wp2_with fail
        go_at_call 89
        refine (HM.out _ hx1).mono ?_
        rintro e w3 ⟨rfl, hx3⟩
        obtain ⟨l3, c3, f3, _⟩ := (Hold.ext' HK.out.choose_spec hx3).box
        go_wp2_with fail
        refine setw2 (w := w3) (G := fun x => bodyPost _ _ _ _ _ x) ?_
        intro w9 hw9
        have hk9 : Hold w9 (w.heap.size + 1 + 1) #[.int .i64 0, .int .i64 m] := by rw [hw9]; exact Hold.set2 (Hold.ext HK.out hx3) _ _
        have hx9 : Ext w w9 := by rw [hw9]; exact ((hx1.trans hx3).setCell (by show w.heap.size ≤ w.heap.size + 1 + 1; omega) _).setCell (by show w.heap.size ≤ w.heap.size + 1 + 1; omega) _
        refine bodyPost_ret (leaf_results _ _ _ _ _ rfl (hk9.cell0 0) (hk9.cell0 1)) rfl ?_
        exact ⟨(by rw [HL.out]; rfl), hx9⟩
      · have d4 : (kind == 4) = false := by simp [h4]
        have h2 : kind = 2 := by omega
        obtain ⟨⟨hp0, hp1⟩, _, hv⟩ := hr.1 h2
        obtain ⟨p, rfl⟩ : ∃ p : Nat, proc = p := ⟨proc.toNat, by omega⟩
        have hp : p < T.n := by omega
        have HL := Lib.hid (show T.toTr.leafI kind num p peer name = (T.toTr.low p (T.toTr.varI p name).toNat, T.toTr.high p (T.toTr.varI p name).toNat) from by unfold Tr.leafI; rw [if_neg h1, if_neg h3, if_neg h4]; rfl)
        have hR := fun W (h : Ext w W) => (vRange_any W T (HT.out.ext h) p name).mono (R' := fun e w' => Ext W w' ∧ e = .returned (.tuple #[.int .i64 (T.toTr.low p (T.toTr.varI p name).toNat), .int .i64 (T.toTr.high p (T.toTr.varI p name).toNat), .int .i64 0])) fun e w' ⟨hx, l, h, c, he, x, hf, _, hlh⟩ => by
          refine ⟨hx, ?_⟩
          rw [Int.toNat_natCast] at hv
          rcases hf with ⟨hf, _⟩ | ⟨_, hf, _⟩ | ⟨_, _, _, hf, _⟩ | ⟨_, _, _, v, hvl, _, hvi, rfl, rfl⟩
          · exact absurd HV.out hf
          · exact absurd ⟨hp0, hp1⟩ hf
          · rw [Int.toNat_natCast] at hf
            obtain ⟨i, hi, hp⟩ := anyB_iff.1 hv
            rcases idxI_cases (fun v => strEq (T.vname p v) name) (T.vn p) with ⟨_, hno⟩ | ⟨k, _, _, hk⟩
            · have h7 : strEq (T.vname p i) name = false := hno i hi
              have h8 : strEq (T.vname p i) name = true := hp
              rw [h7] at h8; cases h8
            · have hf : idxI (fun v => strEq (T.vname p v) name) (T.vn p) = -1 := hf
              omega
          · have hl := hlh rfl
            rw [Int.toNat_natCast, Int.toNat_natCast] at hl
            rw [Int.toNat_natCast] at hvi
            rw [hvi, Int.toNat_natCast]
            obtain ⟨e1, e2⟩ := hl.uniq (HV.out.lowHigh hp)
            rw [he, e1, e2]
        have HR := Lib.hid hR
        generalize T.toTr.low p (T.toTr.varI p name).toNat = lo at HR HL
        generalize T.toTr.high p (T.toTr.varI p name).toNat = hi at HR HL
        clear hr hk h1 h3 hR h2 h4 hv
        go_enter Tryz.func54, Tryz.ntmps54
        go_upto_region 1 with fail
        refine boxed3 (w := w) (G := fun x => Code.wp _ _ _ _ x) ?_
        intro w1 hx1 hs1 ⟨l0, c0, _, _⟩ ⟨l1, c1, _, _⟩ ⟨l2, c2, f2, k2⟩
        have hx11 : Ext w1 w1 := Ext.refl _
        have HK := Lib.hid k2
        clear hs1 k2
        go_wp2_with fail
        go_at_call 90
        refine (HR.out _ hx1).mono ?_
        rintro e w3 ⟨hx3, rfl⟩
        obtain ⟨l3, c3, f3, _⟩ := (Hold.ext' HK.out.choose_spec hx3).box
        go_wp2_with fail
        refine setw2 (w := w3) (G := fun x => bodyPost _ _ _ _ _ x) ?_
        intro w9 hw9
        have hk9 : Hold w9 (w.heap.size + 1 + 1) #[.int .i64 lo, .int .i64 hi] := by rw [hw9]; exact Hold.set2 (Hold.ext HK.out hx3) _ _
        have hx9 : Ext w w9 := by rw [hw9]; exact ((hx1.trans hx3).setCell (by show w.heap.size ≤ w.heap.size + 1 + 1; omega) _).setCell (by show w.heap.size ≤ w.heap.size + 1 + 1; omega) _
        refine bodyPost_ret (leaf_results _ _ _ _ _ rfl (hk9.cell0 0) (hk9.cell0 1)) rfl ?_
        exact ⟨(by rw [HL.out]; rfl), hx9⟩

end Go.Proofs.YtdplphoohnnbcaaGreatDoor

namespace Go.Proofs.YtdplphoohnnbcaaGreatDoor
open Go.RowKit

def okB (c : Int × Int) : Bool := decide (-1125899906842624 ≤ c.1) && decide (c.2 ≤ 1125899906842624)
def Tr.nodeX (T : Tr) (kind num proc peer : Int) (name : ByteArray) (len : Nat) (x y : (Int × Int) × Bool) : (Int × Int) × Bool :=
  if len = 0 then (T.leafI kind num proc peer name, okB (T.leafI kind num proc peer name)) else
    if x.2 = true ∧ (len = 2 → y.2 = true) then (combI kind x.1 (if len = 2 then y.1 else x.1), okB (combI kind x.1 (if len = 2 then y.1 else x.1))) else ((0, 0), false)
def Tr.bnd (T : Tr) : Pr → (Int × Int) × Bool
  | .nil => T.nodeX 0 0 0 0 ⟨#[]⟩ 0 ((0, 0), false) ((0, 0), false)
  | .mk k n p q s _ _ _ _ len kid => T.nodeX k n p q s len (Tr.bnd T (kid 0)) (Tr.bnd T (kid 1))
theorem Tr.bnd_eq (T : Tr) (p : Pr) : T.bnd p = T.nodeX p.kind p.num p.proc p.peer p.name p.len (T.bnd (p.kid 0)) (T.bnd (p.kid 1)) := by cases p <;> rfl
theorem Tr.ival_bnd (T : Tr) : ∀ p : Pr, T.ival p = if (T.bnd p).2 = true then some (T.bnd p).1 else none := by
  intro p
  induction p using Pr.ind with
  | h p ih =>
    rw [Tr.ival_eq, Tr.bnd_eq]
    have i0 := ih 0
    have i1 := ih 1
    unfold Tr.nodeI Tr.nodeX chkI okB
    by_cases h0 : p.len = 0
    · simp [h0]
    · rw [if_neg h0, if_neg h0, i0 (by omega)]
      by_cases h2 : p.len = 2
      · rw [i1 (by omega)]
        generalize T.bnd (p.kid 0) = x
        generalize T.bnd (p.kid 1) = y
        obtain ⟨x1, x2⟩ := x
        obtain ⟨y1, y2⟩ := y
        cases x2 <;> cases y2 <;> simp [h2]
      · generalize T.bnd (p.kid 0) = x
        obtain ⟨x1, x2⟩ := x
        cases x2 <;> simp [h2]
theorem Tr.bnd_ok {T : Tr} (hV : T.Valid) {p : Pr} (hp : p.All T.IntN) (h : (T.bnd p).2 = true) : -1125899906842624 ≤ (T.bnd p).1.1 ∧ (T.bnd p).1.1 ≤ (T.bnd p).1.2 ∧ (T.bnd p).1.2 ≤ 1125899906842624 := by
  have := T.ival_bnd p
  rw [if_pos h] at this
  exact T.ival_ok hV hp this
theorem okB_iff (c : Int × Int) (b : Bool) (hb : b = !okB c) : b = true ↔ ¬ (-1125899906842624 ≤ c.1 ∧ c.2 ≤ 1125899906842624) := by
  rw [hb]; unfold okB; simp; omega
/-- how many parts an expression's node has -/
theorem Tr.IntN.parts {T : Tr} {q : Pr} (h : T.IntN q) : (q.len = 0 ∧ 1 ≤ q.kind ∧ q.kind ≤ 4) ∨ (q.len = 1 ∧ q.kind = 5) ∨ (q.len = 2 ∧ 6 ≤ q.kind ∧ q.kind ≤ 8) := by
  obtain ⟨hn, _, h8⟩ := h
  have h1 := hn.1
  have hpl : (q.len : Int) = partsI q.kind := hn.2.2.1
  by_cases h4 : q.kind ≤ 4
  · rw [partsI_0 (.inl ⟨h1, h4⟩)] at hpl; left; omega
  · by_cases h5 : q.kind = 5
    · rw [partsI_1 (.inl h5)] at hpl; right; left; omega
    · rw [partsI_2 (.inl ⟨by omega, by omega⟩)] at hpl; right; right; omega

end Go.Proofs.YtdplphoohnnbcaaGreatDoor
