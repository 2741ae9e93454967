/- The example of chapter 28: its trace, its trees. Plain. Contract: antecedelaw28.awake. -/
import Derived.Test.YtdplphoohnnbcaaGreatDoorHp
import Derived.Test.YtdplphoohnnbcaaGreatDoorHv
import Derived.Test.YtdplphoohnnbcaaGreatDoorHf
import Derived.Test.YtdplphoohnnbcaaGreatDoorHu
namespace Go.Proofs.YtdplphoohnnbcaaGreatDoor
open Go.RowKit

def ex28 : Tr where
  n := 1
  name _ := ⟨#[97]⟩
  vn _ := 1
  vname _ _ := ⟨#[120]⟩
  vinit _ _ := 0
  en _ := 3
  kind _ _ := 1
  peer _ _ := 0
  msg _ _ := 0
  time _ _ := 0
  an _ i := if i = 0 then 1 else 0
  avar _ _ _ := 0
  aval _ _ _ := -1
def eT0 : ex28.Id := ⟨(0, 0), by decide, by decide⟩
def eT1 : ex28.Id := ⟨(0, 1), by decide, by decide⟩
def eT2 : ex28.Id := ⟨(0, 2), by decide, by decide⟩
theorem eT_evs : ex28.evs = [eT0, eT1, eT2] := by rfl
theorem eT_ind {P : ex28.Id → Prop} (h0 : P eT0) (h1 : P eT1) (h2 : P eT2) : ∀ x, P x := by
  intro x
  have h := evs_all x
  rw [eT_evs] at h
  simp at h
  rcases h with rfl | rfl | rfl
  · exact h0
  · exact h1
  · exact h2
theorem ex28_valid : ex28.Valid := by
  refine ⟨by decide, by decide, fun k hk => ?_, fun k i hk hi => ?_, ?_, ?_⟩
  · obtain rfl : k = 0 := by have : k < 1 := hk; omega
    refine ⟨by decide, by decide, by decide, fun i hi => ?_, by decide⟩
    obtain rfl : i = 0 := by have : i < 1 := hi; omega
    exact ⟨by decide, by decide, by decide⟩
  · have hh := eT_ind (P := fun x => ex28.EvOk x.1.1 x.1.2) ⟨by unfold FormedP; decide, by decide, by decide, by decide, fun j hj => ?_⟩ ⟨by unfold FormedP; decide, by decide, by decide, by decide, fun j hj => absurd hj (Nat.not_lt_zero _)⟩ ⟨by unfold FormedP; decide, by decide, by decide, by decide, fun j hj => absurd hj (Nat.not_lt_zero _)⟩
    · exact hh ⟨(k, i), hk, hi⟩
    · obtain rfl : j = 0 := by have : j < 1 := hj; omega
      exact ⟨by decide, by decide, by decide⟩
  · rw [eT_evs]
    intro pre x ⟨t, ht⟩
    match pre, ht with
    | [], ht =>
      simp at ht; obtain ⟨rfl, _⟩ := ht
      exact ⟨(fun h => by revert h; decide), (fun h => by revert h; decide)⟩
    | [a], ht =>
      simp at ht; obtain ⟨rfl, rfl, _⟩ := ht
      exact ⟨(fun h => by revert h; decide), (fun h => by revert h; decide)⟩
    | [a, b], ht =>
      simp at ht; obtain ⟨rfl, rfl, rfl, _⟩ := ht
      exact ⟨(fun h => by revert h; decide), (fun h => by revert h; decide)⟩
    | a :: b :: c :: r, ht =>
      have := congrArg List.length ht
      simp at this
  · rintro ⟨x, hp⟩
    have h := path_rank (V := ex28.V) (fun z => z.1 + z.2) ?_ x.2 hp
    · exact absurd h.2 (Nat.lt_irrefl _)
    · intro a b ha hb
      have hh := eT_ind (P := fun x => ∀ b, b ∈ ex28.succ (Ltr.of ex28 ex28.evs) x.1 → ex28.V b ∧ x.1.1 + x.1.2 < b.1 + b.2) ?_ ?_ ?_ ⟨a, ha⟩ b hb
      · exact hh
      · intro b hb
        have : ex28.succ (Ltr.of ex28 ex28.evs) eT0.1 = [(0, 1)] := by rfl
        rw [this] at hb; simp at hb; subst hb; exact ⟨⟨by decide, by decide⟩, by decide⟩
      · intro b hb
        have : ex28.succ (Ltr.of ex28 ex28.evs) eT1.1 = [(0, 2)] := by rfl
        rw [this] at hb; simp at hb; subst hb; exact ⟨⟨by decide, by decide⟩, by decide⟩
      · intro b hb
        have : ex28.succ (Ltr.of ex28 ex28.evs) eT2.1 = [] := by rfl
        rw [this] at hb; cases hb
/-- the variable x of the first process; how many of its events are in the cut -/
def pxT : Pr := .mk 2 0 0 0 ⟨#[120]⟩ none 0 0 0 0 fun _ => .nil
def pcT : Pr := .mk 3 0 0 0 ⟨#[]⟩ none 0 0 0 0 fun _ => .nil
def ptT (g : Nat) : Pr := .mk 8 0 0 0 ⟨#[]⟩ (some ⟨g, 0, none⟩) g 0 2 2 fun _ => pxT
def psT (g : Nat) : Pr := .mk 6 0 0 0 ⟨#[]⟩ (some ⟨g, 0, none⟩) g 0 2 2 fun i => if i = 0 then pxT else pcT
theorem all_leaf {P : Pr → Prop} {p : Pr} (h : P p) (hl : p.len = 0) : p.All P := (Pr.All_eq _ _).2 ⟨h, fun i hi => by omega⟩
theorem all_two {P : Pr → Prop} {p : Pr} (h : P p) (hl : p.len = 2) (h0 : (p.kid 0).All P) (h1 : (p.kid 1).All P) : p.All P := (Pr.All_eq _ _).2 ⟨h, fun i hi => by
  have : i = 0 ∨ i = 1 := by omega
  rcases this with rfl | rfl
  · exact h0
  · exact h1⟩
theorem noName : (⟨#[]⟩ : ByteArray).toList = [] := List.length_eq_zero_iff.1 (by rw [toList_size]; rfl)
theorem nodeLeaf {k : Int} {s : ByteArray} (h2 : 2 ≤ k) (h4 : k ≤ 4) : NodeP k 0 0 0 s 0 := ⟨by omega, by omega, by rw [partsI_0 (.inl ⟨by omega, h4⟩)]; rfl, by decide, by decide, fun h => absurd rfl h, .inl ⟨h2, h4⟩⟩
theorem pxT_ok : pxT.NodeOk ∧ ex28.ResN pxT ∧ pxT.TypedN := by
  refine ⟨nodeLeaf (by decide) (by decide), ?_, fun i hi => absurd hi (Nat.not_lt_zero _)⟩
  · exact ⟨fun _ => ⟨⟨by decide, by decide⟩, rfl, anyB_hit (k := 0) (by decide) (by show strEq ⟨#[120]⟩ ⟨#[120]⟩ = true; simp [strEq])⟩, (fun h => by have h : (2 : Int) = 3 := h; omega), (fun h => by have h : (2 : Int) = 4 := h; omega)⟩
theorem pcT_ok : pcT.NodeOk ∧ ex28.ResN pcT ∧ pcT.TypedN := by
  refine ⟨nodeLeaf (by decide) (by decide), ?_, fun i hi => absurd hi (Nat.not_lt_zero _)⟩
  · exact ⟨(fun h => by have h : (3 : Int) = 2 := h; omega), fun _ => ⟨⟨by decide, by decide⟩, rfl, noName⟩, (fun h => by have h : (3 : Int) = 4 := h; omega)⟩
theorem ptT_ok (g : Nat) : (ptT g).NodeOk ∧ ex28.ResN (ptT g) ∧ (ptT g).TypedN := by
  refine ⟨?_, ?_, fun i _ => ?_⟩
  · exact ⟨by show (1 : Int) ≤ 8; decide, by show (8 : Int) ≤ 21; decide, rfl, by show (0 : Int) ≤ 0; decide, by show (0 : Int) ≤ 1125899906842624; decide, fun h => absurd rfl h, .inr ⟨rfl, rfl, noName⟩⟩
  · exact ⟨(fun h => by have h : (8 : Int) = 2 := h; omega), (fun h => by have h : (8 : Int) = 3 := h; omega), (fun h => by have h : (8 : Int) = 4 := h; omega)⟩
  · rfl
theorem psT_ok (g : Nat) : (psT g).NodeOk ∧ ex28.ResN (psT g) ∧ (psT g).TypedN := by
  refine ⟨?_, ?_, fun i _ => ?_⟩
  · exact ⟨by show (1 : Int) ≤ 6; decide, by show (6 : Int) ≤ 21; decide, rfl, by show (0 : Int) ≤ 0; decide, by show (0 : Int) ≤ 1125899906842624; decide, fun h => absurd rfl h, .inr ⟨rfl, rfl, noName⟩⟩
  · exact ⟨(fun h => by have h : (6 : Int) = 2 := h; omega), (fun h => by have h : (6 : Int) = 3 := h; omega), (fun h => by have h : (6 : Int) = 4 := h; omega)⟩
  · show resT (if i = 0 then pxT else pcT).kind = _
    by_cases e : i = 0
    · rw [if_pos e]; rfl
    · rw [if_neg e]; rfl
theorem varI_x : ex28.varI 0 ⟨#[120]⟩ = 0 := idxI_hit (k := 0) (by decide) (by show strEq ⟨#[120]⟩ ⟨#[120]⟩ = true; simp [strEq]) (fun j hj => absurd hj (Nat.not_lt_zero _))
theorem px_ival : ex28.ival pxT = some (-1, 0) := by
  rw [Tr.ival_eq]
  show chkI (ex28.low 0 (ex28.varI 0 ⟨#[120]⟩).toNat, ex28.high 0 (ex28.varI 0 ⟨#[120]⟩).toNat) = _
  rw [varI_x]
  rfl
theorem pt_ival (g : Nat) : ex28.ival (ptT g) = some (0, 1) := by
  rw [Tr.ival_eq]
  show ex28.nodeI 8 0 0 0 ⟨#[]⟩ 2 (ex28.ival pxT) (ex28.ival pxT) = _
  rw [px_ival]
  rfl
theorem ps_ival (g : Nat) : ex28.ival (psT g) = some (-1, 3) := by
  rw [Tr.ival_eq]
  show ex28.nodeI 6 0 0 0 ⟨#[]⟩ 2 (ex28.ival pxT) (ex28.ival pcT) = _
  rw [px_ival]
  rfl
theorem bound_of {p : Pr} {l h : Int} (hc : p.cnt ≤ 200) (hd : p.dep ≤ 20) (ha : p.All fun q => q.NodeOk ∧ ex28.ResN q ∧ q.TypedN) (h8 : p.kind ≤ 8) (hi : ex28.ival p = some (l, h)) : ex28.BoundIs p l h 0 :=
  ⟨0, .inr (.inr (.inr (.inr ⟨ex28_valid, ⟨hc, hd, Pr.All.mono (fun _ h => h.1) ha⟩, Pr.All.mono (fun _ h => h.2.1) ha, Pr.All.mono (fun _ h => h.2.2) ha, (Tr.SmallP_eq _ _).2 ⟨fun _ => by rw [hi]; simp, fun h => absurd h8 h⟩, rfl⟩))), .inr (.inr ⟨rfl, h8, hi, rfl⟩)⟩
theorem px_bound : ex28.BoundIs pxT (-1) 0 0 := bound_of (by decide) (by decide) (all_leaf pxT_ok rfl) (by decide) px_ival
theorem pt_bound (g : Nat) : ex28.BoundIs (ptT g) 0 1 0 := bound_of (by show (3 : Nat) ≤ 200; decide) (by show (2 : Nat) ≤ 20; decide) (all_two (ptT_ok g) rfl (all_leaf pxT_ok rfl) (all_leaf pxT_ok rfl)) (by show (8 : Int) ≤ 8; decide) (pt_ival g)
theorem ps_bound (g : Nat) : ex28.BoundIs (psT g) (-1) 3 0 := bound_of (by show (3 : Nat) ≤ 200; decide) (by show (2 : Nat) ≤ 20; decide) (all_two (psT_ok g) rfl (all_leaf pxT_ok rfl) (all_leaf pcT_ok rfl)) (by show (6 : Int) ≤ 8; decide) (ps_ival g)

end Go.Proofs.YtdplphoohnnbcaaGreatDoor

namespace Go.Proofs.YtdplphoohnnbcaaGreatDoor
open Go.RowKit Go.Shelf

/-- the example in memory: ga: the assignment; ge: the events; gv: the variable; gp: the process -/
def exTM28 (ga ge gv gp : Nat) : TM :=
  { ex28 with
    a := some ⟨gp, 0, none⟩, b := gp, off := 0, cap := 1
    va := fun _ => some ⟨gv, 0, none⟩, vb := fun _ => gv, vo := fun _ => 0, vc := fun _ => 1
    ea := fun _ => some ⟨ge, 0, none⟩, eb := fun _ => ge, eo := fun _ => 0, ec := fun _ => 3
    aa := fun _ i => if i = 0 then some ⟨ga, 0, none⟩ else none, ab := fun _ _ => ga, ao := fun _ _ => 0, ac := fun _ i => if i = 0 then 1 else 0 }
theorem okI_of {n : Int} (h1 : -1000 ≤ n) (h2 : n ≤ 1000) : okI n := by unfold okI; omega
theorem ok0 : okI 0 := okI_of (by decide) (by decide)
theorem ok1 : okI 1 := okI_of (by decide) (by decide)
theorem okm : okI (-1) := okI_of (by decide) (by decide)
theorem lt1 {k : Nat} (h : k < 1) : k = 0 := by omega
theorem lt3 {k : Nat} (h : k < 3) : k = 0 ∨ k = 1 ∨ k = 2 := by omega
theorem exTM28_at {ga ge gv gp : Nat} {w : World}
    (ha : Hold w ga #[.int .i64 0, .int .i64 (-1)])
    (he : Hold w ge #[.int .i64 1, .int .i64 0, .int .i64 0, .int .i64 0, .slice (some ⟨ga, 0, none⟩) 1 1, .int .i64 1, .int .i64 0, .int .i64 0, .int .i64 0, .slice none 0 0, .int .i64 1, .int .i64 0, .int .i64 0, .int .i64 0, .slice none 0 0])
    (hv : Hold w gv #[.string ⟨#[120]⟩, .int .i64 0])
    (hp : Hold w gp #[.string ⟨#[97]⟩, .slice (some ⟨gv, 0, none⟩) 1 1, .slice (some ⟨ge, 0, none⟩) 3 3]) : (exTM28 ga ge gv gp).At w := by
  have ba := ha.box
  have be := he.box
  have bv := hv.box
  have bp := hp.box
  refine ⟨⟨by show (1 : Nat) ≤ _; decide, Nat.le_refl _, fun _ => rfl, fun _ => bp.lt, fun w' x k hk => ?_, fun w' x k hk => ?_, fun w' x k hk => ?_⟩,
    ⟨fun _ _ => by show (1 : Nat) ≤ _; decide, fun _ _ => Nat.le_refl _, fun _ _ _ => rfl, fun _ _ _ => bv.lt, fun w' x k i hk hi => ?_, fun w' x k i hk hi => ?_⟩,
    ⟨fun _ _ => by show (3 : Nat) ≤ _; decide, fun _ _ => Nat.le_refl _, fun _ _ _ => rfl, fun _ _ _ => be.lt, fun w' x k i hk hi => ?_, fun w' x k i hk hi => ?_, fun w' x k i hk hi => ?_, fun w' x k i hk hi => ?_, fun w' x k i hk hi => ?_⟩,
    ⟨fun k i _ _ => ?_, fun k i _ _ => Nat.le_refl _, fun k i _ _ h => ?_, fun k i _ _ _ => ba.lt, fun w' x k i j hk hi hj => ?_, fun w' x k i j hk hi hj => ?_⟩,
    ⟨fun _ _ => by show (1 : Nat) ≤ _; decide, fun _ _ _ _ => by show (1 : Nat) ≤ _; decide, fun _ _ _ _ => (by first | exact ok0 | exact ok1 | exact okm), fun _ _ _ _ => (by first | exact ok0 | exact ok1 | exact okm), fun _ _ _ _ => (by first | exact ok0 | exact ok1 | exact okm), fun _ _ _ _ => (by first | exact ok0 | exact ok1 | exact okm), fun _ _ _ _ => (by first | exact ok0 | exact ok1 | exact okm), fun _ _ _ _ _ _ => (by first | exact ok0 | exact ok1 | exact okm), fun _ _ _ _ _ _ => (by first | exact ok0 | exact ok1 | exact okm)⟩⟩
  · obtain rfl := lt1 hk; exact bp.cell w' x 0
  · obtain rfl := lt1 hk; exact bp.cell w' x 1
  · obtain rfl := lt1 hk; exact bp.cell w' x 2
  · obtain rfl := lt1 hi; exact bv.cell w' x 0
  · obtain rfl := lt1 hi; exact bv.cell w' x 1
  · rcases lt3 hi with rfl | rfl | rfl
    · exact be.cell w' x 0
    · exact be.cell w' x 5
    · exact be.cell w' x 10
  · rcases lt3 hi with rfl | rfl | rfl
    · exact be.cell w' x 1
    · exact be.cell w' x 6
    · exact be.cell w' x 11
  · rcases lt3 hi with rfl | rfl | rfl
    · exact be.cell w' x 2
    · exact be.cell w' x 7
    · exact be.cell w' x 12
  · rcases lt3 hi with rfl | rfl | rfl
    · exact be.cell w' x 3
    · exact be.cell w' x 8
    · exact be.cell w' x 13
  · rcases lt3 hi with rfl | rfl | rfl
    · exact be.cell w' x 4
    · exact be.cell w' x 9
    · exact be.cell w' x 14
  · show (if i = 0 then 1 else 0) ≤ _; split <;> decide
  · have h : 0 < (if i = 0 then 1 else 0) := h
    by_cases e : i = 0
    · subst e; rfl
    · rw [if_neg e] at h; omega
  · have hj : j < (if i = 0 then 1 else 0) := hj
    by_cases e : i = 0
    · subst e; obtain rfl := lt1 hj; exact ba.cell w' x 0
    · rw [if_neg e] at hj; omega
  · have hj : j < (if i = 0 then 1 else 0) := hj
    by_cases e : i = 0
    · subst e; obtain rfl := lt1 hj; exact ba.cell w' x 1
    · rw [if_neg e] at hj; omega
theorem leafNode {k : Int} {s : ByteArray} (w : World) (h1 : -1000 ≤ k) (h2 : k ≤ 1000) (hs : s.size ≤ 100) : (Pr.mk k 0 0 0 s none 0 0 0 0 fun _ => .nil).NodeAt w :=
  ⟨okI_of h1 h2, ok0, ok0, ok0, Nat.le_trans hs (by decide), Nat.zero_le _, Nat.le_refl _, fun h => absurd h (Nat.lt_irrefl _), fun h => absurd h (Nat.lt_irrefl _), fun _ _ _ h => absurd h (Nat.not_lt_zero _), fun _ _ _ h => absurd h (Nat.not_lt_zero _), fun _ _ _ h => absurd h (Nat.not_lt_zero _), fun _ _ _ h => absurd h (Nat.not_lt_zero _), fun _ _ _ h => absurd h (Nat.not_lt_zero _), fun _ _ _ h => absurd h (Nat.not_lt_zero _)⟩
theorem pxT_at (w : World) : pxT.At w := all_leaf (leafNode w (by decide) (by decide) (by decide)) rfl
theorem pcT_at (w : World) : pcT.At w := all_leaf (leafNode w (by decide) (by decide) (by decide)) rfl
theorem lt2 {k : Nat} (h : k < 2) : k = 0 ∨ k = 1 := by omega
theorem ptT_at {g : Nat} {w : World} (h : Hold w g #[.int .i64 2, .int .i64 0, .int .i64 0, .int .i64 0, .string ⟨#[120]⟩, .slice none 0 0, .int .i64 2, .int .i64 0, .int .i64 0, .int .i64 0, .string ⟨#[120]⟩, .slice none 0 0]) : (ptT g).At w := by
  have b := h.box
  refine all_two ⟨okI_of (by show (-1000 : Int) ≤ 8; decide) (by show (8 : Int) ≤ 1000; decide), okI_of (by show (-1000 : Int) ≤ 0; decide) (by show (0 : Int) ≤ 1000; decide), okI_of (by show (-1000 : Int) ≤ 0; decide) (by show (0 : Int) ≤ 1000; decide), okI_of (by show (-1000 : Int) ≤ 0; decide) (by show (0 : Int) ≤ 1000; decide), by show (0 : Nat) ≤ _; decide, by show (2 : Nat) ≤ _; decide, Nat.le_refl _, fun _ => rfl, fun _ => b.lt,
    fun w' x i hi => ?_, fun w' x i hi => ?_, fun w' x i hi => ?_, fun w' x i hi => ?_, fun w' x i hi => ?_, fun w' x i hi => ?_⟩ rfl (pxT_at w) (pxT_at w)
  · rcases lt2 hi with rfl | rfl
    · exact b.cell w' x 0
    · exact b.cell w' x 6
  · rcases lt2 hi with rfl | rfl
    · exact b.cell w' x 1
    · exact b.cell w' x 7
  · rcases lt2 hi with rfl | rfl
    · exact b.cell w' x 2
    · exact b.cell w' x 8
  · rcases lt2 hi with rfl | rfl
    · exact b.cell w' x 3
    · exact b.cell w' x 9
  · rcases lt2 hi with rfl | rfl
    · exact b.cell w' x 4
    · exact b.cell w' x 10
  · rcases lt2 hi with rfl | rfl
    · exact b.cell w' x 5
    · exact b.cell w' x 11
theorem psT_at {g : Nat} {w : World} (h : Hold w g #[.int .i64 2, .int .i64 0, .int .i64 0, .int .i64 0, .string ⟨#[120]⟩, .slice none 0 0, .int .i64 3, .int .i64 0, .int .i64 0, .int .i64 0, .string ⟨#[]⟩, .slice none 0 0]) : (psT g).At w := by
  have b := h.box
  refine all_two ⟨okI_of (by show (-1000 : Int) ≤ 6; decide) (by show (6 : Int) ≤ 1000; decide), okI_of (by show (-1000 : Int) ≤ 0; decide) (by show (0 : Int) ≤ 1000; decide), okI_of (by show (-1000 : Int) ≤ 0; decide) (by show (0 : Int) ≤ 1000; decide), okI_of (by show (-1000 : Int) ≤ 0; decide) (by show (0 : Int) ≤ 1000; decide), by show (0 : Nat) ≤ _; decide, by show (2 : Nat) ≤ _; decide, Nat.le_refl _, fun _ => rfl, fun _ => b.lt,
    fun w' x i hi => ?_, fun w' x i hi => ?_, fun w' x i hi => ?_, fun w' x i hi => ?_, fun w' x i hi => ?_, fun w' x i hi => ?_⟩ rfl (pxT_at w) (pcT_at w)
  · rcases lt2 hi with rfl | rfl
    · exact b.cell w' x 0
    · exact b.cell w' x 6
  · rcases lt2 hi with rfl | rfl
    · exact b.cell w' x 1
    · exact b.cell w' x 7
  · rcases lt2 hi with rfl | rfl
    · exact b.cell w' x 2
    · exact b.cell w' x 8
  · rcases lt2 hi with rfl | rfl
    · exact b.cell w' x 3
    · exact b.cell w' x 9
  · rcases lt2 hi with rfl | rfl
    · exact b.cell w' x 4
    · exact b.cell w' x 10
  · rcases lt2 hi with rfl | rfl
    · exact b.cell w' x 5
    · exact b.cell w' x 11
theorem bound_ex (W : World) (hTab : TabAt W) (ga ge gv gp : Nat) (hT : (exTM28 ga ge gv gp).At W) (p : Pr) (hp : p.At W) (l h : Int) (hb : ex28.BoundIs p l h 0) :
    Calls Tryz.prog 9 #[.agg #[.slice (some ⟨gp, 0, none⟩) 1 1], p.val] W fun e w' => e = .returned (.tuple #[.int .i64 l, .int .i64 h, .int .i64 0]) ∧ Ext W w' :=
  Calls.mono (pBound_any W hTab (exTM28 ga ge gv gp) hT p hp) fun e w' ⟨hx, l', h', c', he, hb'⟩ => by
    obtain ⟨e1, e2, e3⟩ := Tr.BoundIs.uniq (T := ex28) hb' hb
    exact ⟨by rw [he, e1, e2, e3], hx⟩
set_option maxRecDepth 100000 in
set_option maxHeartbeats 2000000 in
theorem awake_any (w : World) (hTab : TabAt w) : Calls Tryz.prog 6 #[] w fun e w' => e = .returned (.bool true) ∧ Ext w w' := by
  have HTab := Lib.hid hTab
  clear hTab
  go_enter Tryz.func6, Tryz.ntmps6
  go_upto_region 4 with fail
  refine boxed6 (w := w) (G := fun x => Code.wp _ _ _ _ x) ?_
  intro w1 hx1 hs1 b0 b1 b2 b3 ⟨l4, c4, _, _⟩ ⟨l5, c5, _, _⟩
  have hx11 : Ext w1 w1 := Ext.refl _
  have HT := Lib.hid (exTM28_at b0.hold b1.hold b2.hold b3.hold)
  clear hs1 b0 b1 b2 b3
  have h1 := bound_ex w1 (HTab.out.ext hx1) _ _ _ _ HT.out pxT (pxT_at w1) (-1) 0 px_bound
  go_wp2_with fail
  go_at_call 9
  refine h1.mono ?_
  rintro e w2 ⟨rfl, hx2⟩
  have hx22 : Ext w2 w2 := Ext.refl _
  clear h1
  have h2 := fun W (h : Ext w1 W) g hg => bound_ex W (HTab.out.ext (hx1.trans h)) _ _ _ _ (HT.out.ext h) (ptT g) (ptT_at hg) 0 1 (pt_bound g)
  go_wp2_with fail
  go_at_call 9
  refine (h2 _ (hx2.alloc' _) w2.heap.size (Hold.new w2 _ _)).mono ?_
  rintro e w3 ⟨rfl, hx3⟩
  have hx13 : Ext w1 w3 := (hx2.alloc' _).trans hx3
  clear h2
  have h3 := fun W (h : Ext w1 W) g hg => bound_ex W (HTab.out.ext (hx1.trans h)) _ _ _ _ (HT.out.ext h) (psT g) (psT_at hg) (-1) 3 (ps_bound g)
  go_wp2_with fail
  go_at_call 9
  refine (h3 _ (hx13.alloc' _) w3.heap.size (Hold.new w3 _ _)).mono ?_
  rintro e w4 ⟨rfl, hx4⟩
  have hx14 : Ext w w4 := hx1.trans ((hx13.alloc' _).trans hx4)
  clear h3
  go_wp2_with fail
  go_ret
  exact ⟨rfl, hx14⟩

end Go.Proofs.YtdplphoohnnbcaaGreatDoor
