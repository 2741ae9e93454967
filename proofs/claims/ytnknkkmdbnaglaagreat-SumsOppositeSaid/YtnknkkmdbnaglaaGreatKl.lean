/- Contracts: antecederef14.SameInts, SameLists, slices.Equal at EventId. The example of chapter 14: its trace, its stamps, its longest chain, its skipped pairs. Plain. Contracts: antecedelaw14.example and awake. -/
import Derived.Test.YtnknkkmdbnaglaaGreatKk
import Derived.Test.YtnknkkmdbnaglaaGreatKe
namespace Go.Proofs.YtnknkkmdbnaglaaGreat
open Go.RowKit Go.Shelf

/-- a list of numbers lies in memory -/
structure IntAt (w : World) (a : Option Addr) (b off n : Nat) (l : Nat → Int) : Prop where
  hn : n ≤ 140737488355328
  pa : 0 < n → a = some ⟨b, off, none⟩
  pb : 0 < n → ∀ w', Ext w w' → b < w'.heap.size
  p0 : ∀ w', Ext w w' → ∀ k, k < n → w'.cell? ⟨b, off + k, none⟩ = some (.int .i64 (l k))
theorem IntAt.ext {w w' : World} {a : Option Addr} {b off n : Nat} {l : Nat → Int} (h : IntAt w a b off n l) (x : Ext w w') : IntAt w' a b off n l :=
  ⟨h.hn, h.pa, fun h0 w2 y => h.pb h0 w2 (x.trans y), fun w2 y => h.p0 w2 (x.trans y)⟩
theorem MM.At.row {M : MM} {w : World} (h : M.At w) {k : Nat} (hk : k < M.n) : IntAt w (M.ra k) (M.rb k) (M.ro k) (M.rn k) (M.val k) :=
  ⟨h.hr k hk, h.ra k hk, h.rb k hk, fun w' x i hi => h.r0 w' x k i hk hi⟩
/-- two matrices are alike -/
def Mx.Alike (M K : Mx) : Prop := M.n = K.n ∧ ∀ k, k < M.n → M.rn k = K.rn k ∧ ∀ i, i < M.rn k → M.val k i = K.val k i
/-- a list of events lies in memory -/
structure EvAt (w : World) (a : Option Addr) (b n : Nat) (l : Nat → Int × Int) : Prop where
  hn : n ≤ 140737488355328
  pa : 0 < n → a = some ⟨b, 0, none⟩
  pb : 0 < n → ∀ w', Ext w w' → b < w'.heap.size
  p0 : ∀ w', Ext w w' → ∀ k, k < n → w'.cell? ⟨b, k * 2, none⟩ = some (.int .i64 (l k).1)
  p1 : ∀ w', Ext w w' → ∀ k, k < n → w'.cell? ⟨b, k * 2 + 1, none⟩ = some (.int .i64 (l k).2)

end Go.Proofs.YtnknkkmdbnaglaaGreat

namespace Go.Proofs.YtnknkkmdbnaglaaGreat

def exTr : Tr where
  n := 2
  name k := if k = 0 then ⟨#[97]⟩ else ⟨#[98]⟩
  vn _ := 0
  vname _ _ := ⟨#[]⟩
  vinit _ _ := 0
  en k := if k = 0 then 1 else 2
  kind k i := if k = 0 then 2 else if i = 0 then 1 else 3
  peer k _ := if k = 0 then 1 else 0
  msg k i := if k = 0 then 5 else if i = 0 then 0 else 5
  time _ _ := 0
  an _ _ := 0
  avar _ _ _ := 0
  aval _ _ _ := 0
theorem two_cases {k : Nat} (h : k < 2) : k = 0 ∨ k = 1 := by omega
def ex0 : exTr.Id := ⟨(0, 0), by decide, by decide⟩
def ex1 : exTr.Id := ⟨(1, 0), by decide, by decide⟩
def ex2 : exTr.Id := ⟨(1, 1), by decide, by decide⟩
theorem ex_evs : exTr.evs = [ex0, ex1, ex2] := by rfl
theorem ex_ind {P : exTr.Id → Prop} (h0 : P ex0) (h1 : P ex1) (h2 : P ex2) : ∀ x, P x := by
  intro x
  have h := evs_all x
  rw [ex_evs] at h
  simp at h
  rcases h with rfl | rfl | rfl
  · exact h0
  · exact h1
  · exact h2
theorem ex_valid : exTr.Valid := by
  refine ⟨by decide, by decide, fun k hk => ?_, fun k i hk hi => ?_, ?_, ?_⟩
  · rcases two_cases hk with rfl | rfl
    · exact ⟨by decide, by decide, by decide, fun i hi => absurd hi (Nat.not_lt_zero _), by decide⟩
    · exact ⟨by decide, by kernel_rfl, by decide, fun i hi => absurd hi (Nat.not_lt_zero _), by decide⟩
  · have hh := ex_ind (P := fun x => exTr.EvOk x.1.1 x.1.2) ⟨by unfold FormedP; decide, by decide, by decide, by decide, fun j hj => absurd hj (Nat.not_lt_zero _)⟩ ⟨by unfold FormedP; decide, by decide, by decide, by decide, fun j hj => absurd hj (Nat.not_lt_zero _)⟩ ⟨by unfold FormedP; decide, by decide, by decide, by decide, fun j hj => absurd hj (Nat.not_lt_zero _)⟩
    exact hh ⟨(k, i), hk, hi⟩
  · rw [ex_evs]
    intro pre x ⟨t, ht⟩
    match pre, ht with
    | [], ht =>
      simp at ht; obtain ⟨rfl, _⟩ := ht
      exact ⟨fun _ => by decide, fun h => by revert h; decide⟩
    | [a], ht =>
      simp at ht; obtain ⟨rfl, rfl, _⟩ := ht
      exact ⟨fun h => by revert h; decide, fun h => by revert h; decide⟩
    | [a, b], ht =>
      simp at ht; obtain ⟨rfl, rfl, rfl, _⟩ := ht
      exact ⟨fun h => by revert h; decide, fun _ => ⟨by decide, by decide⟩⟩
    | a :: b :: c :: r, ht =>
      have := congrArg List.length ht
      simp at this
  · rintro ⟨x, hp⟩
    have h := path_rank (V := exTr.V) (fun z => z.1 + z.2) ?_ x.2 hp
    · exact absurd h.2 (Nat.lt_irrefl _)
    · intro a b ha hb
      have hh := ex_ind (P := fun x => ∀ b, b ∈ exTr.succ (Ltr.of exTr exTr.evs) x.1 → exTr.V b ∧ x.1.1 + x.1.2 < b.1 + b.2) ?_ ?_ ?_ ⟨a, ha⟩ b hb
      · exact hh
      · intro b hb
        have : exTr.succ (Ltr.of exTr exTr.evs) ex0.1 = [(1, 1)] := by rfl
        rw [this] at hb; simp at hb; subst hb; exact ⟨⟨by decide, by decide⟩, by decide⟩
      · intro b hb
        have : exTr.succ (Ltr.of exTr exTr.evs) ex1.1 = [(1, 1)] := by rfl
        rw [this] at hb; simp at hb; subst hb; exact ⟨⟨by decide, by decide⟩, by decide⟩
      · intro b hb
        have : exTr.succ (Ltr.of exTr exTr.evs) ex2.1 = [] := by rfl
        rw [this] at hb; cases hb
theorem ex_snd : exTr.sndN (1, 1) = (0, 0) := by
  have h : exTr.snd ex2 = ex0 := ex_valid.snd_eq ⟨by decide, by decide, by decide⟩
  have := exTr.sndN_eq ex2
  rw [h] at this; exact this
theorem ex_rows {rows : Nat → List Int} (h : exTr.Stamps rows) : rows 0 = [1] ∧ rows 1 = [1, 2] := by
  have l0 := h.len 0 (by decide)
  have l1 := h.len 1 (by decide)
  have e0 := h.eq 0 0 (by decide) (by decide)
  have e1 := h.eq 1 0 (by decide) (by decide)
  have e2 := h.eq 1 1 (by decide) (by decide)
  rw [ex_snd] at e2
  simp [exTr] at e0 e1 e2 l0 l1
  match h0 : rows 0, l0 with
  | [a], _ =>
    match h1 : rows 1, l1 with
    | [b, c], _ =>
      simp [h0] at e0
      simp [h1] at e1
      simp [h0, h1] at e2
      subst e0 e1
      simp at e2
      subst e2
      exact ⟨rfl, rfl⟩
theorem ex_st {rows : Nat → List Int} (h : exTr.Stamps rows) : stOf rows (0, 0) = 1 ∧ stOf rows (1, 0) = 1 ∧ stOf rows (1, 1) = 2 := by
  obtain ⟨h0, h1⟩ := ex_rows h
  unfold stOf
  simp [h0, h1]
theorem ex_prv {rows : Nat → List Int} (h : exTr.Stamps rows) : exTr.prvN rows (1, 1) 0 = (1, 1) ∧ exTr.prvN rows (1, 1) 1 = (1, 0) := by
  obtain ⟨_, h1, h2⟩ := ex_st h
  refine ⟨rfl, ?_⟩
  show exTr.prv rows (1, 1) = _
  unfold Tr.prv
  rw [if_pos ⟨by decide, by rw [h2]; show stOf rows (1, 0) = _; rw [h1]; rfl⟩]
  rfl
theorem ex_skip {rows : Nat → List Int} (h : exTr.Stamps rows) : exTr.skipN rows = 0 := by
  obtain ⟨h0, h1, h2⟩ := ex_st h
  have n0 : exTr.evN 0 = (0, 0) := rfl
  have n1 : exTr.evN 1 = (1, 0) := rfl
  have n2 : exTr.evN 2 = (1, 1) := rfl
  have b1 : exTr.bef 0 2 := ⟨by rw [n0, n2]; decide, by rw [n0, n2]; exact .step .self (.inr ⟨by decide, ex_snd.symm⟩)⟩
  have b2 : exTr.bef 1 2 := ⟨by rw [n1, n2]; decide, by rw [n1, n2]; exact .step .self (.inl ⟨rfl, rfl⟩)⟩
  have key : ∀ x y, x < 3 → y < 3 → exTr.sk rows x y = 0 := by
    intro x y hx hy
    refine Tr.sk_no fun ⟨ha, hb⟩ => ?_
    have hxs : x = 0 ∨ x = 1 ∨ x = 2 := by omega
    have hys : y = 0 ∨ y = 1 ∨ y = 2 := by omega
    rcases hxs with rfl | rfl | rfl <;> rcases hys with rfl | rfl | rfl <;> first | exact hb b1 | exact hb b2 | (simp only [n0, n1, n2, h0, h1, h2] at ha; omega)
  have hl : exTr.evs.length = 3 := rfl
  unfold Tr.skipN
  rw [hl]
  simp only [tot, key 0 0, key 0 1, key 0 2, key 1 0, key 1 1, key 1 2, key 2 0, key 2 1, key 2 2, Nat.lt_add_one, Nat.reduceLT, Nat.add_zero]
end Go.Proofs.YtnknkkmdbnaglaaGreat

namespace Go.Proofs.YtnknkkmdbnaglaaGreat
open Go.RowKit Go.Shelf

/-- the example in memory: g0, g1: the events of the two processes; gp: the processes -/
def exTM (g0 g1 gp : Nat) : TM :=
  { exTr with
    a := some ⟨gp, 0, none⟩, b := gp, off := 0, cap := 2
    va := fun _ => none, vb := fun _ => 0, vo := fun _ => 0, vc := fun _ => 0
    ea := fun k => if k = 0 then some ⟨g0, 0, none⟩ else some ⟨g1, 0, none⟩, eb := fun k => if k = 0 then g0 else g1, eo := fun _ => 0, ec := fun k => if k = 0 then 1 else 2
    aa := fun _ _ => none, ab := fun _ _ => 0, ao := fun _ _ => 0, ac := fun _ _ => 0 }
theorem okI_lit : okI 0 ∧ okI 1 ∧ okI 2 ∧ okI 3 ∧ okI 5 := by unfold okI; decide
theorem exTM_at {g0 g1 gp : Nat} {w : World}
    (h0 : Hold w g0 #[.int .i64 2, .int .i64 1, .int .i64 5, .int .i64 0, .slice none 0 0])
    (h1 : Hold w g1 #[.int .i64 1, .int .i64 0, .int .i64 0, .int .i64 0, .slice none 0 0, .int .i64 3, .int .i64 0, .int .i64 5, .int .i64 0, .slice none 0 0])
    (hp : Hold w gp #[.string ⟨#[97]⟩, .slice none 0 0, .slice (some ⟨g0, 0, none⟩) 1 1, .string ⟨#[98]⟩, .slice none 0 0, .slice (some ⟨g1, 0, none⟩) 2 2]) : (exTM g0 g1 gp).At w := by
  have b0 := h0.box
  have b1 := h1.box
  have bp := hp.box
  have hen : ∀ k, k < 2 → ∀ i, i < (exTM g0 g1 gp).en k → (k = 0 ∧ i = 0) ∨ (k = 1 ∧ i = 0) ∨ (k = 1 ∧ i = 1) := by
    intro k hk i hi
    rcases two_cases hk with rfl | rfl
    · have : i < 1 := hi
      left; exact ⟨rfl, by omega⟩
    · have : i < 2 := hi
      right; omega
  refine ⟨⟨by show (2 : Nat) ≤ _; decide, by show (2 : Nat) ≤ 2; decide, fun _ => rfl, fun _ => bp.lt, ?_, ?_, ?_⟩, ⟨fun _ _ => by show (0 : Nat) ≤ _; decide, fun _ _ => Nat.le_refl _, fun _ _ h => absurd h (Nat.not_lt_zero _), fun _ _ h => absurd h (Nat.not_lt_zero _), fun _ _ _ _ _ h => absurd h (Nat.not_lt_zero _), fun _ _ _ _ _ h => absurd h (Nat.not_lt_zero _)⟩,
    ⟨?_, ?_, ?_, ?_, ?_, ?_, ?_, ?_, ?_⟩, ⟨fun _ _ _ _ => by show (0 : Nat) ≤ _; decide, fun _ _ _ _ => Nat.le_refl _, fun _ _ _ _ h => absurd h (Nat.not_lt_zero _), fun _ _ _ _ h => absurd h (Nat.not_lt_zero _), fun _ _ _ _ _ _ _ h => absurd h (Nat.not_lt_zero _), fun _ _ _ _ _ _ _ h => absurd h (Nat.not_lt_zero _)⟩, ?_⟩
  · intro w' x k hk
    rcases two_cases hk with rfl | rfl
    · exact bp.cell w' x 0
    · exact bp.cell w' x 3
  · intro w' x k hk
    rcases two_cases hk with rfl | rfl
    · exact bp.cell w' x 1
    · exact bp.cell w' x 4
  · intro w' x k hk
    rcases two_cases hk with rfl | rfl
    · exact bp.cell w' x 2
    · exact bp.cell w' x 5
  · intro k hk
    rcases two_cases hk with rfl | rfl
    · show (1 : Nat) ≤ _; decide
    · show (2 : Nat) ≤ _; decide
  · intro k hk
    rcases two_cases hk with rfl | rfl
    · exact Nat.le_refl _
    · exact Nat.le_refl _
  · intro k hk _
    rcases two_cases hk with rfl | rfl <;> rfl
  · intro k hk _
    rcases two_cases hk with rfl | rfl
    · exact b0.lt
    · exact b1.lt
  · intro w' x k i hk hi
    rcases hen k hk i hi with ⟨rfl, rfl⟩ | ⟨rfl, rfl⟩ | ⟨rfl, rfl⟩
    · exact b0.cell w' x 0
    · exact b1.cell w' x 0
    · exact b1.cell w' x 5
  · intro w' x k i hk hi
    rcases hen k hk i hi with ⟨rfl, rfl⟩ | ⟨rfl, rfl⟩ | ⟨rfl, rfl⟩
    · exact b0.cell w' x 1
    · exact b1.cell w' x 1
    · exact b1.cell w' x 6
  · intro w' x k i hk hi
    rcases hen k hk i hi with ⟨rfl, rfl⟩ | ⟨rfl, rfl⟩ | ⟨rfl, rfl⟩
    · exact b0.cell w' x 2
    · exact b1.cell w' x 2
    · exact b1.cell w' x 7
  · intro w' x k i hk hi
    rcases hen k hk i hi with ⟨rfl, rfl⟩ | ⟨rfl, rfl⟩ | ⟨rfl, rfl⟩
    · exact b0.cell w' x 3
    · exact b1.cell w' x 3
    · exact b1.cell w' x 8
  · intro w' x k i hk hi
    rcases hen k hk i hi with ⟨rfl, rfl⟩ | ⟨rfl, rfl⟩ | ⟨rfl, rfl⟩
    · exact b0.cell w' x 4
    · exact b1.cell w' x 4
    · exact b1.cell w' x 9
  · refine ⟨fun k hk => ?_, fun _ _ _ h => absurd h (Nat.not_lt_zero _), fun _ _ _ h => absurd h (Nat.not_lt_zero _), fun k i hk hi => ?_, fun k i hk hi => ?_, fun k i hk hi => ?_, fun _ _ _ _ => okI_lit.1, fun _ _ _ _ _ h => absurd h (Nat.not_lt_zero _), fun _ _ _ _ _ h => absurd h (Nat.not_lt_zero _)⟩
    · rcases two_cases hk with rfl | rfl
      · show (1 : Nat) ≤ _; decide
      · show (1 : Nat) ≤ _; decide
    · rcases hen k hk i hi with ⟨rfl, rfl⟩ | ⟨rfl, rfl⟩ | ⟨rfl, rfl⟩ <;> first | exact okI_lit.1 | exact okI_lit.2.1 | exact okI_lit.2.2.1 | exact okI_lit.2.2.2.1 | exact okI_lit.2.2.2.2
    · rcases hen k hk i hi with ⟨rfl, rfl⟩ | ⟨rfl, rfl⟩ | ⟨rfl, rfl⟩ <;> first | exact okI_lit.1 | exact okI_lit.2.1 | exact okI_lit.2.2.1 | exact okI_lit.2.2.2.1 | exact okI_lit.2.2.2.2
    · rcases hen k hk i hi with ⟨rfl, rfl⟩ | ⟨rfl, rfl⟩ | ⟨rfl, rfl⟩ <;> first | exact okI_lit.1 | exact okI_lit.2.1 | exact okI_lit.2.2.1 | exact okI_lit.2.2.2.1 | exact okI_lit.2.2.2.2
/-- the literal of the example's stamps -/
def exMM (h0 h1 hp : Nat) : MM :=
  { n := 2, rn := fun k => if k = 0 then 1 else 2, val := fun k i => if k = 0 then 1 else (i : Int) + 1, a := some ⟨hp, 0, none⟩, b := hp, off := 0, cap := 2
    ra := fun k => if k = 0 then some ⟨h0, 0, none⟩ else some ⟨h1, 0, none⟩, rb := fun k => if k = 0 then h0 else h1, ro := fun _ => 0, rc := fun k => if k = 0 then 1 else 2 }
theorem exMM_at {h0 h1 hp : Nat} {w : World} (b0 : Box w h0 #[.int .i64 1]) (b1 : Box w h1 #[.int .i64 1, .int .i64 2]) (bp : Box w hp #[.slice (some ⟨h0, 0, none⟩) 1 1, .slice (some ⟨h1, 0, none⟩) 2 2]) : (exMM h0 h1 hp).At w := by
  have hen : ∀ k, k < 2 → ∀ i, i < (exMM h0 h1 hp).rn k → (k = 0 ∧ i = 0) ∨ (k = 1 ∧ i = 0) ∨ (k = 1 ∧ i = 1) := by
    intro k hk i hi
    rcases two_cases hk with rfl | rfl
    · have : i < 1 := hi
      left; exact ⟨rfl, by omega⟩
    · have : i < 2 := hi
      right; omega
  refine ⟨by show (2 : Nat) ≤ _; decide, fun _ => rfl, fun _ => bp.lt, ?_, ?_, ?_, ?_, ?_⟩
  · intro w' x k hk
    rcases two_cases hk with rfl | rfl
    · exact bp.cell w' x 0
    · exact bp.cell w' x 1
  · intro k hk
    rcases two_cases hk with rfl | rfl
    · show (1 : Nat) ≤ _; decide
    · show (2 : Nat) ≤ _; decide
  · intro k hk _
    rcases two_cases hk with rfl | rfl <;> rfl
  · intro k hk _
    rcases two_cases hk with rfl | rfl
    · exact b0.lt
    · exact b1.lt
  · intro w' x k i hk hi
    rcases hen k hk i hi with ⟨rfl, rfl⟩ | ⟨rfl, rfl⟩ | ⟨rfl, rfl⟩
    · exact b0.cell w' x 0
    · exact b1.cell w' x 0
    · exact b1.cell w' x 1
theorem ex_alike {bS cap h0 h1 hp : Nat} {rows : Nat → List Int} {vs : Nat → Value} (h : exTr.Stamps rows) : (stMM bS 2 cap rows vs).toMx.Alike (exMM h0 h1 hp).toMx := by
  obtain ⟨e0, e1⟩ := ex_rows h
  refine ⟨rfl, fun k hk => ?_⟩
  rcases two_cases hk with rfl | rfl
  · refine ⟨by show (rows 0).length = 1; rw [e0]; rfl, fun i hi => ?_⟩
    have hi' : i < (rows 0).length := hi
    rw [e0] at hi'
    obtain rfl : i = 0 := by simp at hi'; exact hi'
    show (rows 0).getD 0 0 = 1
    rw [e0]; rfl
  · refine ⟨by show (rows 1).length = 2; rw [e1]; rfl, fun i hi => ?_⟩
    have hi' : i < (rows 1).length := hi
    rw [e1] at hi'
    have : i = 0 ∨ i = 1 := by simp at hi'; omega
    rcases this with rfl | rfl
    · show (rows 1).getD 0 0 = _
      rw [e1]; rfl
    · show (rows 1).getD 1 0 = _
      rw [e1]; rfl
theorem exTM_en {g0 g1 gp : Nat} : ∀ k, k < (exTM g0 g1 gp).n → (exTM g0 g1 gp).en k ≤ 1000000 := by
  intro k hk
  rcases two_cases hk with rfl | rfl
  · show (1 : Nat) ≤ _; decide
  · show (2 : Nat) ≤ _; decide
def exEv (k : Nat) : Int × Int := if k = 0 then (1, 1) else (1, 2)
theorem three_boxes {w : World} {c d e : Array Value} {t1 t2 t3 : TypeId} : Box (((w.alloc (.cells c t1)).alloc (.cells d t2)).alloc (.cells e t3)) w.heap.size c ∧ Box (((w.alloc (.cells c t1)).alloc (.cells d t2)).alloc (.cells e t3)) (w.heap.size + 1) d ∧ Box (((w.alloc (.cells c t1)).alloc (.cells d t2)).alloc (.cells e t3)) (w.heap.size + 1 + 1) e :=
  boxed3 (w := w) (G := fun W => Box W w.heap.size c ∧ Box W (w.heap.size + 1) d ∧ Box W (w.heap.size + 1 + 1) e) fun _ _ _ a b c => ⟨a, b, c⟩
theorem EvRow.at {w : World} {g n : Nat} {l : Nat → Int × Int} (h : EvRow w g n l) (hl : g < w.heap.size) (hn : n ≤ 1000) : EvAt w (some ⟨g, 0, none⟩) g n l :=
  ⟨by omega, fun _ => rfl, fun _ w' x => Nat.lt_of_lt_of_le hl x.le, fun w' x k hk => x.cell (h.c0 k hk), fun w' x k hk => x.cell (h.c1 k hk)⟩
theorem EvAt.ext {w w' : World} {a : Option Addr} {b n : Nat} {l : Nat → Int × Int} (h : EvAt w a b n l) (x : Ext w w') : EvAt w' a b n l :=
  ⟨h.hn, h.pa, fun h0 w2 y => h.pb h0 w2 (x.trans y), fun w2 y => h.p0 w2 (x.trans y), fun w2 y => h.p1 w2 (x.trans y)⟩
theorem exEv_at {w : World} {g : Nat} (b : Box w g #[.int .i64 1, .int .i64 1, .int .i64 1, .int .i64 2]) : EvAt w (some ⟨g, 0, none⟩) g 2 exEv := by
  refine ⟨by decide, fun _ => rfl, fun _ => b.lt, fun w' x k hk => ?_, fun w' x k hk => ?_⟩
  · rcases two_cases hk with rfl | rfl
    · exact b.cell w' x 0
    · exact b.cell w' x 2
  · rcases two_cases hk with rfl | rfl
    · exact b.cell w' x 1
    · exact b.cell w' x 3

end Go.Proofs.YtnknkkmdbnaglaaGreat
