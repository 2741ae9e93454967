/- Contract: lamport.Skipped. Contracts: antecederef14.SameInts, SameLists, slices.Equal at EventId. The example of chapter 14: its trace, its stamps, its longest chain, its skipped pairs. Plain. -/
import Derived.Test.YtdplphoohnnbcaaGreatDoorIi
import Derived.Test.YtdplphoohnnbcaaGreatDoorIj
import Derived.Lib.QuietBelow
import Derived.Test.YtdplphoohnnbcaaGreatDoorHf
namespace Go.Proofs.YtdplphoohnnbcaaGreatDoor
open Go.RowKit Go.Shelf

open Classical in
/-- the pair (x, y) is skipped -/
noncomputable def Tr.sk (T : Tr) (rows : Nat → List Int) (x y : Nat) : Nat := if stOf rows (T.evN x) < stOf rows (T.evN y) ∧ ¬ T.bef x y then 1 else 0
/-- how many pairs are skipped -/
noncomputable def Tr.skipN (T : Tr) (rows : Nat → List Int) : Nat := tot (fun x => tot (T.sk rows x) T.evs.length) T.evs.length
theorem Tr.sk_yes {T : Tr} {rows : Nat → List Int} {x y : Nat} (h1 : stOf rows (T.evN x) < stOf rows (T.evN y)) (h2 : ¬ T.bef x y) : T.sk rows x y = 1 := by unfold Tr.sk; rw [if_pos ⟨h1, h2⟩]
theorem Tr.sk_no {T : Tr} {rows : Nat → List Int} {x y : Nat} (h : ¬ (stOf rows (T.evN x) < stOf rows (T.evN y) ∧ ¬ T.bef x y)) : T.sk rows x y = 0 := by unfold Tr.sk; rw [if_neg h]
theorem Tr.sk_le (T : Tr) (rows : Nat → List Int) (x y : Nat) : T.sk rows x y ≤ 1 := by unfold Tr.sk; split <;> omega
theorem Tr.flat_get {T : Tr} {rows : Nat → List Int} {x : Nat} (h : x < T.evs.length) : (T.flat rows T.n 0)[x]? = some (stOf rows (T.evN x)) := by
  have h' : x < (T.evsTo T.n 0).length := h
  unfold Tr.flat
  rw [List.getElem?_map, List.getElem?_eq_getElem h', T.evN_get x h]; rfl
def SkipPost (T : TM) (w : World) (e : Ending) (w' : World) : Prop := Ext w w' ∧
  ((¬ T.toTr.Valid ∧ e = .returned (.tuple #[.int .i64 0, .int .i64 1])) ∨
   (T.toTr.Valid ∧ ∃ rows, T.toTr.Stamps rows ∧ e = .returned (.tuple #[.int .i64 (T.toTr.skipN rows), .int .i64 0])))

end Go.Proofs.YtdplphoohnnbcaaGreatDoor

namespace Go.Proofs.YtdplphoohnnbcaaGreatDoor
open Go.RowKit Go.Shelf

/-- a list of numbers lies in memory -/
structure IntAt (w : World) (a : Option Addr) (b off n : Nat) (l : Nat → Int) : Prop where
  hn : n ≤ 140737488355328
  pa : 0 < n → a = some ⟨b, off, none⟩
  pb : 0 < n → ∀ w', Ext w w' → b < w'.heap.size
  p0 : ∀ w', Ext w w' → ∀ k, k < n → w'.cell? ⟨b, off + k, none⟩ = some (.int .i64 (l k))
theorem IntAt.ext {w w' : World} {a : Option Addr} {b off n : Nat} {l : Nat → Int} (h : IntAt w a b off n l) (x : Ext w w') : IntAt w' a b off n l :=
  ⟨h.hn, h.pa, fun h0 w2 y => h.pb h0 w2 (x.trans y), fun w2 y => h.p0 w2 (x.trans y)⟩
theorem MM.At.row {M : MM} {w : World} (h : M.At w) {k : Nat} (hk : k < M.n) : IntAt w (M.ra k) (M.rb k) (M.ro k) (M.rn k) (M.val k) :=
  ⟨h.hr k hk, h.ra k hk, h.rb k hk, fun w' x i hi => h.r0 w' x k i hk hi⟩
/-- two matrices are alike -/
def Mx.Alike (M K : Mx) : Prop := M.n = K.n ∧ ∀ k, k < M.n → M.rn k = K.rn k ∧ ∀ i, i < M.rn k → M.val k i = K.val k i
/-- a list of events lies in memory -/
structure EvAt (w : World) (a : Option Addr) (b n : Nat) (l : Nat → Int × Int) : Prop where
  hn : n ≤ 140737488355328
  pa : 0 < n → a = some ⟨b, 0, none⟩
  pb : 0 < n → ∀ w', Ext w w' → b < w'.heap.size
  p0 : ∀ w', Ext w w' → ∀ k, k < n → w'.cell? ⟨b, k * 2, none⟩ = some (.int .i64 (l k).1)
  p1 : ∀ w', Ext w w' → ∀ k, k < n → w'.cell? ⟨b, k * 2 + 1, none⟩ = some (.int .i64 (l k).2)

end Go.Proofs.YtdplphoohnnbcaaGreatDoor

namespace Go.Proofs.YtdplphoohnnbcaaGreatDoor

def exTr : Tr where
  n := 2
  name k := if k = 0 then ⟨#[97]⟩ else ⟨#[98]⟩
  vn _ := 0
  vname _ _ := ⟨#[]⟩
  vinit _ _ := 0
  en k := if k = 0 then 1 else 2
  kind k i := if k = 0 then 2 else if i = 0 then 1 else 3
  peer k _ := if k = 0 then 1 else 0
  msg k i := if k = 0 then 5 else if i = 0 then 0 else 5
  time _ _ := 0
  an _ _ := 0
  avar _ _ _ := 0
  aval _ _ _ := 0
theorem two_cases {k : Nat} (h : k < 2) : k = 0 ∨ k = 1 := by omega
def ex0 : exTr.Id := ⟨(0, 0), by decide, by decide⟩
def ex1 : exTr.Id := ⟨(1, 0), by decide, by decide⟩
def ex2 : exTr.Id := ⟨(1, 1), by decide, by decide⟩
theorem ex_evs : exTr.evs = [ex0, ex1, ex2] := by rfl
theorem ex_ind {P : exTr.Id → Prop} (h0 : P ex0) (h1 : P ex1) (h2 : P ex2) : ∀ x, P x := by
  intro x
  have h := evs_all x
  rw [ex_evs] at h
  simp at h
  rcases h with rfl | rfl | rfl
  · exact h0
  · exact h1
  · exact h2
theorem ex_valid : exTr.Valid := by
  refine ⟨by decide, by decide, fun k hk => ?_, fun k i hk hi => ?_, ?_, ?_⟩
  · rcases two_cases hk with rfl | rfl
    · exact ⟨by decide, by decide, by decide, fun i hi => absurd hi (Nat.not_lt_zero _), by decide⟩
    · exact ⟨by decide, by kernel_rfl, by decide, fun i hi => absurd hi (Nat.not_lt_zero _), by decide⟩
  · have hh := ex_ind (P := fun x => exTr.EvOk x.1.1 x.1.2) ⟨by unfold FormedP; decide, by decide, by decide, by decide, fun j hj => absurd hj (Nat.not_lt_zero _)⟩ ⟨by unfold FormedP; decide, by decide, by decide, by decide, fun j hj => absurd hj (Nat.not_lt_zero _)⟩ ⟨by unfold FormedP; decide, by decide, by decide, by decide, fun j hj => absurd hj (Nat.not_lt_zero _)⟩
    exact hh ⟨(k, i), hk, hi⟩
  · rw [ex_evs]
    intro pre x ⟨t, ht⟩
    match pre, ht with
    | [], ht =>
      simp at ht; obtain ⟨rfl, _⟩ := ht
      exact ⟨fun _ => by decide, fun h => by revert h; decide⟩
    | [a], ht =>
      simp at ht; obtain ⟨rfl, rfl, _⟩ := ht
      exact ⟨fun h => by revert h; decide, fun h => by revert h; decide⟩
    | [a, b], ht =>
      simp at ht; obtain ⟨rfl, rfl, rfl, _⟩ := ht
      exact ⟨fun h => by revert h; decide, fun _ => ⟨by decide, by decide⟩⟩
    | a :: b :: c :: r, ht =>
      have := congrArg List.length ht
      simp at this
  · rintro ⟨x, hp⟩
    have h := path_rank (V := exTr.V) (fun z => z.1 + z.2) ?_ x.2 hp
    · exact absurd h.2 (Nat.lt_irrefl _)
    · intro a b ha hb
      have hh := ex_ind (P := fun x => ∀ b, b ∈ exTr.succ (Ltr.of exTr exTr.evs) x.1 → exTr.V b ∧ x.1.1 + x.1.2 < b.1 + b.2) ?_ ?_ ?_ ⟨a, ha⟩ b hb
      · exact hh
      · intro b hb
        have : exTr.succ (Ltr.of exTr exTr.evs) ex0.1 = [(1, 1)] := by rfl
        rw [this] at hb; simp at hb; subst hb; exact ⟨⟨by decide, by decide⟩, by decide⟩
      · intro b hb
        have : exTr.succ (Ltr.of exTr exTr.evs) ex1.1 = [(1, 1)] := by rfl
        rw [this] at hb; simp at hb; subst hb; exact ⟨⟨by decide, by decide⟩, by decide⟩
      · intro b hb
        have : exTr.succ (Ltr.of exTr exTr.evs) ex2.1 = [] := by rfl
        rw [this] at hb; cases hb
theorem ex_snd : exTr.sndN (1, 1) = (0, 0) := by
  have h : exTr.snd ex2 = ex0 := ex_valid.snd_eq ⟨by decide, by decide, by decide⟩
  have := exTr.sndN_eq ex2
  rw [h] at this; exact this
theorem ex_rows {rows : Nat → List Int} (h : exTr.Stamps rows) : rows 0 = [1] ∧ rows 1 = [1, 2] := by
  have l0 := h.len 0 (by decide)
  have l1 := h.len 1 (by decide)
  have e0 := h.eq 0 0 (by decide) (by decide)
  have e1 := h.eq 1 0 (by decide) (by decide)
  have e2 := h.eq 1 1 (by decide) (by decide)
  rw [ex_snd] at e2
  simp [exTr] at e0 e1 e2 l0 l1
  match h0 : rows 0, l0 with
  | [a], _ =>
    match h1 : rows 1, l1 with
    | [b, c], _ =>
      simp [h0] at e0
      simp [h1] at e1
      simp [h0, h1] at e2
      subst e0 e1
      simp at e2
      subst e2
      exact ⟨rfl, rfl⟩
theorem ex_st {rows : Nat → List Int} (h : exTr.Stamps rows) : stOf rows (0, 0) = 1 ∧ stOf rows (1, 0) = 1 ∧ stOf rows (1, 1) = 2 := by
  obtain ⟨h0, h1⟩ := ex_rows h
  unfold stOf
  simp [h0, h1]
theorem ex_prv {rows : Nat → List Int} (h : exTr.Stamps rows) : exTr.prvN rows (1, 1) 0 = (1, 1) ∧ exTr.prvN rows (1, 1) 1 = (1, 0) := by
  obtain ⟨_, h1, h2⟩ := ex_st h
  refine ⟨rfl, ?_⟩
  show exTr.prv rows (1, 1) = _
  unfold Tr.prv
  rw [if_pos ⟨by decide, by rw [h2]; show stOf rows (1, 0) = _; rw [h1]; rfl⟩]
  rfl
theorem ex_skip {rows : Nat → List Int} (h : exTr.Stamps rows) : exTr.skipN rows = 0 := by
  obtain ⟨h0, h1, h2⟩ := ex_st h
  have n0 : exTr.evN 0 = (0, 0) := rfl
  have n1 : exTr.evN 1 = (1, 0) := rfl
  have n2 : exTr.evN 2 = (1, 1) := rfl
  have b1 : exTr.bef 0 2 := ⟨by rw [n0, n2]; decide, by rw [n0, n2]; exact .step .self (.inr ⟨by decide, ex_snd.symm⟩)⟩
  have b2 : exTr.bef 1 2 := ⟨by rw [n1, n2]; decide, by rw [n1, n2]; exact .step .self (.inl ⟨rfl, rfl⟩)⟩
  have key : ∀ x y, x < 3 → y < 3 → exTr.sk rows x y = 0 := by
    intro x y hx hy
    refine Tr.sk_no fun ⟨ha, hb⟩ => ?_
    have hxs : x = 0 ∨ x = 1 ∨ x = 2 := by omega
    have hys : y = 0 ∨ y = 1 ∨ y = 2 := by omega
    rcases hxs with rfl | rfl | rfl <;> rcases hys with rfl | rfl | rfl <;> first | exact hb b1 | exact hb b2 | (simp only [n0, n1, n2, h0, h1, h2] at ha; omega)
  have hl : exTr.evs.length = 3 := rfl
  unfold Tr.skipN
  rw [hl]
  simp only [tot, key 0 0, key 0 1, key 0 2, key 1 0, key 1 1, key 1 2, key 2 0, key 2 1, key 2 2, Nat.lt_add_one, Nat.reduceLT, Nat.add_zero]
end Go.Proofs.YtdplphoohnnbcaaGreatDoor
