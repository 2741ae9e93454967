/- Contract of the law's few: it says no, or the trace has at most 10 processes and 80 events. Contract: lamport.Check. Contract of antecederef14: Latest. Contract of antecederef14: Check; it is the program's condition. antecederef14.Stamps: plain part: numbers are raised until nothing changes. A table of numbers: rows of the call's own, each in a block of its own (as the table of bools of antecederef12.Past). Contract of antecederef14: Stamps. -/
import Derived.Test.YtnknkkmdbnaglaaGreatKc
import Derived.Test.YtnknkkmdbnaglaaGreatKb
import Derived.Test.YtnknkkmdbnaglaaGreatKg
import Derived.Deep.LoopGhost
import Derived.Test.YtnknkkmdbnaglaaGreatKp
import Derived.Test.YtnknkkmdbnaglaaGreatKo
import Derived.Test.YtnknkkmdbnaglaaGreatKh
namespace Go.Proofs.YtnknkkmdbnaglaaGreat
open Go.RowKit Go.Shelf

def FewPost (T : TM) (w : World) (e : Ending) (w' : World) : Prop := Ext w w' ∧ ∃ b : Bool, e = .returned (.bool b) ∧ (b = true → T.n ≤ 10 ∧ tot T.en T.n ≤ 80)
theorem tot_succ (f : Nat → Nat) (n : Nat) : tot f (n + 1) = tot f n + f n := rfl
theorem tot_mono {f : Nat → Nat} {k : Nat} : ∀ {n : Nat}, k ≤ n → tot f k ≤ tot f n
  | 0, h => by rw [show k = 0 by omega]; exact Nat.le_refl _
  | n + 1, h => by
    rcases Nat.lt_or_ge n k with h' | h'
    · rw [show k = n + 1 by omega]; exact Nat.le_refl _
    · have := tot_mono (f := f) h'; rw [tot_succ]; omega
theorem tot_one_le {f : Nat → Nat} {k n : Nat} (h : k < n) : f k ≤ tot f n := by
  have h1 := tot_mono (f := f) (k := k + 1) (n := n) (by omega)
  rw [tot_succ] at h1; omega

end Go.Proofs.YtnknkkmdbnaglaaGreat

namespace Go.Proofs.YtnknkkmdbnaglaaGreat
open Go.RowKit Go.Shelf

/-- the stamp before -/
def Mx.last (M : Mx) (p i : Nat) : Int := if i = 0 then 0 else M.val p (i - 1)
theorem Mx.last_succ (M : Mx) (p i : Nat) : M.last p (i + 1) = M.val p i := by unfold Mx.last; rw [if_neg (by omega)]; rfl
/-- an event's stamp fulfils the clock condition -/
def Tr.CkOk (T : Tr) (M : Mx) (p i : Nat) : Prop := M.last p i < M.val p i ∧ M.val p i ≤ 1125899906842624 ∧ (T.kind p i = 3 → M.val (T.sndN (p, i)).1 (T.sndN (p, i)).2 < M.val p i)
def Tr.CheckP (T : Tr) (M : Mx) : Prop := T.Valid ∧ T.FitsM M ∧ ∀ p i, p < T.n → i < T.en p → T.CkOk M p i

end Go.Proofs.YtnknkkmdbnaglaaGreat

namespace Go.Proofs.YtnknkkmdbnaglaaGreat
open Go.RowKit Go.Shelf

/-- the greatest stamp of the events in a list; at least 0 -/
def Mx.top (M : Mx) (l : List NN) : Int := l.foldl (fun k y => max k (M.val y.1 y.2)) 0
theorem Mx.top_nil (M : Mx) : M.top [] = 0 := rfl
theorem Mx.top_snoc (M : Mx) (l : List NN) (y : NN) : M.top (l ++ [y]) = max (M.top l) (M.val y.1 y.2) := by unfold Mx.top; rw [List.foldl_append]; rfl
/-- the greatest stamp of an event directly before x -/
noncomputable def Tr.latest (T : Tr) (M : Mx) (x : NN) : Int := M.top (T.bk x)

end Go.Proofs.YtnknkkmdbnaglaaGreat

namespace Go.Proofs.YtnknkkmdbnaglaaGreat
open Go.RowKit Go.Shelf

theorem foldl_max_lt {f : NN → Int} {v : Int} : ∀ (l : List NN) (a : Int), l.foldl (fun k y => max k (f y)) a < v ↔ a < v ∧ ∀ y ∈ l, f y < v
  | [], a => by simp
  | x :: l, a => by
    rw [List.foldl_cons, foldl_max_lt l]
    constructor
    · rintro ⟨h1, h2⟩
      refine ⟨by omega, fun y hy => ?_⟩
      rcases List.mem_cons.1 hy with rfl | hy
      · omega
      · exact h2 y hy
    · rintro ⟨h1, h2⟩
      have := h2 x (by simp)
      exact ⟨by omega, fun y hy => h2 y (by simp [hy])⟩
theorem Mx.top_lt {M : Mx} {l : List NN} {v : Int} : M.top l < v ↔ 0 < v ∧ ∀ y ∈ l, M.val y.1 y.2 < v := foldl_max_lt (f := fun y => M.val y.1 y.2) l 0
/-- what the reference asks of an event's stamp -/
def Tr.RCk (T : Tr) (M : Mx) (p i : Nat) : Prop := 1 ≤ M.val p i ∧ M.val p i ≤ 1125899906842624 ∧ T.latest M (p, i) < M.val p i
theorem Tr.rck_iff {T : Tr} {M : Mx} {p i : Nat} : T.RCk M p i ↔ M.val p i ≤ 1125899906842624 ∧ 0 < M.val p i ∧ ∀ y, T.Dir y (p, i) → M.val y.1 y.2 < M.val p i := by
  unfold Tr.RCk Tr.latest
  rw [Mx.top_lt]
  constructor
  · rintro ⟨h1, h2, h3, h4⟩
    exact ⟨h2, h3, fun y hy => h4 y (Tr.mem_bk.2 hy)⟩
  · rintro ⟨h2, h3, h4⟩
    exact ⟨by omega, h2, h3, fun y hy => h4 y (Tr.mem_bk.1 hy)⟩
def Tr.RCheck (T : Tr) (M : Mx) : Prop := T.Valid ∧ T.FitsM M ∧ ∀ p i, p < T.n → i < T.en p → T.RCk M p i
theorem Tr.check_iff {T : Tr} {M : Mx} : T.RCheck M ↔ T.CheckP M := by
  unfold Tr.RCheck Tr.CheckP
  refine and_congr_right fun _ => and_congr_right fun _ => ?_
  constructor
  · intro h p i hp hi
    obtain ⟨h1, h2, h3⟩ := Tr.rck_iff.1 (h p i hp hi)
    refine ⟨?_, h1, fun hk => h3 _ (.inr ⟨hk, rfl⟩)⟩
    unfold Mx.last
    by_cases h0 : i = 0
    · rw [if_pos h0]; exact h2
    · rw [if_neg h0]; exact h3 (p, i - 1) (.inl ⟨rfl, by show i = i - 1 + 1; omega⟩)
  · intro h p i hp hi
    have hpos : ∀ j, j < T.en p → 0 < M.val p j := by
      intro j
      induction j with
      | zero => intro hj; have := (h p 0 hp hj).1; exact this
      | succ j ih => intro hj; have h1 := (h p (j + 1) hp hj).1; rw [Mx.last_succ] at h1; have := ih (by omega); omega
    refine Tr.rck_iff.2 ⟨(h p i hp hi).2.1, hpos i hi, fun y hy => ?_⟩
    rcases hy with ⟨h1, h2⟩ | ⟨h1, h2⟩
    · obtain ⟨yp, yi⟩ := y
      have h1 : p = yp := h1
      have h2 : i = yi + 1 := h2
      subst h1 h2
      have := (h p (yi + 1) hp hi).1
      rw [Mx.last_succ] at this; exact this
    · rw [h2]; exact (h p i hp hi).2.2 h1

end Go.Proofs.YtnknkkmdbnaglaaGreat

namespace Go.Proofs.YtnknkkmdbnaglaaGreat

theorem Mx.top_ge (M : Mx) (l : List NN) : 0 ≤ M.top l ∧ ∀ y ∈ l, M.val y.1 y.2 ≤ M.top l := by
  have h := (Mx.top_lt (M := M) (l := l) (v := M.top l + 1)).1 (by omega)
  exact ⟨by omega, fun y hy => by have := h.2 y hy; omega⟩
theorem Tr.Stamps.dir_lt {T : Tr} {rows : Nat → List Int} (h : T.Stamps rows) {x y : NN} (hx : T.V x) (hd : T.Dir y x) : stOf rows y < stOf rows x := by
  have e := h.eq x.1 x.2 hx.1 hx.2
  have e' : stOf rows x = max (if x.2 = 0 then 0 else (rows x.1).getD (x.2 - 1) 0) (if T.kind x.1 x.2 = 3 then stOf rows (T.sndN x) else 0) + 1 := e
  rcases hd with ⟨h1, h2⟩ | ⟨h1, h2⟩
  · obtain ⟨xp, xi⟩ := x
    obtain ⟨yp, yi⟩ := y
    have h1 : xp = yp := h1
    have h2 : xi = yi + 1 := h2
    subst h1 h2
    have h3 : (if (yi + 1) = 0 then (0 : Int) else (rows xp).getD (yi + 1 - 1) 0) = stOf rows (xp, yi) := by rw [if_neg (by omega)]; rfl
    have e' : stOf rows (xp, yi + 1) = max (if (yi + 1) = 0 then 0 else (rows xp).getD (yi + 1 - 1) 0) (if T.kind xp (yi + 1) = 3 then stOf rows (T.sndN (xp, yi + 1)) else 0) + 1 := e'
    rw [h3] at e'
    show stOf rows (xp, yi) < stOf rows (xp, yi + 1)
    rw [e']
    exact Int.lt_add_one_of_le (Int.le_max_left _ _)
  · rw [if_pos h1, ← h2] at e'
    rw [e']
    exact Int.lt_add_one_of_le (Int.le_max_right _ _)
theorem Tr.Stamps.pos {T : Tr} {rows : Nat → List Int} (h : T.Stamps rows) {x : NN} (hx : T.V x) : 1 ≤ stOf rows x ∧ stOf rows x ≤ (tot T.en T.n : Nat) := h.sm x.1 x.2 hx.1 hx.2
/-- the matrix of a function -/
def mxOf (T : Tr) (f : Nat → Nat → Int) : Mx := ⟨T.n, T.en, f⟩
/-- the stamps as a matrix fulfil the clock condition -/
theorem Tr.Stamps.check {T : Tr} {rows : Nat → List Int} (h : T.Stamps rows) (hV : T.Valid) (hs : tot T.en T.n ≤ 1000000) {M : Mx} (hF : T.FitsM M) (he : ∀ p i, p < T.n → i < T.en p → M.val p i = stOf rows (p, i)) : T.CheckP M := by
  refine Tr.check_iff.1 ⟨hV, hF, fun p i hp hi => Tr.rck_iff.2 ?_⟩
  have h1 := h.pos (x := (p, i)) ⟨hp, hi⟩
  rw [he p i hp hi]
  refine ⟨by omega, by omega, fun y hy => ?_⟩
  have hv : T.V y := Tr.Dir.V (y := (p, i)) ⟨hp, hi⟩ hy
  rw [he y.1 y.2 hv.1 hv.2]
  exact h.dir_lt (x := (p, i)) ⟨hp, hi⟩ hy
/-- no number is above the stamp -/
def Tr.RsI (T : Tr) (rows : Nat → List Int) (f : Nat → Nat → Int) : Prop := ∀ p i, p < T.n → i < T.en p → 0 ≤ f p i ∧ f p i ≤ stOf rows (p, i)
theorem Tr.RsI.start {T : Tr} {rows : Nat → List Int} (h : T.Stamps rows) : T.RsI rows (fun _ _ => 0) := fun p i hp hi => ⟨Int.le_refl _, by have := h.pos (x := (p, i)) ⟨hp, hi⟩; show (0 : Int) ≤ stOf rows (p, i); omega⟩
theorem Tr.RsI.lat {T : Tr} {rows : Nat → List Int} {f : Nat → Nat → Int} (h : T.RsI rows f) (hR : T.Stamps rows) {p i : Nat} (hp : p < T.n) (hi : i < T.en p) {M : Mx} (hM : M.val = f) : 0 ≤ T.latest M (p, i) ∧ 1 + T.latest M (p, i) ≤ stOf rows (p, i) := by
  have h1 := hR.pos (x := (p, i)) ⟨hp, hi⟩
  have h2 : M.top (T.bk (p, i)) < stOf rows (p, i) := by
    refine Mx.top_lt.2 ⟨by omega, fun y hy => ?_⟩
    have hd := Tr.mem_bk.1 hy
    have hv : T.V y := Tr.Dir.V (y := (p, i)) ⟨hp, hi⟩ hd
    have h3 := hR.dir_lt (x := (p, i)) ⟨hp, hi⟩ hd
    have h4 := (h y.1 y.2 hv.1 hv.2).2
    rw [hM]
    have h5 : stOf rows (y.1, y.2) = stOf rows y := rfl
    omega
  have h3 := (Mx.top_ge M (T.bk (p, i))).1
  unfold Tr.latest
  omega
def updF (f : Nat → Nat → Int) (p i : Nat) (v : Int) : Nat → Nat → Int := fun k j => if k = p ∧ j = i then v else f k j
theorem Tr.RsI.upd {T : Tr} {rows : Nat → List Int} {f : Nat → Nat → Int} (h : T.RsI rows f) {p i : Nat} {v : Int} (h0 : 0 ≤ v) (h1 : v ≤ stOf rows (p, i)) : T.RsI rows (updF f p i v) := by
  intro k j hk hj
  unfold updF
  by_cases e : k = p ∧ j = i
  · rw [if_pos e, e.1, e.2]; exact ⟨h0, h1⟩
  · rw [if_neg e]; exact h k j hk hj
/-- what is still to be raised -/
def Tr.rsL (T : Tr) (rows : Nat → List Int) (f : Nat → Nat → Int) : Nat := tot (fun p => tot (fun i => (stOf rows (p, i) - f p i).toNat) (T.en p)) T.n
theorem tot_lt {f g : Nat → Nat} {p : Nat} : ∀ {n : Nat}, p < n → (∀ k, k ≠ p → f k = g k) → f p < g p → tot f n < tot g n
  | 0, h, _, _ => by omega
  | n + 1, h, ho, hp => by
    rw [tot_succ, tot_succ]
    by_cases e : p = n
    · subst e
      rw [tot_congr (f := f) (g := g) fun k hk => ho k (by omega)]; omega
    · have := tot_lt (f := f) (g := g) (n := n) (by omega) ho hp
      rw [ho n (fun h => e h.symm)]; omega
theorem Tr.rsL_lt {T : Tr} {rows : Nat → List Int} {f : Nat → Nat → Int} {p i : Nat} {v : Int} (hp : p < T.n) (hi : i < T.en p) (h1 : f p i < v) (h2 : v ≤ stOf rows (p, i)) : T.rsL rows (updF f p i v) < T.rsL rows f := by
  unfold Tr.rsL
  refine tot_lt (p := p) hp (fun k hk => ?_) ?_
  · refine tot_congr fun j _ => ?_
    unfold updF; rw [if_neg (fun h => hk h.1)]
  · refine tot_lt (p := i) hi (fun j hj => ?_) ?_
    · unfold updF; rw [if_neg (fun h => hj h.2)]
    · unfold updF; rw [if_pos ⟨rfl, rfl⟩]; omega
/-- nothing is to be raised there -/
def Tr.RsOk (T : Tr) (f : Nat → Nat → Int) (p i : Nat) : Prop := 1 + T.latest (mxOf T f) (p, i) ≤ f p i
theorem Tr.RsI.fix {T : Tr} {rows : Nat → List Int} {f : Nat → Nat → Int} (h : T.RsI rows f) (hR : T.Stamps rows) (hV : T.Valid) (ho : ∀ p i, p < T.n → i < T.en p → T.RsOk f p i) : ∀ p i, p < T.n → i < T.en p → f p i = stOf rows (p, i) := by
  have key := hV.ind (P := fun y => f y.1 y.2 = stOf rows y) (fun y hy ih => by
    obtain ⟨p, i⟩ := y
    have h1 := (h p i hy.1 hy.2).2
    have h2 := ho p i hy.1 hy.2
    unfold Tr.RsOk Tr.latest at h2
    have h3 := Mx.top_ge (mxOf T f) (T.bk (p, i))
    have e := hR.eq p i hy.1 hy.2
    have e' : stOf rows (p, i) = max (if i = 0 then 0 else (rows p).getD (i - 1) 0) (if T.kind p i = 3 then stOf rows (T.sndN (p, i)) else 0) + 1 := e
    have hprev : (if i = 0 then 0 else (rows p).getD (i - 1) 0) ≤ (mxOf T f).top (T.bk (p, i)) := by
      by_cases h0 : i = 0
      · rw [if_pos h0]; exact h3.1
      · rw [if_neg h0]
        have hd : T.Dir (p, i - 1) (p, i) := .inl ⟨rfl, by show i = i - 1 + 1; omega⟩
        have h4 := h3.2 _ (Tr.mem_bk.2 hd)
        have h5 := ih _ (Tr.Dir.V hy hd) hd
        have h6 : f p (i - 1) = stOf rows (p, i - 1) := h5
        have h7 : f p (i - 1) ≤ (mxOf T f).top (T.bk (p, i)) := h4
        rw [h6] at h7; exact h7
    have hsnd : (if T.kind p i = 3 then stOf rows (T.sndN (p, i)) else 0) ≤ (mxOf T f).top (T.bk (p, i)) := by
      by_cases h0 : T.kind p i = 3
      · rw [if_pos h0]
        have hd : T.Dir (T.sndN (p, i)) (p, i) := .inr ⟨h0, rfl⟩
        have h4 := h3.2 _ (Tr.mem_bk.2 hd)
        have h5 := ih _ (Tr.Dir.V hy hd) hd
        rw [← h5]; exact h4
      · rw [if_neg h0]; exact h3.1
    show f p i = stOf rows (p, i)
    omega)
  exact fun p i hp hi => key (p, i) ⟨hp, hi⟩

end Go.Proofs.YtnknkkmdbnaglaaGreat

namespace Go.Proofs.YtnknkkmdbnaglaaGreat
open Go.RowKit Go.Shelf

/-- a row of numbers -/
structure IRow (w : World) (g n : Nat) (f : Nat → Int) : Prop where
  c : ∀ i, i < n → w.cell? ⟨g, i, none⟩ = some (.int .i64 (f i))
  fr : ∀ o, w.frozen? ⟨g, o, none⟩ = false
  lt : g < w.heap.size
theorem IRow.block {w w' : World} {g n : Nat} {f : Nat → Int} (h : IRow w g n f) (hs : w.heap.size ≤ w'.heap.size) (x : w'.heap[g]? = w.heap[g]?) : IRow w' g n f :=
  ⟨fun k hk => (World.cell?_of_block (w := w) (a := ⟨g, k, none⟩) x).trans (h.c k hk), fun o => (World.frozen?_of_block (w := w) (a := ⟨g, o, none⟩) x).trans (h.fr o), Nat.lt_of_lt_of_le h.lt hs⟩
theorem IRow.made {w : World} {base g n : Nat} (h : w.ownsRow base 3 1 (.slice (some ⟨g, 0, none⟩) n n) n (madeCells (Value.int .i64 0).cells (n * 1)).toList) : IRow w g n (fun _ => 0) := by
  obtain ⟨h1, ⟨hv, _⟩ | ⟨g', cap, cur, hv, hg, hh, hc, hm, hs, ht⟩⟩ := h
  · cases hv
  · simp only [Value.slice.injEq, Option.some.injEq, Addr.mk.injEq] at hv
    obtain ⟨⟨rfl, _⟩, _, rfl⟩ := hv
    have hb := Box.of hh
    have hz : (Value.int .i64 0).cells = #[.int .i64 0] := rfl
    rw [hz, toList_madeCells_one] at ht
    refine ⟨fun k hk => ?_, fun o => hb.frozen w (Ext.refl _) o, hb.lt w (Ext.refl _)⟩
    rw [hb.cell w (Ext.refl _)]
    have : cur[k]? = (List.replicate (n * 1) (Value.int .i64 0))[k]? := by rw [← ht, List.getElem?_take_of_lt (by omega)]; simp
    rw [this, List.getElem?_replicate, if_pos (by omega)]
theorem IRow.congr {w : World} {g n : Nat} {f f' : Nat → Int} (h : IRow w g n f) (e : ∀ i, f i = f' i) : IRow w g n f' := ⟨fun i hi => by rw [← e]; exact h.c i hi, h.fr, h.lt⟩
/-- n rows of numbers, each in a block of its own; all blocks lie from wb on and below B -/
structure IoM (wb B n : Nat) (len : Nat → Nat) (v : Value) (rb : Nat → Nat) (f : Nat → Nat → Int) (w : World) : Prop where
  own : w.ownsRow wb 28 1 v n ((List.range n).map fun k => Value.slice (some ⟨rb k, 0, none⟩) (len k) (len k))
  vhi : ∀ g, v.ownBlock = some g → g < B
  row : ∀ k, k < n → IRow w (rb k) (len k) (f k)
  lo : ∀ k, k < n → wb ≤ rb k
  hi : ∀ k, k < n → rb k < B
  inj : ∀ j k, j < n → k < n → j ≠ k → rb j ≠ rb k
  far : ∀ k, k < n → v.ownBlock ≠ some (rb k)
theorem IoM.nil (wb B : Nat) (len : Nat → Nat) (rb : Nat → Nat) (f : Nat → Nat → Int) (w : World) : IoM wb B 0 len (.slice none 0 0) rb f w :=
  ⟨World.ownsRow_nil _ _ _ _, (fun g e => by cases e), fun k hk => absurd hk (Nat.not_lt_zero _), fun k hk => absurd hk (Nat.not_lt_zero _), fun k hk => absurd hk (Nat.not_lt_zero _), fun k _ hk => absurd hk (Nat.not_lt_zero _), fun k hk => absurd hk (Nat.not_lt_zero _)⟩
theorem IoM.same {wb B n : Nat} {len : Nat → Nat} {v : Value} {rb : Nat → Nat} {f : Nat → Nat → Int} {w w' : World} (h : IoM wb B n len v rb f w) (hs : w.heap.size ≤ w'.heap.size) (hb : ∀ g, wb ≤ g → g < B → w'.heap[g]? = w.heap[g]?) : IoM wb B n len v rb f w' :=
  ⟨ownsRow_same h.own fun g e => hb g (by
      obtain ⟨_, ⟨hv, _⟩ | ⟨g', cap, cur, hv, hg, _⟩⟩ := h.own
      · subst hv; cases e
      · subst hv; simp [Value.ownBlock] at e; omega) (h.vhi g e), h.vhi, fun k hk => (h.row k hk).block hs (hb _ (h.lo k hk) (h.hi k hk)), h.lo, h.hi, h.inj, h.far⟩
theorem IoM.ext {wb B n : Nat} {len : Nat → Nat} {v : Value} {rb : Nat → Nat} {f : Nat → Nat → Int} {w w' : World} (h : IoM wb B n len v rb f w) (hB : B ≤ w.heap.size) (x : Ext w w') : IoM wb B n len v rb f w' :=
  h.same x.le fun g _ hg => x.block g (by omega)
theorem IoM.raise {wb B B' n : Nat} {len : Nat → Nat} {v : Value} {rb : Nat → Nat} {f : Nat → Nat → Int} {w : World} (h : IoM wb B n len v rb f w) (hB : B ≤ B') : IoM wb B' n len v rb f w :=
  ⟨h.own, fun g e => Nat.lt_of_lt_of_le (h.vhi g e) hB, h.row, h.lo, fun k hk => Nat.lt_of_lt_of_le (h.hi k hk) hB, h.inj, h.far⟩
/-- 'out = append(out, make([]int, len))' -/
theorem IoM.push {wb n L : Nat} {len : Nat → Nat} {v v' : Value} {rb : Nat → Nat} {f : Nat → Nat → Int} {wr w3 w5 : World} {c : Array Value} {t : TypeId} (h : IoM wb wr.heap.size n len v rb f wr) (hw : wb ≤ wr.heap.size) (x3 : Ext wr w3)
    (hn : IRow w3 wr.heap.size L (fun _ => 0)) (hL : L = len n) (hf : ∀ i, f n i = 0)
    (hown : w5.ownsRow wb 28 1 v' (n + 1) (((List.range n).map fun k => Value.slice (some ⟨rb k, 0, none⟩) (len k) (len k)) ++ [.slice (some ⟨wr.heap.size, 0, none⟩) L L]))
    (hg : (w3.alloc (.cells c t)).grownBy w5 v.ownBlock) (hat : v'.ownBlock = v.ownBlock ∨ v'.ownBlock = some (w3.heap.size + 1)) :
    IoM wb w5.heap.size (n + 1) len v' (updC rb n wr.heap.size) f w5 ∧ Below wb wr w5 := by
  subst hL
  have hlt3 := hn.lt
  have hsz : w3.heap.size + 1 ≤ w5.heap.size := by have := hg.size; rw [World.size_alloc] at this; exact this
  have hbl : ∀ g, g < w3.heap.size → v.ownBlock ≠ some g → w5.heap[g]? = w3.heap[g]? := fun g h1 h2 => by
    rw [hg.block g (by rw [World.size_alloc]; omega) (fun e => h2 e.symm), Below.heap_alloc _ _ _ h1]
  have hold : ∀ k, k < n → updC rb n wr.heap.size k = rb k := fun k hk => by unfold updC; rw [if_neg (by omega)]
  have hnew : updC rb n wr.heap.size n = wr.heap.size := by unfold updC; rw [if_pos rfl]
  have hcase : ∀ k, k < n + 1 → k < n ∨ k = n := fun k hk => by omega
  have hv' : ∀ g, v'.ownBlock = some g → g < w5.heap.size := by
    intro g e
    obtain ⟨_, ⟨hv, _⟩ | ⟨g', cap, cur, hv, hg', hh, _⟩⟩ := hown
    · subst hv; cases e
    · subst hv; simp [Value.ownBlock] at e; subst e; exact (Array.getElem?_eq_some_iff.1 hh).1
  have hvw : v.ownBlock ≠ some wr.heap.size := fun e => by have := h.vhi _ e; omega
  refine ⟨⟨?_, hv', fun k hk => ?_, fun k hk => ?_, fun k hk => ?_, fun j k hj hk hne => ?_, fun k hk => ?_⟩, ?_⟩
  · rw [List.range_succ, List.map_append]
    simp only [List.map_cons, List.map_nil, hnew]
    rw [List.map_congr_left (g := fun k => Value.slice (some ⟨rb k, 0, none⟩) (len k) (len k)) fun k hk => by rw [hold k (List.mem_range.1 hk)]]
    exact hown
  · rcases hcase k hk with hk | rfl
    · rw [hold k hk]
      have h1 := h.hi k hk
      refine (h.row k hk).block (by have := x3.le; omega) ?_
      rw [hbl _ (by have := x3.le; omega) (h.far k hk), x3.block _ h1]
    · rw [hnew]
      exact (hn.block (by omega) (hbl _ hlt3 hvw)).congr fun i => (hf i).symm
  · rcases hcase k hk with hk | rfl
    · rw [hold k hk]; exact h.lo k hk
    · rw [hnew]; exact hw
  · rcases hcase k hk with hk | rfl
    · rw [hold k hk]; have := h.hi k hk; have := x3.le; omega
    · rw [hnew]; omega
  · rcases hcase j hj with hj | rfl <;> rcases hcase k hk with hk | rfl
    · rw [hold j hj, hold k hk]; exact h.inj j k hj hk hne
    · rw [hold j hj, hnew]; have := h.hi j hj; omega
    · rw [hold k hk, hnew]; have := h.hi k hk; omega
    · exact absurd rfl hne
  · intro e
    rcases hat with e' | e'
    · rcases hcase k hk with hk | rfl
      · rw [hold k hk] at e; exact h.far k hk (e' ▸ e)
      · rw [hnew] at e; exact hvw (e' ▸ e)
    · rw [e', Option.some.injEq] at e
      rcases hcase k hk with hk | rfl
      · rw [hold k hk] at e; have := h.hi k hk; have := x3.le; omega
      · rw [hnew] at e; omega
  · have b1 : Below wb w3 w5 := ((Below.refl wb w3).alloc (by have := x3.le; omega) _).grown hg (by rw [World.size_alloc]; have := x3.le; omega) (fun k e => by
      obtain ⟨_, ⟨hv, _⟩ | ⟨g', cap, cur, hv, hg', _⟩⟩ := h.own
      · subst hv; cases e
      · subst hv; simp [Value.ownBlock] at e; omega)
    exact (Below.mono x3 hw).trans b1
/-- the rows as they are read -/
theorem IoM.form {wb B n : Nat} {len : Nat → Nat} {v : Value} {rb : Nat → Nat} {f : Nat → Nat → Int} {w : World} (h : IoM wb B n len v rb f w) (h0 : 0 < n) :
    ∃ g cap, v = .slice (some ⟨g, 0, none⟩) n cap ∧ wb ≤ g ∧ g < B ∧ n ≤ cap := by
  obtain ⟨h1, ⟨hv, hn⟩ | ⟨g, cap, cur, hv, hg, hh, hc, hm, hs, ht⟩⟩ := h.own
  · omega
  · exact ⟨g, cap, hv, hg, h.vhi g (by rw [hv]; rfl), hc⟩
theorem IoM.cell {wb B n g cap : Nat} {len : Nat → Nat} {rb : Nat → Nat} {f : Nat → Nat → Int} {w : World} (h : IoM wb B n len (.slice (some ⟨g, 0, none⟩) n cap) rb f w) :
    g < w.heap.size ∧ ∀ k, k < n → w.cell? ⟨g, k, none⟩ = some (.slice (some ⟨rb k, 0, none⟩) (len k) (len k)) := by
  obtain ⟨h1, ⟨hv, hn⟩ | ⟨g', cap', cur, hv, hg, hh, hc, hm, hs, ht⟩⟩ := h.own
  · cases hv
  · simp only [Value.slice.injEq, Option.some.injEq, Addr.mk.injEq] at hv
    obtain ⟨⟨rfl, _⟩, _, rfl⟩ := hv
    have hb := Box.of hh
    refine ⟨hb.lt w (Ext.refl _), fun k hk => ?_⟩
    rw [hb.cell w (Ext.refl _)]
    have : cur[k]? = ((List.range n).map fun k => Value.slice (some ⟨rb k, 0, none⟩) (len k) (len k))[k]? := by rw [← ht, List.getElem?_take_of_lt (by omega)]; simp
    rw [this, List.getElem?_map, List.getElem?_range hk]; rfl
/-- one number is set -/
theorem IoM.set {wb B n p i : Nat} {len : Nat → Nat} {v : Value} {rb : Nat → Nat} {f f' : Nat → Nat → Int} {x : Int} {w : World} (h : IoM wb B n len v rb f w) (hp : p < n) (hi : i < len p) (hf : ∀ k j, f' k j = if k = p ∧ j = i then x else f k j) :
    IoM wb B n len v rb f' (w.setCell ⟨rb p, i, none⟩ (.int .i64 x)) := by
  have hoth : ∀ g, g ≠ rb p → (w.setCell ⟨rb p, i, none⟩ (.int .i64 x)).heap[g]? = w.heap[g]? := fun g hg => Below.heap_setCell _ _ _ _ hg
  refine ⟨ownsRow_same h.own fun g e => hoth g fun e' => h.far p hp (e' ▸ e), h.vhi, fun k hk => ?_, h.lo, h.hi, h.inj, h.far⟩
  by_cases e : k = p
  · subst e
    refine ⟨fun j hj => ?_, fun o => by rw [frozen_set]; exact (h.row k hk).fr o, by rw [World.size_setCell]; exact (h.row k hk).lt⟩
    rw [cell_set w (rb k) i j _ ((h.row k hk).c i hi), hf]
    by_cases ej : j = i
    · rw [if_pos ej, if_pos ⟨rfl, ej⟩]
    · rw [if_neg ej, if_neg (fun h => ej h.2)]; exact (h.row k hk).c j hj
  · refine ((h.row k hk).block (by rw [World.size_setCell]; exact Nat.le_refl _) (hoth _ (h.inj k p hk hp e))).congr fun j => ?_
    rw [hf, if_neg (fun h => e h.1)]
/-- read as a list of lists -/
def ioMM (g n cap : Nat) (len : Nat → Nat) (rb : Nat → Nat) (f : Nat → Nat → Int) : MM :=
  { n := n, rn := len, val := f, a := some ⟨g, 0, none⟩, b := g, off := 0, cap := cap, ra := fun k => some ⟨rb k, 0, none⟩, rb := rb, ro := fun _ => 0, rc := len }
theorem IoM.mm {wb B n g cap : Nat} {len : Nat → Nat} {rb : Nat → Nat} {f : Nat → Nat → Int} {w : World} (h : IoM wb B n len (.slice (some ⟨g, 0, none⟩) n cap) rb f w) (hn : n ≤ 1000) (hl : ∀ k, k < n → len k ≤ 1000) : (ioMM g n cap len rb f).At w := by
  have hc := h.cell
  refine ⟨by show n ≤ _; omega, fun _ => rfl, fun _ w' x => Nat.lt_of_lt_of_le hc.1 x.le, fun w' x k hk => ?_, fun k hk => by have := hl k hk; show len k ≤ _; omega, fun k _ _ => rfl, fun k hk _ w' x => Nat.lt_of_lt_of_le (h.row k hk).lt x.le, fun w' x k i hk hi => ?_⟩
  · show w'.cell? ⟨g, 0 + k, none⟩ = _
    rw [Nat.zero_add]; exact x.cell (hc.2 k hk)
  · show w'.cell? ⟨rb k, 0 + i, none⟩ = _
    rw [Nat.zero_add]; exact x.cell ((h.row k hk).c i hi)

end Go.Proofs.YtnknkkmdbnaglaaGreat

namespace Go.Proofs.YtnknkkmdbnaglaaGreat
open Go.RowKit Go.Shelf

/-- the numbers in memory -/
structure RstW (T : TM) (w : World) (B g c : Nat) (rb : Nat → Nat) (f : Nat → Nat → Int) (wr : World) : Prop where
  h0 : Hold wr w.heap.size #[.slice (some ⟨T.b, T.off, none⟩) T.n T.cap]
  im : IoM (w.heap.size + 1) B T.n T.en (.slice (some ⟨g, 0, none⟩) T.n c) rb f wr
  bl : Ext w wr
  hi : B ≤ wr.heap.size
theorem RstW.ext {T : TM} {w : World} {B g c : Nat} {rb : Nat → Nat} {f : Nat → Nat → Int} {wr w' : World} (h : RstW T w B g c rb f wr) (x : Ext wr w') : RstW T w B g c rb f w' :=
  ⟨h.h0.ext x, h.im.ext h.hi x, h.bl.trans x, Nat.le_trans h.hi x.le⟩
theorem RstW.set {T : TM} {w : World} {B g c : Nat} {rb : Nat → Nat} {f : Nat → Nat → Int} {wr : World} (h : RstW T w B g c rb f wr) {p i : Nat} (hp : p < T.n) (hi : i < T.en p) (v : Int) :
    RstW T w B g c rb (updF f p i v) (wr.setCell ⟨rb p, i, none⟩ (.int .i64 v)) := by
  have h1 := h.im.lo p hp
  exact ⟨h.h0.other _ _ (by show _ ≠ rb p; omega), h.im.set hp hi (fun k j => rfl), h.bl.setCell (by show _ ≤ rb p; omega) _, by rw [World.size_setCell]; exact h.hi⟩
def RStampsPost (T : TM) (rows : Nat → List Int) (w : World) (e : Ending) (w' : World) : Prop := Ext w w' ∧ ∃ g c rb f, e = .returned (.slice (some ⟨g, 0, none⟩) T.n c) ∧ (ioMM g T.n c T.en rb f).At w' ∧ (∀ p i, p < T.n → i < T.en p → f p i = stOf rows (p, i)) ∧ w.heap.size ≤ g ∧ ∀ k, k < T.n → w.heap.size ≤ rb k

end Go.Proofs.YtnknkkmdbnaglaaGreat
