/- antecederef12.Past: plain part: a search backwards by a queue. antecederef12.Past in memory: a table of bools (rows of the call's own) and a queue. -/
import Derived.Test.YtdplphoohnnbcaaGreatDoorIn
import Derived.Deep.RegionHeld
namespace Go.Proofs.YtdplphoohnnbcaaGreatDoor

/-- y happened before x -/
def Tr.SP (T : Tr) (x y : NN) : Prop := ∃ z, T.Past x z ∧ T.Dir y z
theorem Tr.SP.V {T : Tr} {x y : NN} (hx : T.V x) (h : T.SP x y) : T.V y := by
  obtain ⟨z, h1, h2⟩ := h
  exact Tr.Dir.V (h1.V hx) h2
theorem Tr.SP.step {T : Tr} {x y z : NN} (h : T.SP x y) (d : T.Dir z y) : T.SP x z := by
  obtain ⟨u, h1, h2⟩ := h
  exact ⟨y, .step h1 h2, d⟩
/-- S: found; q: the queue -/
structure Tr.BfI (T : Tr) (x : NN) (S q : List NN) : Prop where
  hx : T.V x
  nd : S.Nodup
  sv : ∀ y ∈ S, T.SP x y
  qv : ∀ y ∈ q, T.SP x y
  xx : ∀ y, T.Dir y x → y ∈ S ∨ y ∈ q
  cl : ∀ y ∈ S, ∀ z, T.Dir z y → z ∈ S ∨ z ∈ q
theorem Tr.BfI.start {T : Tr} {x : NN} (hx : T.V x) : T.BfI x [] (T.bk x) :=
  ⟨hx, List.nodup_nil, (fun y hy => by cases hy), (fun y hy => ⟨x, .self, Tr.mem_bk.1 hy⟩), (fun y hy => .inr (Tr.mem_bk.2 hy)), (fun y hy => by cases hy)⟩
theorem Tr.BfI.skip {T : Tr} {x y : NN} {S q : List NN} (h : T.BfI x S (y :: q)) (hy : y ∈ S) : T.BfI x S q := by
  refine ⟨h.hx, h.nd, h.sv, fun z hz => h.qv z (by simp [hz]), fun z hz => ?_, fun u hu z hz => ?_⟩
  · rcases h.xx z hz with h | h
    · exact .inl h
    · rcases List.mem_cons.1 h with rfl | h
      · exact .inl hy
      · exact .inr h
  · rcases h.cl u hu z hz with h | h
    · exact .inl h
    · rcases List.mem_cons.1 h with rfl | h
      · exact .inl hy
      · exact .inr h
theorem Tr.BfI.take {T : Tr} {x y : NN} {S q : List NN} (h : T.BfI x S (y :: q)) (hy : y ∉ S) : T.BfI x (y :: S) (q ++ T.bk y) := by
  have hpy := h.qv y (by simp)
  refine ⟨h.hx, List.nodup_cons.2 ⟨hy, h.nd⟩, fun z hz => ?_, fun z hz => ?_, fun z hz => ?_, fun u hu z hz => ?_⟩
  · rcases List.mem_cons.1 hz with rfl | hz
    · exact hpy
    · exact h.sv z hz
  · rcases List.mem_append.1 hz with hz | hz
    · exact h.qv z (by simp [hz])
    · exact hpy.step (Tr.mem_bk.1 hz)
  · rcases h.xx z hz with h | h
    · exact .inl (by simp [h])
    · rcases List.mem_cons.1 h with rfl | h
      · exact .inl (by simp)
      · exact .inr (by simp [h])
  · rcases List.mem_cons.1 hu with rfl | hu
    · exact .inr (List.mem_append.2 (.inr (Tr.mem_bk.2 hz)))
    · rcases h.cl u hu z hz with h | h
      · exact .inl (by simp [h])
      · rcases List.mem_cons.1 h with rfl | h
        · exact .inl (by simp)
        · exact .inr (by simp [h])
theorem Tr.BfI.done {T : Tr} {x : NN} {S : List NN} (h : T.BfI x S []) (y : NN) : y ∈ S ↔ T.SP x y := by
  refine ⟨h.sv y, fun ⟨z, h1, h2⟩ => ?_⟩
  have key : ∀ z, T.Past x z → z = x ∨ z ∈ S := by
    intro z hz
    induction hz with
    | self => exact .inl rfl
    | @step u z _ d ih =>
      rcases ih with rfl | ih
      · rcases h.xx z d with h | h
        · exact .inr h
        · cases h
      · rcases h.cl u ih z d with h | h
        · exact .inr h
        · cases h
  rcases key z h1 with rfl | hz
  · rcases h.xx y h2 with h | h
    · exact h
    · cases h
  · rcases h.cl z hz y h2 with h | h
    · exact h
    · cases h
/-- what is left to be done -/
def Tr.bfM (T : Tr) (S q : List NN) : Nat := q.length + 3 * (T.evs.length - S.length)
theorem Tr.BfI.less {T : Tr} {x y : NN} {S q : List NN} (h : T.BfI x S (y :: q)) (hy : y ∉ S) : T.bfM (y :: S) (q ++ T.bk y) < T.bfM S (y :: q) := by
  have h2 := h.take hy
  have hc := evs_count h2.nd (fun z hz => (h2.sv z hz).V h.hx)
  have hb := T.bk_len y
  unfold Tr.bfM
  rw [List.length_append, List.length_cons] at *
  simp only [List.length_cons] at *
  omega
/-- found or not, by a row's index -/
def bfF (S : List NN) (k i : Nat) : Bool := decide (0 < i ∧ (k, i - 1) ∈ S)
theorem bfF_nil (k i : Nat) : bfF [] k i = false := by unfold bfF; simp
theorem bfF_succ (S : List NN) (k i : Nat) : bfF S k (i + 1) = decide ((k, i) ∈ S) := by unfold bfF; simp
theorem bfF_cons (S : List NN) (p j k i : Nat) : bfF ((p, j) :: S) k i = if k = p ∧ i = j + 1 then true else bfF S k i := by
  unfold bfF
  by_cases h : k = p ∧ i = j + 1
  · rw [if_pos h]; obtain ⟨rfl, rfl⟩ := h; simp
  · rw [if_neg h, Bool.eq_iff_iff]
    simp only [decide_eq_true_eq, List.mem_cons, Prod.mk.injEq]
    constructor
    · rintro ⟨h0, h1 | h1⟩
      · exact absurd ⟨h1.1, by omega⟩ h
      · exact ⟨h0, h1⟩
    · rintro ⟨h0, h1⟩
      exact ⟨h0, .inr h1⟩
/-- an event that happened before itself: what acyclic asks -/
theorem Tr.Pre.sp_path {T : Tr} (hP : T.Pre) {x y : NN} (hx : T.V x) : T.SP x y → Path (T.succ (Ltr.of T T.evs)) y x := by
  rintro ⟨z, h1, h2⟩
  have hz := h1.V hx
  induction h1 generalizing y with
  | self => exact Path.one (hP.dir_succ hx h2)
  | @step u z h1 d ih => exact Path.cons (hP.dir_succ hz h2) (ih d (h1.V hx))
theorem Tr.Pre.path_sp {T : Tr} (hP : T.Pre) {x y : NN} (hx : T.V x) (h : Path (T.succ (Ltr.of T T.evs)) x y) : T.SP y x := by
  obtain ⟨n, h⟩ := h
  induction n generalizing x with
  | zero => exact ⟨y, .self, (hP.succ_dir hx h).1⟩
  | succ n ih =>
    obtain ⟨z, hz, h⟩ := h
    obtain ⟨hd, hv⟩ := hP.succ_dir hx hz
    exact (ih hv h).step hd
theorem Tr.Pre.acy_iff {T : Tr} (hP : T.Pre) : T.Acy ↔ ∀ x, T.V x → ¬ T.SP x x := by
  constructor
  · intro h x hx hs
    exact h ⟨⟨x, hx⟩, hP.sp_path hx hs⟩
  · rintro h ⟨x, hp⟩
    exact h x.1 x.2 (hP.path_sp x.2 hp)
/-- in a valid trace: before, or it itself -/
theorem Tr.Valid.sp_iff {T : Tr} (hV : T.Valid) {x y : NN} (hx : T.V x) : T.SP x y ↔ y ≠ x ∧ T.Past x y := by
  have hPA := Tr.valid_iff.1 hV
  constructor
  · intro h
    refine ⟨fun e => (hPA.1.acy_iff.1 hPA.2 x hx) (e ▸ h), ?_⟩
    obtain ⟨z, h1, h2⟩ := h
    exact .step h1 h2
  · rintro ⟨hne, h⟩
    cases h with
    | self => exact absurd rfl hne
    | step h d => exact ⟨_, h, d⟩

end Go.Proofs.YtdplphoohnnbcaaGreatDoor

namespace Go.Proofs.YtdplphoohnnbcaaGreatDoor
open Go.RowKit Go.Shelf

theorem evCells_app (a b : List (Int × Int)) : evCells (a ++ b) = evCells a ++ evCells b := by simp [evCells]
theorem infoBool : (Tryz.prog.info? 4).map (fun i => (i.zero, i.size, i.bytes)) = some (some (.bool false), 1, 1) := by kernel_rfl
theorem infoBools : (Tryz.prog.info? 132).map (fun i => (i.zero, i.size, i.bytes)) = some (some (.slice none 0 0), 1, 24) := by kernel_rfl
theorem ownsRow_same {w w' : World} {base : Nat} {t : TypeId} {k : Nat} {v : Value} {n : Nat} {xs : List Value} (h : w.ownsRow base t k v n xs) (hs : ∀ g, v.ownBlock = some g → w'.heap[g]? = w.heap[g]?) : w'.ownsRow base t k v n xs := by
  obtain ⟨h1, ⟨hv, hn⟩ | ⟨g, cap, cur, hv, hg, hh, rest⟩⟩ := h
  · exact ⟨h1, .inl ⟨hv, hn⟩⟩
  · exact ⟨h1, .inr ⟨g, cap, cur, hv, hg, (hs g (by subst hv; rfl)).trans hh, rest⟩⟩
/-- a row of bools -/
structure BRow (w : World) (g n : Nat) (f : Nat → Bool) : Prop where
  c : ∀ i, i < n → w.cell? ⟨g, i, none⟩ = some (.bool (f i))
  fr : ∀ o, w.frozen? ⟨g, o, none⟩ = false
  lt : g < w.heap.size
theorem BRow.block {w w' : World} {g n : Nat} {f : Nat → Bool} (h : BRow w g n f) (hs : w.heap.size ≤ w'.heap.size) (x : w'.heap[g]? = w.heap[g]?) : BRow w' g n f :=
  ⟨fun k hk => (World.cell?_of_block (w := w) (a := ⟨g, k, none⟩) x).trans (h.c k hk), fun o => (World.frozen?_of_block (w := w) (a := ⟨g, o, none⟩) x).trans (h.fr o), Nat.lt_of_lt_of_le h.lt hs⟩
theorem BRow.made {w : World} {base g n : Nat} (h : w.ownsRow base 4 1 (.slice (some ⟨g, 0, none⟩) n n) n (madeCells (Value.bool false).cells (n * 1)).toList) : BRow w g n (fun _ => false) := by
  obtain ⟨h1, ⟨hv, _⟩ | ⟨g', cap, cur, hv, hg, hh, hc, hm, hs, ht⟩⟩ := h
  · cases hv
  · simp only [Value.slice.injEq, Option.some.injEq, Addr.mk.injEq] at hv
    obtain ⟨⟨rfl, _⟩, _, rfl⟩ := hv
    have hb := Box.of hh
    have hz : (Value.bool false).cells = #[.bool false] := rfl
    rw [hz, toList_madeCells_one] at ht
    refine ⟨fun k hk => ?_, fun o => hb.frozen w (Ext.refl _) o, hb.lt w (Ext.refl _)⟩
    rw [hb.cell w (Ext.refl _)]
    have : cur[k]? = (List.replicate (n * 1) (Value.bool false))[k]? := by rw [← ht, List.getElem?_take_of_lt (by omega)]; simp
    rw [this, List.getElem?_replicate, if_pos (by omega)]
theorem BRow.congr {w : World} {g n : Nat} {f f' : Nat → Bool} (h : BRow w g n f) (e : ∀ i, f i = f' i) : BRow w g n f' := ⟨fun i hi => by rw [← e]; exact h.c i hi, h.fr, h.lt⟩
/-- n rows of bools, each in a block of its own; all blocks lie from wb on and below B -/
structure BoM (wb B n : Nat) (len : Nat → Nat) (v : Value) (rb : Nat → Nat) (f : Nat → Nat → Bool) (w : World) : Prop where
  own : w.ownsRow wb 132 1 v n ((List.range n).map fun k => Value.slice (some ⟨rb k, 0, none⟩) (len k) (len k))
  vhi : ∀ g, v.ownBlock = some g → g < B
  row : ∀ k, k < n → BRow w (rb k) (len k) (f k)
  lo : ∀ k, k < n → wb ≤ rb k
  hi : ∀ k, k < n → rb k < B
  inj : ∀ j k, j < n → k < n → j ≠ k → rb j ≠ rb k
  far : ∀ k, k < n → v.ownBlock ≠ some (rb k)
theorem BoM.nil (wb B : Nat) (len : Nat → Nat) (rb : Nat → Nat) (f : Nat → Nat → Bool) (w : World) : BoM wb B 0 len (.slice none 0 0) rb f w :=
  ⟨World.ownsRow_nil _ _ _ _, (fun g e => by cases e), fun k hk => absurd hk (Nat.not_lt_zero _), fun k hk => absurd hk (Nat.not_lt_zero _), fun k hk => absurd hk (Nat.not_lt_zero _), fun k _ hk => absurd hk (Nat.not_lt_zero _), fun k hk => absurd hk (Nat.not_lt_zero _)⟩
theorem BoM.same {wb B n : Nat} {len : Nat → Nat} {v : Value} {rb : Nat → Nat} {f : Nat → Nat → Bool} {w w' : World} (h : BoM wb B n len v rb f w) (hs : w.heap.size ≤ w'.heap.size) (hb : ∀ g, wb ≤ g → g < B → w'.heap[g]? = w.heap[g]?) : BoM wb B n len v rb f w' :=
  ⟨ownsRow_same h.own fun g e => hb g (by
      obtain ⟨_, ⟨hv, _⟩ | ⟨g', cap, cur, hv, hg, _⟩⟩ := h.own
      · subst hv; cases e
      · subst hv; simp [Value.ownBlock] at e; omega) (h.vhi g e), h.vhi, fun k hk => (h.row k hk).block hs (hb _ (h.lo k hk) (h.hi k hk)), h.lo, h.hi, h.inj, h.far⟩
theorem BoM.ext {wb B n : Nat} {len : Nat → Nat} {v : Value} {rb : Nat → Nat} {f : Nat → Nat → Bool} {w w' : World} (h : BoM wb B n len v rb f w) (hB : B ≤ w.heap.size) (x : Ext w w') : BoM wb B n len v rb f w' :=
  h.same x.le fun g _ hg => x.block g (by omega)
theorem BoM.raise {wb B B' n : Nat} {len : Nat → Nat} {v : Value} {rb : Nat → Nat} {f : Nat → Nat → Bool} {w : World} (h : BoM wb B n len v rb f w) (hB : B ≤ B') : BoM wb B' n len v rb f w :=
  ⟨h.own, fun g e => Nat.lt_of_lt_of_le (h.vhi g e) hB, h.row, h.lo, fun k hk => Nat.lt_of_lt_of_le (h.hi k hk) hB, h.inj, h.far⟩
/-- 'out = append(out, make([]bool, len))' -/
theorem BoM.push {wb n L : Nat} {len : Nat → Nat} {v v' : Value} {rb : Nat → Nat} {f : Nat → Nat → Bool} {wr w3 w5 : World} {c : Array Value} {t : TypeId} (h : BoM wb wr.heap.size n len v rb f wr) (hw : wb ≤ wr.heap.size) (x3 : Ext wr w3)
    (hn : BRow w3 wr.heap.size L (fun _ => false)) (hL : L = len n) (hf : ∀ i, f n i = false)
    (hown : w5.ownsRow wb 132 1 v' (n + 1) (((List.range n).map fun k => Value.slice (some ⟨rb k, 0, none⟩) (len k) (len k)) ++ [.slice (some ⟨wr.heap.size, 0, none⟩) L L]))
    (hg : (w3.alloc (.cells c t)).grownBy w5 v.ownBlock) (hat : v'.ownBlock = v.ownBlock ∨ v'.ownBlock = some (w3.heap.size + 1)) :
    BoM wb w5.heap.size (n + 1) len v' (updC rb n wr.heap.size) f w5 ∧ Below wb wr w5 := by
  subst hL
  have hlt3 := hn.lt
  have hsz : w3.heap.size + 1 ≤ w5.heap.size := by have := hg.size; rw [World.size_alloc] at this; exact this
  have hbl : ∀ g, g < w3.heap.size → v.ownBlock ≠ some g → w5.heap[g]? = w3.heap[g]? := fun g h1 h2 => by
    rw [hg.block g (by rw [World.size_alloc]; omega) (fun e => h2 e.symm), Below.heap_alloc _ _ _ h1]
  have hold : ∀ k, k < n → updC rb n wr.heap.size k = rb k := fun k hk => by unfold updC; rw [if_neg (by omega)]
  have hnew : updC rb n wr.heap.size n = wr.heap.size := by unfold updC; rw [if_pos rfl]
  have hcase : ∀ k, k < n + 1 → k < n ∨ k = n := fun k hk => by omega
  have hv' : ∀ g, v'.ownBlock = some g → g < w5.heap.size := by
    intro g e
    obtain ⟨_, ⟨hv, _⟩ | ⟨g', cap, cur, hv, hg', hh, _⟩⟩ := hown
    · subst hv; cases e
    · subst hv; simp [Value.ownBlock] at e; subst e; exact (Array.getElem?_eq_some_iff.1 hh).1
  have hvw : v.ownBlock ≠ some wr.heap.size := fun e => by have := h.vhi _ e; omega
  refine ⟨⟨?_, hv', fun k hk => ?_, fun k hk => ?_, fun k hk => ?_, fun j k hj hk hne => ?_, fun k hk => ?_⟩, ?_⟩
  · rw [List.range_succ, List.map_append]
    simp only [List.map_cons, List.map_nil, hnew]
    rw [List.map_congr_left (g := fun k => Value.slice (some ⟨rb k, 0, none⟩) (len k) (len k)) fun k hk => by rw [hold k (List.mem_range.1 hk)]]
    exact hown
  · rcases hcase k hk with hk | rfl
    · rw [hold k hk]
      have h1 := h.hi k hk
      refine (h.row k hk).block (by have := x3.le; omega) ?_
      rw [hbl _ (by have := x3.le; omega) (h.far k hk), x3.block _ h1]
    · rw [hnew]
      exact (hn.block (by omega) (hbl _ hlt3 hvw)).congr fun i => (hf i).symm
  · rcases hcase k hk with hk | rfl
    · rw [hold k hk]; exact h.lo k hk
    · rw [hnew]; exact hw
  · rcases hcase k hk with hk | rfl
    · rw [hold k hk]; have := h.hi k hk; have := x3.le; omega
    · rw [hnew]; omega
  · rcases hcase j hj with hj | rfl <;> rcases hcase k hk with hk | rfl
    · rw [hold j hj, hold k hk]; exact h.inj j k hj hk hne
    · rw [hold j hj, hnew]; have := h.hi j hj; omega
    · rw [hold k hk, hnew]; have := h.hi k hk; omega
    · exact absurd rfl hne
  · intro e
    rcases hat with e' | e'
    · rcases hcase k hk with hk | rfl
      · rw [hold k hk] at e; exact h.far k hk (e' ▸ e)
      · rw [hnew] at e; exact hvw (e' ▸ e)
    · rw [e', Option.some.injEq] at e
      rcases hcase k hk with hk | rfl
      · rw [hold k hk] at e; have := h.hi k hk; have := x3.le; omega
      · rw [hnew] at e; omega
  · have b1 : Below wb w3 w5 := ((Below.refl wb w3).alloc (by have := x3.le; omega) _).grown hg (by rw [World.size_alloc]; have := x3.le; omega) (fun k e => by
      obtain ⟨_, ⟨hv, _⟩ | ⟨g', cap, cur, hv, hg', _⟩⟩ := h.own
      · subst hv; cases e
      · subst hv; simp [Value.ownBlock] at e; omega)
    exact (Below.mono x3 hw).trans b1
/-- the rows as they are read -/
theorem BoM.form {wb B n : Nat} {len : Nat → Nat} {v : Value} {rb : Nat → Nat} {f : Nat → Nat → Bool} {w : World} (h : BoM wb B n len v rb f w) (h0 : 0 < n) :
    ∃ g cap, v = .slice (some ⟨g, 0, none⟩) n cap ∧ wb ≤ g ∧ g < B ∧ n ≤ cap := by
  obtain ⟨h1, ⟨hv, hn⟩ | ⟨g, cap, cur, hv, hg, hh, hc, hm, hs, ht⟩⟩ := h.own
  · omega
  · exact ⟨g, cap, hv, hg, h.vhi g (by rw [hv]; rfl), hc⟩
theorem BoM.cell {wb B n g cap : Nat} {len : Nat → Nat} {rb : Nat → Nat} {f : Nat → Nat → Bool} {w : World} (h : BoM wb B n len (.slice (some ⟨g, 0, none⟩) n cap) rb f w) :
    g < w.heap.size ∧ ∀ k, k < n → w.cell? ⟨g, k, none⟩ = some (.slice (some ⟨rb k, 0, none⟩) (len k) (len k)) := by
  obtain ⟨h1, ⟨hv, hn⟩ | ⟨g', cap', cur, hv, hg, hh, hc, hm, hs, ht⟩⟩ := h.own
  · cases hv
  · simp only [Value.slice.injEq, Option.some.injEq, Addr.mk.injEq] at hv
    obtain ⟨⟨rfl, _⟩, _, rfl⟩ := hv
    have hb := Box.of hh
    refine ⟨hb.lt w (Ext.refl _), fun k hk => ?_⟩
    rw [hb.cell w (Ext.refl _)]
    have : cur[k]? = ((List.range n).map fun k => Value.slice (some ⟨rb k, 0, none⟩) (len k) (len k))[k]? := by rw [← ht, List.getElem?_take_of_lt (by omega)]; simp
    rw [this, List.getElem?_map, List.getElem?_range hk]; rfl
/-- one bool is set -/
theorem BoM.set {wb B n p i : Nat} {len : Nat → Nat} {v : Value} {rb : Nat → Nat} {f f' : Nat → Nat → Bool} {w : World} (h : BoM wb B n len v rb f w) (hp : p < n) (hi : i < len p) (hf : ∀ k j, f' k j = if k = p ∧ j = i then true else f k j) :
    BoM wb B n len v rb f' (w.setCell ⟨rb p, i, none⟩ (.bool true)) := by
  have hoth : ∀ g, g ≠ rb p → (w.setCell ⟨rb p, i, none⟩ (.bool true)).heap[g]? = w.heap[g]? := fun g hg => Below.heap_setCell _ _ _ _ hg
  refine ⟨ownsRow_same h.own fun g e => hoth g fun e' => h.far p hp (e' ▸ e), h.vhi, fun k hk => ?_, h.lo, h.hi, h.inj, h.far⟩
  by_cases e : k = p
  · subst e
    refine ⟨fun j hj => ?_, fun o => by rw [frozen_set]; exact (h.row k hk).fr o, by rw [World.size_setCell]; exact (h.row k hk).lt⟩
    rw [cell_set w (rb k) i j _ ((h.row k hk).c i hi), hf]
    by_cases ej : j = i
    · rw [if_pos ej, if_pos ⟨rfl, ej⟩]
    · rw [if_neg ej, if_neg (fun h => ej h.2)]; exact (h.row k hk).c j hj
  · refine ((h.row k hk).block (by rw [World.size_setCell]; exact Nat.le_refl _) (hoth _ (h.inj k p hk hp e))).congr fun j => ?_
    rw [hf, if_neg (fun h => e h.1)]
/-- the search in memory -/
structure BfW (T : TM) (w : World) (B : Nat) (v5 : Value) (rb : Nat → Nat) (S q : List NN) (v : Value) (wr : World) : Prop where
  h0 : Hold wr w.heap.size #[.slice (some ⟨T.b, T.off, none⟩) T.n T.cap]
  bo : BoM (w.heap.size + 1 + 1) B T.n (fun k => T.en k + 1) v5 rb (bfF S) wr
  qu : Que wr B 2 v q.length (evCells (q.map evI))
  bl : Ext w wr
  lo : w.heap.size + 1 + 1 ≤ B
  hi : B ≤ wr.heap.size
theorem BfW.ext {T : TM} {w : World} {B : Nat} {v5 : Value} {rb : Nat → Nat} {S q : List NN} {v : Value} {wr w' : World} (h : BfW T w B v5 rb S q v wr) (x : Ext wr w') : BfW T w B v5 rb S q v w' :=
  ⟨h.h0.ext x, h.bo.ext h.hi x, h.qu.ext x, h.bl.trans x, h.lo, Nat.le_trans h.hi x.le⟩
/-- the queue has grown -/
theorem BfW.grow {T : TM} {w : World} {B : Nat} {v5 : Value} {rb : Nat → Nat} {S q l : List NN} {v v' : Value} {wr w4 w5 : World} (h : BfW T w B v5 rb S q v wr) (x : Ext wr w4)
    (hq : Que w5 B 2 v' (q.length + l.length) (evCells (q.map evI) ++ evCells (l.map evI))) (hg : w4.grownBy w5 v.ownBlock) : BfW T w B v5 rb S (q ++ l) v' w5 := by
  have h4 := h.ext x
  have hb := h4.qu.block
  have hlo := h4.lo
  have hhi := h4.hi
  have hbl : ∀ k, k < B → w5.heap[k]? = w4.heap[k]? := fun k hk => hg.block k (by omega) (fun e => by have := hb k e.symm; omega)
  refine ⟨?_, h4.bo.same hg.size fun g _ hg => hbl g hg, ?_, ?_, hlo, Nat.le_trans hhi hg.size⟩
  · obtain ⟨t, h0⟩ := h4.h0
    exact ⟨t, (hbl _ (by omega)).trans h0⟩
  · rw [List.length_append, List.map_append, evCells_app]; exact hq
  · exact Below.trans h4.bl ⟨hg.os, hg.tape, hg.output, hg.size, fun k hk => hbl k (by omega)⟩
/-- an event is found -/
theorem BfW.set {T : TM} {w : World} {B : Nat} {v5 : Value} {rb : Nat → Nat} {S q : List NN} {v : Value} {wr : World} (h : BfW T w B v5 rb S q v wr) {p i : Nat} (hp : p < T.n) (hi : i < T.en p) :
    BfW T w B v5 rb ((p, i) :: S) q v (wr.setCell ⟨rb p, i + 1, none⟩ (.bool true)) := by
  have h1 := h.bo.lo p hp
  have h2 := h.bo.hi p hp
  exact ⟨h.h0.other _ _ (by show _ ≠ rb p; omega), h.bo.set hp (by show i + 1 < T.en p + 1; omega) (fun k j => bfF_cons S p i k j), h.qu.same (by rw [World.size_setCell]; exact Nat.le_refl _) (fun g hg _ => Below.heap_setCell _ _ _ _ (by show g ≠ rb p; omega)),
    h.bl.setCell (by show _ ≤ rb p; omega) _, h.lo, by rw [World.size_setCell]; exact h.hi⟩
/-- the answer, as it is read -/
structure BoAt (w : World) (g n : Nat) (len : Nat → Nat) (rb : Nat → Nat) (f : Nat → Nat → Bool) : Prop where
  lt : g < w.heap.size
  c0 : ∀ k, k < n → w.cell? ⟨g, k, none⟩ = some (.slice (some ⟨rb k, 0, none⟩) (len k) (len k))
  rl : ∀ k, k < n → rb k < w.heap.size
  c1 : ∀ k i, k < n → i < len k → w.cell? ⟨rb k, i, none⟩ = some (.bool (f k i))
theorem BoM.at {wb B n g cap : Nat} {len : Nat → Nat} {rb : Nat → Nat} {f : Nat → Nat → Bool} {w : World} (h : BoM wb B n len (.slice (some ⟨g, 0, none⟩) n cap) rb f w) : BoAt w g n len rb f :=
  ⟨h.cell.1, h.cell.2, fun k hk => (h.row k hk).lt, fun k i hk hi => (h.row k hk).c i hi⟩
theorem BoAt.ext {w w' : World} {g n : Nat} {len : Nat → Nat} {rb : Nat → Nat} {f : Nat → Nat → Bool} (h : BoAt w g n len rb f) (x : Ext w w') : BoAt w' g n len rb f :=
  ⟨Nat.lt_of_lt_of_le h.lt x.le, fun k hk => x.cell (h.c0 k hk), fun k hk => Nat.lt_of_lt_of_le (h.rl k hk) x.le, fun k i hk hi => x.cell (h.c1 k i hk hi)⟩
def RPastPost (T : TM) (x : NN) (w : World) (e : Ending) (w' : World) : Prop := Ext w w' ∧ ∃ g cap rb f, e = .returned (.slice (some ⟨g, 0, none⟩) T.n cap) ∧ T.n ≤ cap ∧ BoAt w' g T.n (fun k => T.en k + 1) rb f ∧ ∀ k i, (f k (i + 1) = true ↔ T.toTr.SP x (k, i))

end Go.Proofs.YtdplphoohnnbcaaGreatDoor
