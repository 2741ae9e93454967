/- Contracts: lamport.Step, lamport.sent. The stamps while they grow: a row of slices, each of the call's own. -/
import Derived.Test.YtdplphoohnnbcaaGreatDoorHg
namespace Go.Proofs.YtdplphoohnnbcaaGreatDoor
open Go.RowKit Go.Shelf

/-- what Step returns -/
def stepV (clock got : Int) : Value := if min clock got < 0 ∨ 1125899906842624 ≤ max clock got then .tuple #[.int .i64 0, .int .i64 2] else .tuple #[.int .i64 (max clock got + 1), .int .i64 0]
theorem stepV_bad {clock got : Int} (h : clock < 0 ∨ got < 0 ∨ 1125899906842624 ≤ clock ∨ 1125899906842624 ≤ got) : stepV clock got = .tuple #[.int .i64 0, .int .i64 2] := by
  unfold stepV; rw [if_pos (by omega)]
theorem stepV_ok {clock got n : Int} (h1 : 0 ≤ clock) (h2 : 0 ≤ got) (h3 : clock < 1125899906842624) (h4 : got < 1125899906842624) (hn : n = max clock got + 1) : stepV clock got = .tuple #[.int .i64 n, .int .i64 0] := by
  unfold stepV; rw [if_neg (by omega), hn]
/-- what sent returns -/
def sentV (M : Mx) (s : NN) : Value := if M.rn s.1 ≤ s.2 then .tuple #[.int .i64 0, .bool false] else .tuple #[.int .i64 (M.val s.1 s.2), .bool true]

end Go.Proofs.YtdplphoohnnbcaaGreatDoor

namespace Go.Proofs.YtdplphoohnnbcaaGreatDoor
open Go.RowKit Go.Shelf

def intCells (l : List Int) : List Value := l.map (Value.int .i64)
/-- a slice of the call's own holds these numbers -/
theorem intCells_one (l : List Int) : ∀ u ∈ intCells l, u.oneCell' = true := by
  intro u hu
  obtain ⟨x, _, rfl⟩ := List.mem_map.1 hu; rfl
def IntOwn (w : World) (base : Nat) (v : Value) (l : List Int) : Prop := w.ownsRow base 3 1 v l.length (intCells l)
def vAddr : Value → Option Addr | .slice a _ _ => a | _ => none
def vBlock : Value → Nat | .slice (some a) _ _ => a.block | _ => 0
def vCap : Value → Nat | .slice _ _ c => c | _ => 0
theorem IntOwn.nil (w : World) (base : Nat) : IntOwn w base (.slice none 0 0) [] := World.ownsRow_nil _ _ _ _
theorem IntOwn.form {w : World} {base : Nat} {v : Value} {l : List Int} (h : IntOwn w base v l) : v = .slice (vAddr v) l.length (vCap v) ∧ (0 < l.length → vAddr v = some ⟨vBlock v, 0, none⟩) ∧ l.length ≤ maxLen ∧ (0 < l.length → v.ownBlock = some (vBlock v)) ∧
    ∀ w', Ext w w' → ∀ i (h : i < l.length), w'.cell? ⟨vBlock v, i, none⟩ = some (.int .i64 l[i]) := by
  obtain ⟨h1, ⟨hv, hn⟩ | ⟨g, cap, cur, hv, hg, hh, hc, hm, hs, ht⟩⟩ := h
  · subst hv; exact ⟨by simp [vAddr, vCap, hn], fun h => by omega, by omega, fun h => by omega, fun w' _ i h => by omega⟩
  · subst hv
    refine ⟨by simp [vAddr, vCap], fun _ => rfl, by omega, fun _ => rfl, fun w' hx i hi => ?_⟩
    have hb := Box.of hh
    show w'.cell? ⟨g, i, none⟩ = _
    rw [hb.cell w' hx]
    have : cur[i]? = (intCells l)[i]? := by rw [← ht, List.getElem?_take_of_lt (by omega)]; simp
    rw [this]; simp [intCells, hi]
theorem IntOwn.block {w : World} {b : Nat} {v : Value} {l : List Int} (h : IntOwn w b v l) : ∀ k, v.ownBlock = some k → b ≤ k := by
  intro k hk
  obtain ⟨h1, ⟨hv, hn⟩ | ⟨g, cap, cur, hv, hg, rest⟩⟩ := h
  · subst hv; cases hk
  · subst hv; simp [Value.ownBlock] at hk; omega
theorem IntOwn.lt {w : World} {base : Nat} {v : Value} {l : List Int} (h : IntOwn w base v l) : ∀ g, v.ownBlock = some g → g < w.heap.size := by
  intro k hk
  obtain ⟨_, ⟨hv, _⟩ | ⟨g, cap, cur, hv, _, hh, _⟩⟩ := h
  · subst hv; cases hk
  · subst hv; simp [Value.ownBlock] at hk; subst hk; exact (Array.getElem?_eq_some_iff.1 hh).1
theorem IntOwn.same {w w' : World} {base : Nat} {v : Value} {l : List Int} (h : IntOwn w base v l) (hs : ∀ g, v.ownBlock = some g → w'.heap[g]? = w.heap[g]?) : IntOwn w' base v l := by
  obtain ⟨h1, ⟨hv, hn⟩ | ⟨g, cap, cur, hv, hg, hh, rest⟩⟩ := h
  · exact ⟨h1, .inl ⟨hv, hn⟩⟩
  · exact ⟨h1, .inr ⟨g, cap, cur, hv, hg, (hs g (by subst hv; rfl)).trans hh, rest⟩⟩
theorem IntOwn.kept {w w' : World} {base : Nat} {v : Value} {l : List Int} (h : IntOwn w base v l) (x : Ext w w') : IntOwn w' base v l := h.same fun g e => x.block g (h.lt g e)

/-- n rows: row k is the value vs k, of the call's own (from block base on), and holds rows k; the row of rows lies in block bS -/
structure StS (base bS n : Nat) (rows : Nat → List Int) (vs : Nat → Value) (w : World) : Prop where
  hn : n ≤ 100
  cell : ∀ k, k < n → w.cell? ⟨bS, k, none⟩ = some (vs k)
  froz : ∀ k, w.frozen? ⟨bS, k, none⟩ = false
  own : ∀ k, k < n → IntOwn w base (vs k) (rows k)
  apart : ∀ j k, j < n → k < n → j ≠ k → ∀ g, (vs j).ownBlock = some g → (vs k).ownBlock ≠ some g
  off : ∀ k, k < n → (vs k).ownBlock ≠ some bS
  len : ∀ k, k < n → (rows k).length ≤ 1000000
theorem StS.ext {base bS n : Nat} {rows : Nat → List Int} {vs : Nat → Value} {w w' : World} (h : StS base bS n rows vs w) (h0 : 0 < n) (x : Ext w w') : StS base bS n rows vs w' :=
  ⟨h.hn, fun k hk => x.cell (h.cell k hk), fun k => (x.frozen (p := ⟨bS, k, none⟩) (cell_lt (h.cell 0 h0) : bS < w.heap.size)).trans (h.froz k), fun k hk => (h.own k hk).kept x, h.apart, h.off, h.len⟩
/-- read as a list of lists -/
def stMM (bS n cap : Nat) (rows : Nat → List Int) (vs : Nat → Value) : MM :=
  { n := n, rn := fun k => (rows k).length, val := fun k i => (rows k).getD i 0, a := some ⟨bS, 0, none⟩, b := bS, off := 0, cap := cap, ra := fun k => vAddr (vs k), rb := fun k => vBlock (vs k), ro := fun _ => 0, rc := fun k => vCap (vs k) }
theorem StS.mm {base bS n cap : Nat} {rows : Nat → List Int} {vs : Nat → Value} {w : World} (h : StS base bS n rows vs w) : (stMM bS n cap rows vs).At w := by
  refine ⟨by have := h.hn; show n ≤ _; omega, fun _ => rfl, fun h0 w' x => Nat.lt_of_lt_of_le (cell_lt (h.cell 0 h0) : bS < w.heap.size) x.le, fun w' x k hk => ?_, fun k hk => by have := h.len k hk; show (rows k).length ≤ _; omega, fun k hk h0 => (h.own k hk).form.2.1 h0, fun k hk h0 w' x => ?_, fun w' x k i hk hi => ?_⟩
  · show w'.cell? ⟨bS, 0 + k, none⟩ = _
    rw [Nat.zero_add, x.cell (h.cell k hk)]; exact congrArg some (h.own k hk).form.1
  · exact Nat.lt_of_lt_of_le ((h.own k hk).lt _ ((h.own k hk).form.2.2.2.1 h0)) x.le
  · show w'.cell? ⟨vBlock (vs k), 0 + i, none⟩ = some (.int .i64 ((rows k).getD i 0))
    have hi' : i < (rows k).length := hi
    rw [Nat.zero_add, (h.own k hk).form.2.2.2.2 w' x i hi', List.getD_eq_getElem?_getD, List.getElem?_eq_getElem hi']; rfl

def updR (rows : Nat → List Int) (p : Nat) (l : List Int) : Nat → List Int := fun k => if k = p then l else rows k
def updV (vs : Nat → Value) (p : Nat) (v : Value) : Nat → Value := fun k => if k = p then v else vs k
/-- 'stamps[p] = append(stamps[p], x)' -/
theorem StS.push {base bS n p : Nat} {rows : Nat → List Int} {vs : Nat → Value} {w w' : World} {x : Int} {v' : Value} {c : Array Value} {t : TypeId} (h : StS base bS n rows vs w) (hp : p < n) (hb : base ≤ bS) (hbw : base ≤ w.heap.size) (hl : (rows p).length < 1000000)
    (hown : w'.ownsRow base 3 1 v' ((rows p).length + 1) (intCells (rows p) ++ [.int .i64 x])) (hg : (w.alloc (.cells c t)).grownBy w' (vs p).ownBlock) (hat : v'.ownBlock = (vs p).ownBlock ∨ v'.ownBlock = some (w.alloc (.cells c t)).heap.size) :
    StS base bS n (updR rows p (rows p ++ [x])) (updV vs p v') (w'.setCell ⟨bS, p, none⟩ v') ∧ Below base w (w'.setCell ⟨bS, p, none⟩ v') ∧ w'.cell? ⟨bS, p, none⟩ = some (vs p) ∧ w'.frozen? ⟨bS, p, none⟩ = false := by
  have hbl : bS < w.heap.size := cell_lt (h.cell p hp)
  have hbS : w'.heap[bS]? = w.heap[bS]? := by
    rw [hg.block bS (by rw [World.size_alloc]; omega) (fun e => h.off p hp e.symm), Below.heap_alloc _ _ _ hbl]
  have hc : ∀ k, w'.cell? ⟨bS, k, none⟩ = w.cell? ⟨bS, k, none⟩ := fun k => World.cell?_of_block (w := w) (a := ⟨bS, k, none⟩) hbS
  have hf : ∀ k, w'.frozen? ⟨bS, k, none⟩ = w.frozen? ⟨bS, k, none⟩ := fun k => World.frozen?_of_block (w := w) (a := ⟨bS, k, none⟩) hbS
  have hcp := (hc p).trans (h.cell p hp)
  have hset := fun k => cell_set w' bS p k v' hcp
  have hv'ne : v'.ownBlock ≠ some bS := by
    intro e
    rcases hat with e' | e'
    · exact h.off p hp (e' ▸ e)
    · rw [e'] at e; simp at e; omega
  have hoth : ∀ g, g ≠ bS → (w'.setCell ⟨bS, p, none⟩ v').heap[g]? = w'.heap[g]? := fun g hg => Below.heap_setCell _ _ _ _ hg
  have hnew : IntOwn w' base v' (rows p ++ [x]) := by
    unfold IntOwn intCells; rw [List.map_append, List.length_append]; exact hown
  refine ⟨⟨h.hn, fun k hk => ?_, fun k => by rw [frozen_set, hf]; exact h.froz k, fun k hk => ?_, fun j k hj hk hne g e => ?_, fun k hk => ?_, fun k hk => ?_⟩, ?_, hcp, (hf p).trans (h.froz p)⟩
  · rw [hset k]
    by_cases e : k = p
    · simp [updV, e]
    · simp only [updV, e, if_false]; exact (hc k).trans (h.cell k hk)
  · by_cases e : k = p
    · subst e; simp only [updV, updR, if_true]
      exact hnew.same fun g e => hoth g (fun e' => hv'ne (e' ▸ e))
    · simp only [updV, updR, e, if_false]
      refine (h.own k hk).same fun g eg => ?_
      have hlt := (h.own k hk).lt g eg
      rw [hoth g (fun e' => h.off k hk (e' ▸ eg)), hg.block g (by rw [World.size_alloc]; omega) (fun e' => h.apart k p hk hp e g eg e'.symm), Below.heap_alloc _ _ _ hlt]
  · by_cases ej : j = p
    · have ek : ¬ k = p := fun h => hne (ej.trans h.symm)
      simp only [updV, ej, if_true] at e
      simp only [updV, ek, if_false]
      intro e2
      rcases hat with e' | e'
      · exact h.apart p k hp hk (fun h => ek h.symm) g (e' ▸ e) e2
      · rw [e'] at e; have := (h.own k hk).lt g e2; simp at e; omega
    · simp only [updV, ej, if_false] at e
      by_cases ek : k = p
      · simp only [updV, ek, if_true]
        intro e2
        rcases hat with e' | e'
        · exact h.apart j p hj hp ej g e (e' ▸ e2)
        · rw [e'] at e2; have := (h.own j hj).lt g e; simp at e2; omega
      · simp only [updV, ek, if_false]; exact h.apart j k hj hk hne g e
  · by_cases e : k = p
    · simp only [updV, e, if_true]; exact hv'ne
    · simp only [updV, e, if_false]; exact h.off k hk
  · by_cases e : k = p
    · simp only [updR, e, if_true, List.length_append, List.length_cons, List.length_nil]; omega
    · simp only [updR, e, if_false]; exact h.len k hk
  · have b1 : Below base w w' := ((Below.refl base w).alloc hbw _).grown hg (by rw [World.size_alloc]; omega) (h.own p hp).block
    exact b1.setCell hb _

end Go.Proofs.YtdplphoohnnbcaaGreatDoor
