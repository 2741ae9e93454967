/- For trace.cyclic: the state of the search in memory, and its steps. -/
import Derived.Test.YtecgigeeolindaaEv
import Derived.Test.YtecgigeeolindaaDfs
import Derived.Maps.OwnIn
namespace Go.Proofs.Ytecgigeeolindaa
open Go.RowKit Go.Shelf

abbrev evI (x : NN) : Int × Int := ((x.1 : Int), (x.2 : Int) + 1)
theorem evI_inj {x y : NN} (h : evI x = evI y) : x = y := by
  simp only [evI, Prod.mk.injEq] at h
  exact Prod.ext (by omega) (by omega)
theorem evI_mem {x : NN} {S : List NN} : evI x ∈ S.map evI ↔ x ∈ S := by
  constructor
  · intro h; obtain ⟨y, hy, e⟩ := List.mem_map.1 h; rw [← evI_inj e]; exact hy
  · intro h; exact List.mem_map.2 ⟨x, h, rfl⟩

theorem SetAt.ext {w w' : World} {b : Nat} {S : List (Int × Int)} (h : SetAt w b S) (x : Ext w w') : SetAt w' b S := by
  obtain ⟨es, c, hb, he⟩ := h
  exact ⟨es, c, (x.block b (Array.getElem?_eq_some_iff.1 hb).1).trans hb, he⟩
theorem SetAt.lt {w : World} {b : Nat} {S : List (Int × Int)} (h : SetAt w b S) : b < w.heap.size := by
  obtain ⟨es, c, hb, he⟩ := h; exact (Array.getElem?_eq_some_iff.1 hb).1
theorem SetAt.new (w : World) : SetAt (w.alloc (.map #[] 0)) w.heap.size [] := ⟨#[], 0, by show (w.heap.push _)[w.heap.size]? = _; simp, rfl⟩
/-- a row of cells is no map -/
theorem EvOwn.not_map {w : World} {base : Nat} {v : Value} {l : List (Int × Int)} {b : Nat} {S : List (Int × Int)} (h : EvOwn w base v l) (hs : SetAt w b S) : v.ownBlock ≠ some b := by
  intro e
  obtain ⟨es, c, hb, _⟩ := hs
  obtain ⟨_, ⟨hv, _⟩ | ⟨g, cap, cur, hv, _, hh, _⟩⟩ := h
  · subst hv; cases e
  · subst hv; simp [Value.ownBlock] at e; subst e; rw [hb] at hh; cases hh
theorem EvOwn.lt {w : World} {base : Nat} {v : Value} {l : List (Int × Int)} (h : EvOwn w base v l) : ∀ g, v.ownBlock = some g → g < w.heap.size := by
  intro k hk
  obtain ⟨_, ⟨hv, _⟩ | ⟨g, cap, cur, hv, _, hh, _⟩⟩ := h
  · subst hv; cases hk
  · subst hv; simp [Value.ownBlock] at hk; subst hk; exact (Array.getElem?_eq_some_iff.1 hh).1
/-- what is not turned stays -/
theorem EvOwn.same {w w' : World} {base : Nat} {v : Value} {l : List (Int × Int)} (h : EvOwn w base v l) (hs : ∀ g, v.ownBlock = some g → w'.heap[g]? = w.heap[g]?) : EvOwn w' base v l := by
  obtain ⟨h1, ⟨hv, hn⟩ | ⟨g, cap, cur, hv, hg, hh, rest⟩⟩ := h
  · exact ⟨h1, .inl ⟨hv, hn⟩⟩
  · exact ⟨h1, .inr ⟨g, cap, cur, hv, hg, (hs g (by subst hv; rfl)).trans hh, rest⟩⟩
/-- 'rest[:len(rest)-1]' -/
theorem EvOwn.pop {w : World} {base g cap : Nat} {l : List (Int × Int)} {x : Int × Int} (h : EvOwn w base (.slice (some ⟨g, 0, none⟩) (l.length + 1) cap) (l ++ [x])) : EvOwn w base (.slice (some ⟨g, 0, none⟩) l.length cap) l := by
  obtain ⟨h1, ⟨hv, hn⟩ | ⟨g', cap', cur, hv, hg, hh, hc, hm, hs, ht⟩⟩ := h
  · simp at hn
  · simp at hv
    obtain ⟨rfl, rfl⟩ := hv
    refine ⟨evCells_length l, .inr ⟨g, cap, cur, rfl, hg, hh, by simp at hc; omega, hm, hs, ?_⟩⟩
    have : cur.toList.take (l.length * 2) = (cur.toList.take ((l ++ [x]).length * 2)).take (l.length * 2) := by
      rw [List.take_take]; congr 1; simp
    rw [this, ht, evCells_snoc, List.take_append_of_le_length (by rw [evCells_length]; exact Nat.le_refl _), List.take_of_length_le (by rw [evCells_length]; exact Nat.le_refl _)]

theorem EvOwn.len {w : World} {base : Nat} {v : Value} {l : List (Int × Int)} (h : EvOwn w base v l) : l.length ≤ maxLen := by
  obtain ⟨h1, ⟨hv, hn⟩ | ⟨g', cap', cur, hv, hg, hh, hc, hm, _⟩⟩ := h
  · omega
  · omega
/-- the search from s, in memory: W0: where it began; bm: the map; v: the stack -/
structure CycS (R : NN → List NN) (V : NN → Prop) (s : NN) (W0 : World) (bm : Nat) (S rest : List NN) (x : NN) (todo : List NN) (v : Value) (w : World) : Prop where
  ext : Ext W0 w
  own : EvOwn w W0.heap.size v (rest.map evI)
  set : SetAt w bm (S.map evI)
  hbm : W0.heap.size ≤ bm
  dfs : Dfs R V s S rest x todo
section
variable {R : NN → List NN} {V : NN → Prop} {s : NN} {W0 : World} {bm : Nat} {S rest : List NN} {x : NN} {todo : List NN} {v : Value} {w : World}
theorem CycS.kept {w' : World} (h : CycS R V s W0 bm S rest x todo v w) (e : Ext w w') : CycS R V s W0 bm S rest x todo v w' :=
  ⟨h.ext.trans e, h.own.kept e, h.set.ext e, h.hbm, h.dfs⟩
theorem CycS.skip {y : NN} (h : CycS R V s W0 bm S rest x (y :: todo) v w) (hy : y ∈ S) : CycS R V s W0 bm S rest x todo v w := ⟨h.ext, h.own, h.set, h.hbm, h.dfs.skip hy⟩
/-- an event was new: it is marked and laid on the stack -/
theorem CycS.push {y : NN} {v2 v' : Value} {l2 : List (Int × Int)} {base2 : Nat} {o : Obj} {w' : World} {c : Array Value} {t : TypeId}
    (h : CycS R V s W0 bm S rest x (y :: todo) v w) (h2 : EvOwn w base2 v2 l2) (hap : ∀ g, v.ownBlock = some g → v2.ownBlock ≠ some g)
    (hy : y ∉ S) (hys : y ≠ s) (hv : V y) (hset : SetAt (w.putObj bm o) bm (S.map evI ++ [evI y]))
    (hown : w'.ownsRow W0.heap.size 31 2 v' ((rest.map evI).length + 1) (evCells (rest.map evI) ++ [.int .i64 (evI y).1, .int .i64 (evI y).2]))
    (hg : ((w.putObj bm o).alloc (.cells c t)).grownBy w' v.ownBlock) (hat : v'.ownBlock = v.ownBlock ∨ v'.ownBlock = some ((w.putObj bm o).alloc (.cells c t)).heap.size) :
    CycS R V s W0 bm (S ++ [y]) (rest ++ [y]) x todo v' w' ∧ EvOwn w' base2 v2 l2 ∧ ∀ g, v'.ownBlock = some g → v2.ownBlock ≠ some g := by
  have hbl : bm < w.heap.size := h.set.lt
  have hps : (w.putObj bm o).heap.size = w.heap.size := by simp
  have hne := h.own.not_map h.set
  have hput : ∀ k, k ≠ bm → (w.putObj bm o).heap[k]? = w.heap[k]? := fun k hk => World.putObj_heap_other hk
  refine ⟨⟨?_, ?_, ?_, h.hbm, h.dfs.push hy hys hv⟩, ?_, ?_⟩
  · have e1 : Below W0.heap.size W0 (w.putObj bm o) := h.ext.below.trans ⟨rfl, rfl, rfl, by rw [hps]; exact Nat.le_refl _, fun k hk => hput k (by have := h.hbm; omega)⟩
    exact (e1.alloc (by rw [hps]; exact h.ext.le) _).grown hg (by rw [World.size_alloc, hps]; have := h.ext.le; omega) h.own.block
  · rw [List.map_append]; exact EvOwn.snoc hown
  · rw [List.map_append]
    obtain ⟨es, cl, hb, he⟩ := hset
    refine ⟨es, cl, ?_, he⟩
    rw [hg.block bm (by rw [World.size_alloc, hps]; omega) (fun e => hne e.symm), Below.heap_alloc _ _ _ (by rw [hps]; exact hbl)]
    exact hb
  · refine h2.same fun g e => ?_
    have hlt := h2.lt g e
    rw [hg.block g (by rw [World.size_alloc, hps]; omega) (fun e' => hap g e'.symm e), Below.heap_alloc _ _ _ (by rw [hps]; exact hlt), hput g (fun e' => h2.not_map h.set (e' ▸ e))]
  · intro g e e2
    rcases hat with e' | e'
    · exact hap g (e' ▸ e) e2
    · rw [e'] at e
      have := h2.lt g e2
      simp [hps] at e; omega
end

end Go.Proofs.Ytecgigeeolindaa
