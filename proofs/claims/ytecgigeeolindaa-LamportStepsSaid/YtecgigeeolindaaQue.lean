/- A slice that the call made, wherever it begins in its block ('queue = queue[1:]'), and append of many elements onto it. Nothing of the program. -/
import Derived.Deep.AppendSrc
import Derived.Deep.Upon
import Derived.Test.YtecgigeeolindaaMem
namespace Go.Proofs.Ytecgigeeolindaa
open Go.RowKit

/-- n elements, the cells xs; all that may be written lies from block base on -/
structure Que (w : World) (base size : Nat) (v : Value) (n : Nat) (xs : List Value) : Prop where
  len : xs.length = n * size
  val : (∃ ao, v = .slice ao 0 0 ∧ n = 0 ∧ ∀ a, ao = some a → base ≤ a.block) ∨ ∃ g off cap, v = .slice (some ⟨g, off, none⟩) n cap ∧ base ≤ g ∧ g < w.heap.size ∧ n ≤ cap ∧ cap ≤ maxLen ∧
    (∀ j, j < n * size → w.cell? ⟨g, off + j, none⟩ = xs[j]?) ∧ ∀ j, j < cap * size → (w.cell? ⟨g, off + j, none⟩).isSome = true ∧ w.frozen? ⟨g, off + j, none⟩ = false
theorem Que.same {w w' : World} {base size : Nat} {v : Value} {n : Nat} {xs : List Value} (h : Que w base size v n xs) (hs : w.heap.size ≤ w'.heap.size) (hb : ∀ g, base ≤ g → g < w.heap.size → w'.heap[g]? = w.heap[g]?) : Que w' base size v n xs := by
  refine ⟨h.len, ?_⟩
  rcases h.val with hv | ⟨g, off, cap, hv, h1, h2, h3, h4, h5, h6⟩
  · exact .inl hv
  · have e := hb g h1 h2
    refine .inr ⟨g, off, cap, hv, h1, by omega, h3, h4, fun j hj => ?_, fun j hj => ?_⟩
    · exact (World.cell?_of_block (w := w) (a := ⟨g, off + j, none⟩) e).trans (h5 j hj)
    · rw [World.cell?_of_block (w := w) (a := ⟨g, off + j, none⟩) e, World.frozen?_of_block (w := w) (a := ⟨g, off + j, none⟩) e]
      exact h6 j hj
theorem Que.ext {w w' : World} {base size : Nat} {v : Value} {n : Nat} {xs : List Value} (h : Que w base size v n xs) (x : Ext w w') : Que w' base size v n xs :=
  h.same x.le fun g _ hg => x.block g hg
theorem Que.mono {w : World} {base base' size : Nat} {v : Value} {n : Nat} {xs : List Value} (h : Que w base size v n xs) (hb : base' ≤ base) : Que w base' size v n xs := by
  refine ⟨h.len, ?_⟩
  rcases h.val with ⟨ao, hv, hn, ha⟩ | ⟨g, off, cap, hv, h1, h2⟩
  · exact .inl ⟨ao, hv, hn, fun a e => Nat.le_trans hb (ha a e)⟩
  · exact .inr ⟨g, off, cap, hv, by omega, h2⟩
theorem Que.block {w : World} {base size : Nat} {v : Value} {n : Nat} {xs : List Value} (h : Que w base size v n xs) : ∀ k, v.ownBlock = some k → base ≤ k := by
  intro k hk
  rcases h.val with ⟨ao, rfl, hn, ha⟩ | ⟨g, off, cap, rfl, h1, h2⟩
  · cases ao with
    | none => cases hk
    | some a => cases hk; exact ha a rfl
  · cases hk; exact h1
theorem Que.same' {w w' : World} {base size : Nat} {v : Value} {n : Nat} {xs : List Value} (h : Que w base size v n xs) (hs : w.heap.size ≤ w'.heap.size) (hb : ∀ g, v.ownBlock = some g → w'.heap[g]? = w.heap[g]?) : Que w' base size v n xs := by
  refine ⟨h.len, ?_⟩
  rcases h.val with hv | ⟨g, off, cap, hv, h1, h2, h3, h4, h5, h6⟩
  · exact .inl hv
  · have e := hb g (by rw [hv]; rfl)
    refine .inr ⟨g, off, cap, hv, h1, by omega, h3, h4, fun j hj => ?_, fun j hj => ?_⟩
    · exact (World.cell?_of_block (w := w) (a := ⟨g, off + j, none⟩) e).trans (h5 j hj)
    · rw [World.cell?_of_block (w := w) (a := ⟨g, off + j, none⟩) e, World.frozen?_of_block (w := w) (a := ⟨g, off + j, none⟩) e]
      exact h6 j hj
/-- what is appended, out of a slice that a call has made -/
theorem Que.src {P : Program} {w : World} {base size : Nat} {v : Value} {n : Nat} {xs : List Value} (h : Que w base size v n xs) {tx e' : TypeId} (hk : P.underlying tx = some (.slice e')) (h1 : ∀ u ∈ xs, u.oneCell' = true) : Src P size tx v n xs w := by
  rcases h.val with ⟨ao, rfl, rfl, ha⟩ | ⟨g, off, cap, rfl, _, _, _, _, h5, h6⟩
  · obtain rfl : xs = [] := List.eq_nil_of_length_eq_zero (by simpa using h.len)
    cases ao with
    | none => exact Src.ofNil w hk 0
    | some a => exact Src.ofSlice w hk a 0 0 [] (by simp) (by intro _ _ h'; simp at h') h1
  · refine Src.ofSlice w hk ⟨g, off, none⟩ n cap xs h.len (fun j u hu => ?_) h1
    have hj := (List.getElem?_eq_some_iff.1 hu).1
    rw [h.len] at hj
    rw [Addr.add_lit]; exact (h5 j hj).trans hu
theorem Que.nil (w : World) (base size : Nat) : Que w base size (.slice none 0 0) 0 [] := ⟨by simp, .inl ⟨_, rfl, rfl, fun a e => by cases e⟩⟩
theorem Que.own {w : World} {base : Nat} {e : TypeId} {size : Nat} {v : Value} {n : Nat} {xs : List Value} (h : w.ownsRow base e size v n xs) : Que w base size v n xs := by
  obtain ⟨h1, ⟨hv, hn⟩ | ⟨g, cap, cur, hv, hg, hh, hc, hm, hs, ht⟩⟩ := h
  · exact ⟨h1, .inl ⟨none, hv, hn, fun a e => by cases e⟩⟩
  · have hb := Box.of hh
    refine ⟨h1, .inr ⟨g, 0, cap, hv, hg, (Array.getElem?_eq_some_iff.1 hh).1, hc, hm, fun j hj => ?_, fun j hj => ⟨?_, ?_⟩⟩⟩
    · rw [hb.cell w (Ext.refl _), Nat.zero_add, ← ht, List.getElem?_take_of_lt hj]; simp
    · rw [hb.cell w (Ext.refl _), Nat.zero_add, Array.getElem?_eq_getElem (by rw [hs]; exact hj)]; rfl
    · exact hb.frozen w (Ext.refl _) _
/-- 'q[1:]' -/
theorem Que.tail {w : World} {base size : Nat} {v : Value} {n : Nat} {xs : List Value} (h : Que w base size v (n + 1) xs) :
    ∃ g off cap, v = .slice (some ⟨g, off, none⟩) (n + 1) cap ∧ base ≤ g ∧ g < w.heap.size ∧ n + 1 ≤ cap ∧ cap ≤ maxLen ∧ (∀ j, j < (n + 1) * size → w.cell? ⟨g, off + j, none⟩ = xs[j]?) ∧
      Que w base size (.slice (if cap = 1 then some ⟨g, off, none⟩ else some ⟨g, off + size, none⟩) n (cap - 1)) n (xs.drop size) := by
  rcases h.val with ⟨_, _, hv, _⟩ | ⟨g, off, cap, hv, h1, h2, h3, h4, h5, h6⟩
  · cases hv
  · refine ⟨g, off, cap, hv, h1, h2, h3, h4, h5, ?_, ?_⟩
    · rw [List.length_drop, h.len, Nat.add_mul]; omega
    · by_cases hc : cap = 1
      · subst hc
        obtain rfl : n = 0 := by omega
        exact .inl ⟨_, rfl, rfl, fun a e => by rw [if_pos rfl] at e; cases e; exact h1⟩
      · rw [if_neg hc]
        refine .inr ⟨g, off + size, cap - 1, rfl, h1, h2, by omega, by omega, fun j hj => ?_, fun j hj => ?_⟩
        · rw [Nat.add_assoc, h5 (size + j) (by rw [Nat.add_mul]; omega), List.getElem?_drop]
        · rw [Nat.add_assoc]
          have : size + j < cap * size := by
            obtain ⟨c, rfl⟩ : ∃ c, cap = c + 1 := ⟨cap - 1, by omega⟩
            rw [Nat.add_mul]; simp at hj; omega
          exact h6 _ this
theorem tape_setCells (b : Nat) : ∀ (vs : List Value) (o : Nat) (w : World), (w.setCells b o vs).tape = w.tape ∧ (w.setCells b o vs).heap.size = w.heap.size
  | [], _, _ => ⟨rfl, rfl⟩
  | v :: vs, o, w => by
    have := tape_setCells b vs (o + 1) (w.setCell ⟨b, o, none⟩ v)
    exact ⟨this.1, this.2.trans (World.size_setCell _ _ _)⟩
section
variable {P : Program}
theorem run_append_que {w : World} {base : Nat} (t tx ty e : TypeId) (i : TypeInfo) (z : Value) (size bytes : Nat) (ht : P.underlying t = some (.slice e)) (hi : P.info? e = some i) (hz : i.zero = some z) (hsize : i.size = size) (hby : i.bytes = bytes) (hzs : z.cells.size = size)
    {v : Value} {n : Nat} {xs : List Value} (h : Que w base size v n xs) (hb : base ≤ w.heap.size)
    (x : Value) (m : Nat) (news : List Value) (hs : Src P size tx x m news w) (h63 : n + m ≤ maxLen) (hbytes : (n + m) * bytes ≤ 140737488355328) :
    ∃ v' w', (Builtin.append_ #[t, tx] ty #[v, x]).run P w = .ok v' w' ∧ Que w' base size v' (n + m) (xs ++ news) ∧ w.grownBy w' v.ownBlock ∧ (v'.ownBlock = v.ownBlock ∨ v'.ownBlock = some w.heap.size) := by
  subst hsize hby
  have hnl := hs.newsLen
  have hxl := h.len
  have hL : (xs ++ news).length = (n + m) * i.size := by rw [List.length_append, hxl, hnl, Nat.add_mul]
  have hsmall : n + m ≤ 9223372036854775807 := by simp only [maxLen] at h63; omega
  have grow : ∀ (bs : Option Addr) (sc : Nat), v = .slice bs n sc → sc < n + m →
      (Builtin.firstCells i.size n (.slice bs n sc)).run P w.drew = .ok xs.toArray w.drew →
      ∃ v' w', (Builtin.append_ #[t, tx] ty #[v, x]).run P w = .ok v' w' ∧ Que w' base i.size v' (n + m) (xs ++ news) ∧ w.grownBy w' v.ownBlock ∧ (v'.ownBlock = v.ownBlock ∨ v'.ownBlock = some w.heap.size) := by
    rintro bs sc rfl hg hold
    have hrun := run_append_grow_src (P := P) w t tx ty e i z ht hi hz bs n sc xs hold x m news hs hg (by omega) (growslice_fits hg hbytes)
    have hge := grownCap_ge w (n + m) sc e
    have hcm := grownCap_le_maxLen w (n + m) sc e h63
    refine ⟨_, _, hrun, ⟨hL, .inr ⟨w.heap.size, 0, _, rfl, hb, ?_, hge, hcm, fun j hj => ?_, fun j hj => ⟨?_, ?_⟩⟩⟩, ⟨rfl, rfl, rfl, by rw [World.size_alloc]; exact Nat.le_succ _, fun k hk _ => Below.heap_alloc w.drew _ k hk⟩, .inr rfl⟩
    · rw [World.size_alloc]; exact Nat.lt_succ_self _
    · have e1 : (w.drew.alloc (.cells ((xs ++ news).toArray ++ Builtin.zeroCells z.cells (grownCap w (n + m) sc e - (n + m))) e)).cell? ⟨w.heap.size, j, none⟩ = _ := World.cell?_alloc_new w.drew _ _ j
      rw [Nat.zero_add, e1, Array.getElem?_append_left (by simp only [List.size_toArray]; rw [hL]; exact hj), List.getElem?_toArray]
    · have e1 : (w.drew.alloc (.cells ((xs ++ news).toArray ++ Builtin.zeroCells z.cells (grownCap w (n + m) sc e - (n + m))) e)).cell? ⟨w.heap.size, j, none⟩ = _ := World.cell?_alloc_new w.drew _ _ j
      rw [Nat.zero_add, e1]
      have hsz : ((xs ++ news).toArray ++ Builtin.zeroCells z.cells (grownCap w (n + m) sc e - (n + m))).size = grownCap w (n + m) sc e * i.size := by
        rw [Array.size_append, List.size_toArray, hL, size_zeroCells, hzs, ← Nat.add_mul]
        congr 1
        omega
      rw [Array.getElem?_eq_getElem (by rw [hsz]; exact hj)]
      rfl
    · rw [Nat.zero_add]; exact World.frozen?_alloc_new w.drew _ _ j
  rcases h.val with ⟨ao, rfl, rfl, hao⟩ | ⟨g, off, cap, rfl, h1, h2, h3, h4, h5, h6⟩
  · obtain rfl : xs = [] := List.eq_nil_of_length_eq_zero (by simpa using hxl)
    by_cases hm : m = 0
    · subst hm
      obtain rfl : news = [] := List.eq_nil_of_length_eq_zero (by simpa using hnl)
      exact ⟨_, _, run_append_nothing (P := P) w t tx ty e i ht hi ao 0 0 (Nat.le_refl _) x hs, by simpa using h, World.grownBy.refl _ _, .inl rfl⟩
    · refine grow ao 0 rfl (by omega) ?_
      cases ao with
      | none => exact run_firstCells_none w.drew i.size 0 0 0
      | some a' => exact run_firstCells_some w.drew i.size 0 a' 0 0 [] (by simp) (by intro _ _ h'; simp at h')
  · by_cases hfit : n + m ≤ cap
    · have hrc : (n + m) * i.size ≤ cap * i.size := Nat.mul_le_mul_right _ hfit
      rw [Nat.add_mul] at hrc
      have hsome : ∀ j, j < news.length → (w.cell? ⟨g, off + n * i.size + j, none⟩).isSome = true := fun j hj => by rw [Nat.add_assoc]; exact (h6 _ (by omega)).1
      have hrun := run_append_room_src (P := P) w t tx ty e i ht hi g off n cap x m news hs hfit hsome (fun j hj => by rw [Nat.add_assoc]; exact (h6 _ (by omega)).2)
      have hts := tape_setCells g news (off + n * i.size) w
      refine ⟨_, _, hrun, ⟨hL, .inr ⟨g, off, cap, rfl, h1, by rw [hts.2]; exact h2, hfit, h4, fun j hj => ?_, fun j hj => ⟨?_, (World.frozen?_setCells g _ _ _ _).trans (h6 j hj).2⟩⟩⟩, ⟨World.os_setCells _ _ _ _, hts.1, World.output_setCells _ _ _ _, Nat.le_of_eq hts.2.symm, fun k hk hne => World.heap_setCells_other w g _ news hk (fun e => hne (by rw [e]; rfl))⟩, .inl rfl⟩
      · rw [Nat.add_mul] at hj
        by_cases hjo : j < n * i.size
        · rw [World.cell?_setCells_out g _ _ _ _ (fun _ _ => Or.inl (by show off + j < off + n * i.size; omega)), List.getElem?_append_left (by omega)]
          exact h5 j hjo
        · have ht' : j - n * i.size < news.length := by omega
          have := World.cell?_setCells_in g news (off + n * i.size) w hsome (j - n * i.size) ht'
          rw [show off + n * i.size + (j - n * i.size) = off + j by omega] at this
          rw [this, List.getElem?_append_right (by omega), hxl, List.getElem?_eq_getElem ht']
      · by_cases hin : n * i.size ≤ j ∧ j < n * i.size + news.length
        · have := World.cell?_setCells_in g news (off + n * i.size) w hsome (j - n * i.size) (by omega)
          rw [show off + n * i.size + (j - n * i.size) = off + j by omega] at this
          rw [this]; rfl
        · rw [World.cell?_setCells_out g _ _ _ _ (fun _ _ => by show off + j < off + n * i.size ∨ off + n * i.size + news.length ≤ off + j; omega)]
          exact (h6 j hj).1
    · refine grow (some ⟨g, off, none⟩) cap rfl (by omega) ?_
      refine run_firstCells_some w.drew i.size n ⟨g, off, none⟩ n cap xs hxl (fun j u hu => ?_)
      rw [Addr.add_lit]
      have hj : j < n * i.size := by
        have := (List.getElem?_eq_some_iff.1 hu).1
        omega
      exact (h5 j hj).trans hu
theorem wpList_append_que (w : World) {ops : Array Oper} {rest : List Oper} {o : Oper} {a : Act} {Q : Exit → Act → World → Prop} (hgd : o.guard = none) (s x : Operand) (t tx : TypeId)
    (ho : o.op = .call { callee := .builtin .append, args := #[s, x], argTypes := #[t, tx] })
    {base : Nat} {e : TypeId} {size : Nat} (i : TypeInfo) (z : Value) (bytes : Nat) (ht : P.underlying t = some (.slice e)) (hi : P.info? e = some i) (hz : i.zero = some z) (hsize : i.size = size) (hby : i.bytes = bytes) (hzs : z.cells.size = size)
    {v : Value} {n : Nat} {xs : List Value} (hv : a.eval s = v) (h : Que w base size v n xs) (hb : base ≤ w.heap.size)
    (xv : Value) (m : Nat) (news : List Value) (hx : a.eval x = xv) (hs : Src P size tx xv m news w) (h63 : n + m ≤ maxLen) (hbytes : (n + m) * bytes ≤ 140737488355328)
    (hK : ∀ v' w', Que w' base size v' (n + m) (xs ++ news) → w.grownBy w' v.ownBlock → (v'.ownBlock = v.ownBlock ∨ v'.ownBlock = some w.heap.size) → wpList P ops Q rest (a.put o.dst v') w') : wpList P ops Q (o :: rest) a w := by
  refine wpList_plain hgd fun K hK' => ?_
  obtain ⟨v', w', hrun, r1, r2, r3⟩ := run_append_que (P := P) t tx o.type e i z size bytes ht hi hz hsize hby hzs h hb xv m news hs h63 hbytes
  unfold Oper.wp
  simp [execOp, ho, resolve, invoke, builtin, hv, hx, hrun, Result.andThen]
  exact hK' _ _ (hK v' w' r1 r2 r3)
end
end Go.Proofs.Ytecgigeeolindaa
