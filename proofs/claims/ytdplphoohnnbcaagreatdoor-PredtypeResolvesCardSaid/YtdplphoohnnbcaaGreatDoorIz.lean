/- Contract of antecederef28.resolve: nodes without names; all nodes. Contract of antecederef28.Resolve. -/
import Derived.Test.YtdplphoohnnbcaaGreatDoorIy
import Derived.Test.YtdplphoohnnbcaaGreatDoorIx
import Derived.Test.YtdplphoohnnbcaaGreatDoorIu
namespace Go.Proofs.YtdplphoohnnbcaaGreatDoor
open Go.RowKit Go.Shelf

/-- the cells of a list of nodes -/
def prCells (l : List Pr) : List Value := l.flatMap fun q => [cellOf q 0, cellOf q 1, cellOf q 2, cellOf q 3, cellOf q 4, cellOf q 5]
theorem prCells_snoc (l : List Pr) (x : Pr) : prCells (l ++ [x]) = prCells l ++ [cellOf x 0, cellOf x 1, cellOf x 2, cellOf x 3, cellOf x 4, cellOf x 5] := by simp [prCells]
theorem prCells_get : ∀ (l : List Pr) (i : Nat), i < l.length → ∀ c, c < 6 → (prCells l)[i * 6 + c]? = some (cellOf (l.getD i .nil) c)
  | [], i, h, _, _ => by simp at h
  | x :: l, 0, _, c, hc => by
    have : c = 0 ∨ c = 1 ∨ c = 2 ∨ c = 3 ∨ c = 4 ∨ c = 5 := by omega
    rcases this with rfl | rfl | rfl | rfl | rfl | rfl <;> rfl
  | x :: l, i + 1, h, c, hc => by
    have := prCells_get l i (by simpa using h) c hc
    have e : (i + 1) * 6 + c = i * 6 + c + 1 + 1 + 1 + 1 + 1 + 1 := by omega
    rw [e]
    exact this
/-- no node of the tree has its parts in block g -/
def Pr.Off (p : Pr) (g : Nat) : Prop := p.All fun q => 0 < q.len → q.b ≠ g
theorem Pr.HeldFrom.off_ge {p : Pr} {B g : Nat} {w : World} (h : p.HeldFrom B w) (hg : w.heap.size ≤ g) : p.Off g :=
  Pr.All.mono (fun q hq h0 e => by have := (hq.row h0).2.2.1; omega) h
theorem Pr.HeldFrom.off_lt {p : Pr} {B g : Nat} {w : World} (h : p.HeldFrom B w) (hg : g < B) : p.Off g :=
  Pr.All.mono (fun q hq h0 e => by have := (hq.row h0).2.1; omega) h
theorem Pr.HeldFrom.but {p : Pr} {B : Nat} {w w' : World} {row : Option Nat} (h : p.HeldFrom B w) (ho : ∀ g, row = some g → p.Off g) (hs : w.heap.size ≤ w'.heap.size) (hb : ∀ g, g < w.heap.size → some g ≠ row → w'.heap[g]? = w.heap[g]?) : p.HeldFrom B w' := by
  cases row with
  | none => exact h.same hs fun g _ hg => hb g hg (by simp)
  | some r =>
    refine Pr.All.mono (fun q hq => ?_) (Pr.All.and h (ho r rfl))
    exact ⟨hq.1.fine, fun h0 => by
      obtain ⟨h1, h2, h3, h4⟩ := hq.1.row h0
      exact ⟨h1, h2, by omega, h4.same (hb _ h3 (by intro e; exact hq.2 h0 (Option.some.inj e)))⟩⟩
/-- the tree that is built of these parts -/
def Pr.builtQ (k n pr pe : Int) (s : ByteArray) (a : Option Addr) (g off c : Nat) (l : List Pr) : Pr := .mk k n pr pe s a g off c l.length fun j => l.getD j .nil
/-- the loop's state -/
structure RrS (T : TM) (p : Pr) (pa : Option Addr) (w wr : World) (v : Value) (l : List Pr) : Prop where
  hx : Ext w wr
  ht : Hold wr w.heap.size #[.slice T.a T.n T.cap]
  hp : Hold wr (w.heap.size + 1) #[.int .i64 p.kind, .int .i64 p.num, .int .i64 p.proc, .int .i64 p.peer, .string p.name, .slice pa p.len p.cap]
  hr : Hold wr (w.heap.size + 1 + 1) #[.int .i64 0, .int .i64 0, .int .i64 0, .int .i64 0, .string ⟨#[]⟩, .slice none 0 0]
  ho : Hold wr (w.heap.size + 1 + 1 + 1) #[.int .i64 p.kind, .int .i64 p.num, .int .i64 0, .int .i64 0, .string ⟨#[]⟩, v]
  own : Que wr (w.heap.size + 1 + 1 + 1 + 1) 6 v l.length (prCells l)
  lt : ∀ g, v.ownBlock = some g → g < wr.heap.size
  held : ∀ q ∈ l, q.HeldFrom (w.heap.size + 1 + 1 + 1 + 1) wr ∧ ∀ g, v.ownBlock = some g → q.Off g
  can : ∀ j, j < l.length → T.toTr.Can (p.kid j)
  rsv : ∀ j, j < l.length → T.toTr.Rsv (p.kid j) (l.getD j .nil)
theorem RrS.next {T : TM} {p : Pr} {pa : Option Addr} {w wr w5 w6 w7 : World} {v v' : Value} {l : List Pr} {r : Pr} (h : RrS T p pa w wr v l) (hx : Ext wr w5) (hh : r.HeldFrom wr.heap.size w5)
    (hx6 : Ext w5 w6) (hq : Que w7 (w.heap.size + 1 + 1 + 1 + 1) 6 v' (l.length + 1) (prCells l ++ [cellOf r 0, cellOf r 1, cellOf r 2, cellOf r 3, cellOf r 4, cellOf r 5])) (hg : w6.grownBy w7 v.ownBlock) (hb : v'.ownBlock = v.ownBlock ∨ v'.ownBlock = some w6.heap.size) (hlt7 : ∀ g, v'.ownBlock = some g → g < w7.heap.size)
    (hc : T.toTr.Can (p.kid l.length)) (hv : T.toTr.Rsv (p.kid l.length) r) :
    RrS T p pa w (w7.setCell ⟨w.heap.size + 1 + 1 + 1, 5, none⟩ v') v' (l ++ [r]) := by
  have hx56 := hx.trans hx6
  have hblk : ∀ k, v.ownBlock = some k → w.heap.size + 1 + 1 + 1 + 1 ≤ k := h.own.block
  have hsz := h.hx.le
  have hbel : Below (w.heap.size + 1 + 1 + 1 + 1) wr w7 := Below.grown (Below.mono hx56.below (by have := h.ho.lt; omega)) hg (by have := hx56.le; have := h.ho.lt; omega) hblk
  have hk : ∀ g, g < w6.heap.size → some g ≠ v.ownBlock → w7.heap[g]? = w6.heap[g]? := hg.block
  have all : ∀ q ∈ l ++ [r], q.HeldFrom (w.heap.size + 1 + 1 + 1 + 1) w6 ∧ ∀ g, v.ownBlock = some g → q.Off g := by
    intro q hq
    rcases List.mem_append.1 hq with hq | hq
    · exact ⟨((h.held q hq).1.ext hx56), (h.held q hq).2⟩
    · obtain rfl := List.mem_singleton.1 hq
      exact ⟨(hh.ext hx6).mono (by have := h.ho.lt; omega), fun g hg => hh.off_lt (h.lt g hg)⟩
  have hxw7 : Ext w w7 := Below.trans h.hx (Below.mono hbel (by omega))
  refine ⟨hxw7.setCell (by show w.heap.size ≤ w.heap.size + 1 + 1 + 1; omega) _, ?_, ?_, ?_, ?_, ?_, ?_, ?_, ?_, ?_⟩
  · exact (h.ht.below hbel (by omega)).other _ _ (by show w.heap.size ≠ w.heap.size + 1 + 1 + 1; omega)
  · exact (h.hp.below hbel (by omega)).other _ _ (by show w.heap.size + 1 ≠ w.heap.size + 1 + 1 + 1; omega)
  · exact (h.hr.below hbel (by omega)).other _ _ (by show w.heap.size + 1 + 1 ≠ w.heap.size + 1 + 1 + 1; omega)
  · simpa using (h.ho.below hbel (by omega)).set 5 v'
  · rw [prCells_snoc, List.length_append]
    exact hq.same (Nat.le_of_eq (World.size_setCell _ _ _).symm) fun g hg _ => Below.heap_setCell _ _ _ _ (by show g ≠ w.heap.size + 1 + 1 + 1; omega)
  · intro g hg'; rw [World.size_setCell]; exact hlt7 g hg'
  · intro q hq
    obtain ⟨h1, h2⟩ := all q hq
    refine ⟨?_, fun g hg' => ?_⟩
    · exact ((h1.but h2 hg.size hk)).set _ _ (by show w.heap.size + 1 + 1 + 1 < w.heap.size + 1 + 1 + 1 + 1; omega)
    · rcases hb with e | e
      · exact h2 g (by rw [← e]; exact hg')
      · rw [e] at hg'
        exact h1.off_ge (by cases hg'; exact Nat.le_refl _)
  · intro j hj
    rw [List.length_append] at hj
    by_cases e : j = l.length
    · subst e; exact hc
    · exact h.can j (by simp at hj; omega)
  · intro j hj
    rw [List.length_append] at hj
    by_cases e : j = l.length
    · subst e; simpa using hv
    · have : j < l.length := by simp at hj; omega
      have h3 := h.rsv j this
      rwa [List.getD_eq_getElem?_getD, List.getElem?_append_left this, ← List.getD_eq_getElem?_getD]
theorem RrS.next' {T : TM} {p : Pr} {pa : Option Addr} {w wr w5 w6 w7 : World} {v v' : Value} {l : List Pr} {r : Pr} (h : RrS T p pa w wr v l) (hx : Ext wr w5) (hh : r.HeldFrom wr.heap.size w5)
    (hx6 : Ext w5 w6) (hq : Que w7 (w.heap.size + 1 + 1 + 1 + 1) 6 v' (l.length + 1) (prCells l ++ [cellOf r 0, cellOf r 1, cellOf r 2, cellOf r 3, cellOf r 4, cellOf r 5])) (hg : w6.grownBy w7 v.ownBlock) (hb : v'.ownBlock = v.ownBlock ∨ v'.ownBlock = some w6.heap.size)
    (hc : T.toTr.Can (p.kid l.length)) (hv : T.toTr.Rsv (p.kid l.length) r) :
    RrS T p pa w (w7.setCell ⟨w.heap.size + 1 + 1 + 1, 5, none⟩ v') v' (l ++ [r]) :=
  h.next hx hh hx6 hq hg hb (fun g hg => by
    rcases hq.val with ⟨ao, hv, hn, ha⟩ | ⟨g', off, cap, hv, _, hlt, _⟩
    · omega
    · rw [hv] at hg; cases hg; exact hlt) hc hv
theorem RrS.own8 {T : TM} {p : Pr} {pa : Option Addr} {w wr w5 w6 w7 : World} {v : Value} {l : List Pr} (h : RrS T p pa w wr v l) (hx : Ext wr w5) (hx6 : Ext w5 w6) (hg : w6.grownBy w7 v.ownBlock) :
    Box w7 (w.heap.size + 1 + 1 + 1) #[.int .i64 p.kind, .int .i64 p.num, .int .i64 0, .int .i64 0, .string ⟨#[]⟩, v] := by
  have hx56 := hx.trans hx6
  have hbel : Below (w.heap.size + 1 + 1 + 1 + 1) wr w7 := Below.grown (Below.mono hx56.below (by have := h.ho.lt; omega)) hg (by have := hx56.le; have := h.ho.lt; omega) h.own.block
  exact (h.ho.below hbel (by omega)).box
theorem que_slice {w : World} {base size : Nat} {v : Value} {n : Nat} {xs : List Value} (h : Que w base size v n xs) : ∃ a c, v = .slice a n c := by
  rcases h.val with ⟨ao, hv, hn, _⟩ | ⟨g, off, cap, hv, _⟩
  · exact ⟨ao, 0, by rw [hv, hn]⟩
  · exact ⟨_, cap, hv⟩
theorem nm_nil {s : ByteArray} (h : s.toList = []) : s = ⟨#[]⟩ := by
  rw [Lib.toList_data] at h
  cases s with
  | mk d => have : d = #[] := Array.toList_eq_nil_iff.1 h
            rw [this]
set_option maxRecDepth 100000 in
set_option maxHeartbeats 4000000 in
theorem rresolveN_any (w0 : World) (T : TM) (p : Pr) (hp : p.NodeAt w0) (hn0 : p.NodeOk) (hl : p.len ≤ 1000) (hk : ¬ (2 ≤ p.kind ∧ p.kind ≤ 4)) (w : World) (hx : Ext w0 w)
    (ih : ∀ i, i < p.len → ∀ W, Ext w0 W → Calls Tryz.prog 37 #[T.val, (p.kid i).val] W (RrPost T.toTr (p.kid i) W)) :
    Calls Tryz.prog 37 #[T.val, p.val] w (RrPost T.toTr p w) := by
  obtain ⟨j0, hj0, hy0, hy1, hy2⟩ := info_parts infoPred
  have HF := Lib.hid hp.fine
  have HP := Lib.hid hp
  have HN0 := Lib.hid hn0
  have HIH := Lib.hid ih
  have HCK := Lib.hid (Tr.can_kids (T := T.toTr) hk)
  have HKN := Lib.hid hk
  have h1 : decide (2 ≤ p.kind) = false ∨ (decide (2 ≤ p.kind) = true ∧ decide (p.kind ≤ 4) = false) := by
    by_cases e : 2 ≤ p.kind
    · right; exact ⟨by simpa using e, by simpa using fun h => hk ⟨e, h⟩⟩
    · left; simpa using e
  have d2 : (p.kind == 2) = false := by simp; omega
  have d3 : (p.kind == 3) = false := by simp; omega
  have d4 : (p.kind == 4) = false := by simp; omega
  obtain ⟨pa, hpa⟩ : ∃ a, a = p.a := ⟨_, rfl⟩
  simp only [Pr.val, TM.val]
  rw [← hpa]
  have HPA := Lib.hid hpa
  clear hp ih hk hn0 hpa
  rcases h1 with e1 | ⟨e1, e2⟩
  all_goals
    go_enter Tryz.func37, Tryz.ntmps37
    go_upto_region 1 with fail
    refine boxed3 (w := w) (G := fun x => Code.wp _ _ _ _ x) ?_
    intro w1 hx1 hs1 ⟨l0, c0, f0, k0⟩ ⟨l1, c1, f1, k1⟩ ⟨l2, c2, f2, k2⟩
    have hx11 : Ext w1 w1 := Ext.refl _
    have HK0 := Lib.hid (show Hold w1 w.heap.size _ from k0)
    have HK1 := Lib.hid (show Hold w1 (w.heap.size + 1) _ from k1)
    have HK2 := Lib.hid (show Hold w1 (w.heap.size + 1 + 1) _ from k2)
    clear k0 k1 k2
    go_upto_region 2 with fail
    refine boxed1 (w := w1) (G := fun x => Code.wp _ _ _ _ x) ?_
    intro w2 hx12 hs2 kk3
    rw [hs1] at kk3
    obtain ⟨l3, c3, f3, k3⟩ := kk3
    have hx22 : Ext w2 w2 := Ext.refl _
    have HS2 := Lib.hid (show RrS T p pa w w2 (.slice none 0 0) [] from ⟨hx1.trans hx12, Hold.ext HK0.out hx12, Hold.ext HK1.out hx12, Hold.ext HK2.out hx12, k3, Que.nil _ _ _, (fun g h => by cases h), (fun q h => by cases h), (fun j h => absurd h (Nat.not_lt_zero _)), (fun j h => absurd h (Nat.not_lt_zero _))⟩)
    clear hs1 hs2 k3
    obtain ⟨l4, c4, f4, _⟩ := HS2.out.ho.box
    go_wp2_with fail
    go_loopg [13, 14, 15] p.len (fun gg v13 v14 v15 wr => ∃ (i : Nat) (v : Value) (l : List Pr), i ≤ p.len ∧ gg = p.len - i ∧ v13 = .int .i64 i ∧ (∃ u, v14 = u) ∧ (∃ u, v15 = u) ∧ l.length = i ∧ RrS T p pa w wr v l)
    case atStart => exact ⟨0, _, [], by omega, rfl, rfl, ⟨_, rfl⟩, ⟨_, rfl⟩, rfl, HS2.out⟩
    case round =>
      obtain ⟨i, v, l, hi, rfl, rfl, ⟨u1, rfl⟩, ⟨u2, rfl⟩, hli, hS⟩ := hrel
      have HLI := Lib.hid hli
      have HS := Lib.hid hS
      have hxwr := hS.hx
      clear hS hli l0 c0 f0 l1 c1 f1 l2 c2 f2 l3 c3 f3 l4 c4 f4
      obtain ⟨lt, ct, _, _⟩ := HS.out.ht.box
      obtain ⟨lp, cp, fp, _⟩ := HS.out.hp.box
      have hxrr : Ext wr wr := Ext.refl _
      by_cases hlt : i < p.len
      · have hlt' : (i : Int) < (p.len : Int) := by omega
        obtain rfl : pa = some ⟨p.b, p.off, none⟩ := by rw [HPA.out]; exact HP.out.ha (by omega)
        have kb : ∀ w', Ext w0 w' → p.b < w'.heap.size := HP.out.hb (by omega)
        have k0 := fun w' (h : Ext w0 w') => HP.out.c0 w' h i hlt
        have k1 := fun w' (h : Ext w0 w') => HP.out.c1 w' h i hlt
        have k2 := fun w' (h : Ext w0 w') => HP.out.c2 w' h i hlt
        have k3 := fun w' (h : Ext w0 w') => HP.out.c3 w' h i hlt
        have k4 := fun w' (h : Ext w0 w') => HP.out.c4 w' h i hlt
        have k5 := fun w' (h : Ext w0 w') => HP.out.c5 w' h i hlt
        have hci := fun W (h : Ext w0 W) => HIH.out i hlt W h
        simp only [Pr.val, TM.val] at hci
        have HCI := Lib.hid hci
        have hxd : Ext wr wr.drew := (Ext.refl wr).drew
        clear hci
        go_upto_region 22 with fail
        refine wp_region_held_drew (S := fun w' => Ext w w' ∧ Hold w' w.heap.size #[.slice T.a T.n T.cap] ∧ Hold w' (w.heap.size + 1) #[.int .i64 p.kind, .int .i64 p.num, .int .i64 p.proc, .int .i64 p.peer, .string p.name, .slice (some ⟨p.b, p.off, none⟩) p.len p.cap]) (by kernel_rfl) ⟨hxwr.drew, HS.out.ht.drew, HS.out.hp.drew⟩ (fun hHeld => ?_)
        refine heldTake 0 (v := ?_) rfl (by kernel_rfl) (by kernel_rfl) (by kernel_rfl) (fun _ _ _ h => h) (Or.inl ⟨by rfl, ?_⟩) (by assumption) ?_
        rotate_left
        · (intro w' hSw; obtain ⟨hSa, hSb, hSc⟩ := hSw; obtain ⟨lS, cS, _, _⟩ := hSb.box; obtain ⟨lU, cU, _, _⟩ := hSc.box; have hSS := Ext.refl w'; have hS0 := hx.trans hSa; go_simp; try with_reducible rfl)
        simp only [Act.put, List.setIfInBounds_toArray, List.set_cons_zero, List.set_cons_succ]
        refine heldTake 1 (v := ?_) rfl (by kernel_rfl) (by kernel_rfl) (by kernel_rfl) (fun _ _ _ h => h) (Or.inl ⟨by rfl, ?_⟩) (by assumption) ?_
        rotate_left
        · (intro w' hSw; obtain ⟨hSa, hSb, hSc⟩ := hSw; obtain ⟨lS, cS, _, _⟩ := hSb.box; obtain ⟨lU, cU, _, _⟩ := hSc.box; have hSS := Ext.refl w'; have hS0 := hx.trans hSa; go_simp; try with_reducible rfl)
        simp only [Act.put, List.setIfInBounds_toArray, List.set_cons_zero, List.set_cons_succ]
        refine heldTake 2 (v := ?_) rfl (by kernel_rfl) (by kernel_rfl) (by kernel_rfl) (fun _ _ _ h => h) (Or.inl ⟨by rfl, ?_⟩) (by assumption) ?_
        rotate_left
        · (intro w' hSw; obtain ⟨hSa, hSb, hSc⟩ := hSw; obtain ⟨lS, cS, _, _⟩ := hSb.box; obtain ⟨lU, cU, _, _⟩ := hSc.box; have hSS := Ext.refl w'; have hS0 := hx.trans hSa; go_simp; try with_reducible rfl)
        simp only [Act.put, List.setIfInBounds_toArray, List.set_cons_zero, List.set_cons_succ]
        refine heldTake 3 (v := ?_) rfl (by kernel_rfl) (by kernel_rfl) (by kernel_rfl) (fun _ _ _ h => h) (Or.inl ⟨by rfl, ?_⟩) (by assumption) ?_
        rotate_left
        · (intro w' hSw; obtain ⟨hSa, hSb, hSc⟩ := hSw; obtain ⟨lS, cS, _, _⟩ := hSb.box; obtain ⟨lU, cU, _, _⟩ := hSc.box; have hSS := Ext.refl w'; have hS0 := hx.trans hSa; go_simp; try with_reducible rfl)
        simp only [Act.put, List.setIfInBounds_toArray, List.set_cons_zero, List.set_cons_succ]
        refine heldTake 4 (v := ?_) rfl (by kernel_rfl) (by kernel_rfl) (by kernel_rfl) (fun _ _ _ h => h) (Or.inl ⟨by rfl, ?_⟩) (by assumption) ?_
        rotate_left
        · (intro w' hSw; obtain ⟨hSa, hSb, hSc⟩ := hSw; obtain ⟨lS, cS, _, _⟩ := hSb.box; obtain ⟨lU, cU, _, _⟩ := hSc.box; have hSS := Ext.refl w'; have hS0 := hx.trans hSa; go_simp; try with_reducible rfl)
        simp only [Act.put, List.setIfInBounds_toArray, List.set_cons_zero, List.set_cons_succ]
        refine heldTake 5 (v := ?_) rfl (by kernel_rfl) (by kernel_rfl) (by kernel_rfl) (fun _ _ _ h => h) (Or.inl ⟨by rfl, ?_⟩) (by assumption) ?_
        rotate_left
        · (intro w' hSw; obtain ⟨hSa, hSb, hSc⟩ := hSw; obtain ⟨lS, cS, _, _⟩ := hSb.box; obtain ⟨lU, cU, _, _⟩ := hSc.box; have hSS := Ext.refl w'; have hS0 := hx.trans hSa; go_simp; try with_reducible rfl)
        simp only [Act.put, List.setIfInBounds_toArray, List.set_cons_zero, List.set_cons_succ]
        refine wpAnyH_ready (rs := [6, 10]) (by kernel_rfl) (by simp) ?_
        refine AllReadyH.cons rfl (fun K hK => ?_) (AllReadyH.cons rfl (fun K hK => ?_) AllReadyH.nil)
        · go_simp
          go_at_call 37
          refine (HCI.out _ ((hx.trans hxwr).trans hxd)).mono ?_
          rintro e w5 ⟨hx5, r, b, rfl, hh, hcan, hrsv, _⟩
          have hxrw5 : Ext wr w5 := (hxd).trans hx5
          have HH5 := Lib.hid hh
          have HCAN := Lib.hid hcan
          have HRSV := Lib.hid hrsv
          refine hK.out _ _ ⟨hxwr.trans hxrw5, HS.out.ht.ext hxrw5, HS.out.hp.ext hxrw5⟩ (fun hHeld2 => ?_)
          clear hK K hh hcan hrsv
          refine heldTake 7 (v := ?_) rfl (by kernel_rfl) (by kernel_rfl) (by kernel_rfl) (fun _ _ _ h => h) (Or.inl ⟨by rfl, ?_⟩) (by assumption) ?_
          rotate_left
          · (intro w' hSw; obtain ⟨hSa, hSb, hSc⟩ := hSw; obtain ⟨lS, cS, _, _⟩ := hSb.box; obtain ⟨lU, cU, _, _⟩ := hSc.box; have hSS := Ext.refl w'; have hS0 := hx.trans hSa; go_simp; try with_reducible rfl)
          simp only [Act.put, List.setIfInBounds_toArray, List.set_cons_zero, List.set_cons_succ]
          refine heldTake 8 (v := ?_) rfl (by kernel_rfl) (by kernel_rfl) (by kernel_rfl) (fun _ _ _ h => h) (Or.inl ⟨by rfl, ?_⟩) (by assumption) ?_
          rotate_left
          · (intro w' hSw; obtain ⟨hSa, hSb, hSc⟩ := hSw; obtain ⟨lS, cS, _, _⟩ := hSb.box; obtain ⟨lU, cU, _, _⟩ := hSc.box; have hSS := Ext.refl w'; have hS0 := hx.trans hSa; go_simp; try with_reducible rfl)
          simp only [Act.put, List.setIfInBounds_toArray, List.set_cons_zero, List.set_cons_succ]
          refine heldTake 9 (v := ?_) rfl (by kernel_rfl) (by kernel_rfl) (by kernel_rfl) (fun _ _ _ h => h) (Or.inl ⟨by rfl, ?_⟩) (by assumption) ?_
          rotate_left
          · (intro w' hSw; obtain ⟨hSa, hSb, hSc⟩ := hSw; obtain ⟨lS, cS, _, _⟩ := hSb.box; obtain ⟨lU, cU, _, _⟩ := hSc.box; have hSS := Ext.refl w'; have hS0 := hx.trans hSa; go_simp; try with_reducible rfl)
          simp only [Act.put, List.setIfInBounds_toArray, List.set_cons_zero, List.set_cons_succ]
          refine wpAnyH_ready (rs := [10]) (by kernel_rfl) (by simp) ?_
          refine AllReadyH.cons rfl (fun K hK => ?_) AllReadyH.nil
          go_simp
          refine boxed1 (w := w5) (G := fun x => K _ x) ?_
          intro w6 hxa hsa ka
          obtain ⟨la, ca, fa, hka⟩ := (show Box w6 w5.heap.size #[.int .i64 0, .int .i64 0, .int .i64 0, .int .i64 0, .string ⟨#[]⟩, .slice none 0 0] from ka)
          have HKA := Lib.hid (show Hold w6 w5.heap.size #[.int .i64 0, .int .i64 0, .int .i64 0, .int .i64 0, .string ⟨#[]⟩, .slice none 0 0] from hka)
          have hxw6w6 : Ext w6 w6 := Ext.refl _
          have hxrw6 : Ext wr w6 := (hxrw5).trans hxa
          clear hka hsa
          refine hK.out _ _ ⟨hxwr.trans hxrw6, HS.out.ht.ext hxrw6, HS.out.hp.ext hxrw6⟩ (fun hHeld2 => ?_)
          clear hK K
          refine wpAnyH_ready (rs := [11]) (by kernel_rfl) (by simp) ?_
          refine AllReadyH.cons rfl (fun K hK => ?_) AllReadyH.nil
          go_simp
          refine setw6 (w := w6) (g := w5.heap.size) (o := 0) (G := fun x => K _ x) ?_
          intro w7 hw7
          have hxr7 : Ext wr w7 := by rw [hw7]; exact Ext.put6 hxrw6 hxrw5.le 0 _ _ _ _ _ _
          have HB7 := Lib.hid (show Hold w7 w5.heap.size #[.int .i64 r.kind, .int .i64 r.num, .int .i64 r.proc, .int .i64 r.peer, .string r.name, .slice r.a r.len r.cap] from by rw [hw7]; exact Hold.all6 HKA.out _ _ _ _ _ _)
          have HH7 := Lib.hid (show r.HeldFrom wr.heap.size w7 from by rw [hw7]; exact (HH5.out.same (by rw [put6_size]; exact hxa.le) (fun b hb hlt => (put6_other _ _ _ _ _ _ _ _ _ _ (by omega)).trans (hxa.block b hlt))))
          refine hK.out _ _ ⟨hxwr.trans hxr7, HS.out.ht.ext hxr7, HS.out.hp.ext hxr7⟩ (fun hHeld2 => ?_)
          clear hK K hw7
          refine heldTake 12 (v := ?_) rfl (by kernel_rfl) (by kernel_rfl) (by kernel_rfl) (fun _ _ _ h => h) (Or.inl ⟨by rfl, ?_⟩) (by assumption) ?_
          rotate_left
          · (intro w' hSw; obtain ⟨hSa, hSb, hSc⟩ := hSw; obtain ⟨lS, cS, _, _⟩ := hSb.box; obtain ⟨lU, cU, _, _⟩ := hSc.box; have hSS := Ext.refl w'; have hS0 := hx.trans hSa; go_simp; try with_reducible rfl)
          simp only [Act.put, List.setIfInBounds_toArray, List.set_cons_zero, List.set_cons_succ]
          refine wpAnyH_done (by kernel_rfl) ?_ _
          clear k0 k1 k2 k3 k4 k5 kb lt ct lp cp fp
          have hx77 : Ext w7 w7 := Ext.refl _
          obtain ⟨l6, c6, f6, _⟩ := HB7.out.box
          cases b with
          | false =>
            have HN := Lib.hid (show ¬ T.toTr.Can p from fun hc => by have := HCAN.out.2 (hc.kid hlt); cases this)
            obtain ⟨l5, c5, f5, _⟩ := (HS.out.hr.ext hxr7).box
            go_wp2_with fail
            have hk9 := Hold.all6 (HS.out.hr.ext hxr7) (.int .i64 0) (.int .i64 0) (.int .i64 0) (.int .i64 0) (.string ⟨#[]⟩) (.slice none 0 0)
            refine bodyPost_ret (rr_results _ _ (w.heap.size + 1 + 1) _ _ _ _ _ _ _ rfl rfl (hk9.cell0 0) (hk9.cell0 1) (hk9.cell0 2) (hk9.cell0 3) (hk9.cell0 4) (hk9.cell0 5)) rfl ?_
            exact ⟨(hxwr.trans hxr7).put6 (by omega) 0 _ _ _ _ _ _, zeroR, false, rfl, zeroR_held _ _, ⟨(fun h => by cases h), fun h => absurd h HN.out⟩, (fun h => by cases h), fun _ => zeroR_like⟩
          | true =>
            obtain ⟨l5, c5, f5, _⟩ := (HS.out.ho.ext hxr7).box
            have HC1 := Lib.hid (HCAN.out.1 rfl)
            have HR1 := Lib.hid (HRSV.out rfl)
            have hq7 : Que w7 (w.heap.size + 1 + 1 + 1 + 1) 6 v i (prCells l) := by have := HS.out.own.ext hxr7; rwa [HLI.out] at this
            have HQ7 := Lib.hid hq7
            have hb9 : w.heap.size + 1 + 1 + 1 + 1 ≤ w7.heap.size := by have := HS.out.ho.lt; have := hxr7.le; omega
            have hi1000 : i < 1000 := by omega
            clear hq7
            go_wp2_with (at_builtin; refine wpList_append_que _ rfl _ _ 25 25 rfl (base := w.heap.size + 1 + 1 + 1 + 1) (e := 27) (size := 6) j0 (.agg #[.int .i64 0, .int .i64 0, .int .i64 0, .int .i64 0, .string ⟨#[]⟩, .slice none 0 0]) 72 Tryz.underlying25 hj0 hy0 hy1 hy2 rfl rfl (v := v) (n := i) (xs := prCells l) (by exact HQ7.out.ext (Ext.alloc _ _)) (by rw [World.size_alloc]; omega) _ 1 [cellOf r 0, cellOf r 1, cellOf r 2, cellOf r 3, cellOf r 4, cellOf r 5] rfl (by exact Src.ofSlice _ Tryz.underlying25 ⟨w7.heap.size, 0, none⟩ 1 1 _ rfl (news_ok w7 _ _) (by intro u hu; simp at hu; rcases hu with rfl | rfl | rfl | rfl | rfl | rfl <;> rfl)) (by unfold maxLen; omega) (by omega) ?_; rintro v8 w8 hq8 hg8 hor8; obtain ⟨a8, cp8, rfl⟩ := que_slice hq8; have H8 := Lib.hid (HS.out.next' hxr7 HH7.out (Ext.alloc _ _) (by rw [HLI.out]; exact hq8) hg8 hor8 (by rw [HLI.out]; exact HC1.out) (by rw [HLI.out]; exact HR1.out)); obtain ⟨l9, c9, f9, _⟩ := HS.out.own8 hxr7 (Ext.alloc _ _) hg8; have hx88 : Ext w8 w8 := Ext.refl _; clear hq8 hg8 hor8 l5 c5 f5 l6 c6 f6)
            have HLI8 := Lib.hid (show (l ++ [r]).length = i + 1 from by rw [List.length_append, HLI.out]; rfl)
            go_roundg (p.len - (i + 1))
            case rel => exact ⟨i + 1, _, _, by omega, rfl, by go_num, ⟨_, rfl⟩, ⟨_, rfl⟩, HLI8.out, H8.out⟩
            case measure => omega
        · go_simp
          refine boxed1 (w := wr.drew) (G := fun x => K _ x) ?_
          intro w6 hxa hsa ka
          obtain ⟨la, ca, fa, hka⟩ := (show Box w6 wr.heap.size #[.int .i64 0, .int .i64 0, .int .i64 0, .int .i64 0, .string ⟨#[]⟩, .slice none 0 0] from ka)
          have HKA := Lib.hid (show Hold w6 wr.heap.size #[.int .i64 0, .int .i64 0, .int .i64 0, .int .i64 0, .string ⟨#[]⟩, .slice none 0 0] from hka)
          have hxw6w6 : Ext w6 w6 := Ext.refl _
          have hxrw6 : Ext wr w6 := (hxd).trans hxa
          clear hka hsa
          refine hK.out _ _ ⟨hxwr.trans hxrw6, HS.out.ht.ext hxrw6, HS.out.hp.ext hxrw6⟩ (fun hHeld2 => ?_)
          clear hK K
          refine wpAnyH_ready (rs := [6]) (by kernel_rfl) (by simp) ?_
          refine AllReadyH.cons rfl (fun K hK => ?_) AllReadyH.nil
          go_simp
          go_at_call 37
          refine (HCI.out _ ((hx.trans hxwr).trans hxrw6)).mono ?_
          rintro e w5 ⟨hx5, r, b, rfl, hh, hcan, hrsv, _⟩
          have hxrw5 : Ext wr w5 := (hxrw6).trans hx5
          have HH5 := Lib.hid hh
          have HCAN := Lib.hid hcan
          have HRSV := Lib.hid hrsv
          refine hK.out _ _ ⟨hxwr.trans hxrw5, HS.out.ht.ext hxrw5, HS.out.hp.ext hxrw5⟩ (fun hHeld2 => ?_)
          clear hK K hh hcan hrsv
          refine heldTake 7 (v := ?_) rfl (by kernel_rfl) (by kernel_rfl) (by kernel_rfl) (fun _ _ _ h => h) (Or.inl ⟨by rfl, ?_⟩) (by assumption) ?_
          rotate_left
          · (intro w' hSw; obtain ⟨hSa, hSb, hSc⟩ := hSw; obtain ⟨lS, cS, _, _⟩ := hSb.box; obtain ⟨lU, cU, _, _⟩ := hSc.box; have hSS := Ext.refl w'; have hS0 := hx.trans hSa; go_simp; try with_reducible rfl)
          simp only [Act.put, List.setIfInBounds_toArray, List.set_cons_zero, List.set_cons_succ]
          refine heldTake 8 (v := ?_) rfl (by kernel_rfl) (by kernel_rfl) (by kernel_rfl) (fun _ _ _ h => h) (Or.inl ⟨by rfl, ?_⟩) (by assumption) ?_
          rotate_left
          · (intro w' hSw; obtain ⟨hSa, hSb, hSc⟩ := hSw; obtain ⟨lS, cS, _, _⟩ := hSb.box; obtain ⟨lU, cU, _, _⟩ := hSc.box; have hSS := Ext.refl w'; have hS0 := hx.trans hSa; go_simp; try with_reducible rfl)
          simp only [Act.put, List.setIfInBounds_toArray, List.set_cons_zero, List.set_cons_succ]
          refine heldTake 9 (v := ?_) rfl (by kernel_rfl) (by kernel_rfl) (by kernel_rfl) (fun _ _ _ h => h) (Or.inl ⟨by rfl, ?_⟩) (by assumption) ?_
          rotate_left
          · (intro w' hSw; obtain ⟨hSa, hSb, hSc⟩ := hSw; obtain ⟨lS, cS, _, _⟩ := hSb.box; obtain ⟨lU, cU, _, _⟩ := hSc.box; have hSS := Ext.refl w'; have hS0 := hx.trans hSa; go_simp; try with_reducible rfl)
          simp only [Act.put, List.setIfInBounds_toArray, List.set_cons_zero, List.set_cons_succ]
          refine wpAnyH_ready (rs := [11]) (by kernel_rfl) (by simp) ?_
          refine AllReadyH.cons rfl (fun K hK => ?_) AllReadyH.nil
          go_simp
          refine setw6 (w := w5) (g := wr.heap.size) (o := 0) (G := fun x => K _ x) ?_
          intro w7 hw7
          have hxr7 : Ext wr w7 := by rw [hw7]; exact Ext.put6 hxrw5 (Nat.le_refl _) 0 _ _ _ _ _ _
          have HB7 := Lib.hid (show Hold w7 wr.heap.size #[.int .i64 r.kind, .int .i64 r.num, .int .i64 r.proc, .int .i64 r.peer, .string r.name, .slice r.a r.len r.cap] from by rw [hw7]; exact Hold.all6 (HKA.out.ext hx5) _ _ _ _ _ _)
          have HH7 := Lib.hid (show r.HeldFrom wr.heap.size w7 from by rw [hw7]; exact ((HH5.out.put6 (Hold.lt HKA.out) _ _ _ _ _ _ _).mono hxrw6.le))
          refine hK.out _ _ ⟨hxwr.trans hxr7, HS.out.ht.ext hxr7, HS.out.hp.ext hxr7⟩ (fun hHeld2 => ?_)
          clear hK K hw7
          refine heldTake 12 (v := ?_) rfl (by kernel_rfl) (by kernel_rfl) (by kernel_rfl) (fun _ _ _ h => h) (Or.inl ⟨by rfl, ?_⟩) (by assumption) ?_
          rotate_left
          · (intro w' hSw; obtain ⟨hSa, hSb, hSc⟩ := hSw; obtain ⟨lS, cS, _, _⟩ := hSb.box; obtain ⟨lU, cU, _, _⟩ := hSc.box; have hSS := Ext.refl w'; have hS0 := hx.trans hSa; go_simp; try with_reducible rfl)
          simp only [Act.put, List.setIfInBounds_toArray, List.set_cons_zero, List.set_cons_succ]
          refine wpAnyH_done (by kernel_rfl) ?_ _
          clear k0 k1 k2 k3 k4 k5 kb lt ct lp cp fp
          have hx77 : Ext w7 w7 := Ext.refl _
          obtain ⟨l6, c6, f6, _⟩ := HB7.out.box
          cases b with
          | false =>
            have HN := Lib.hid (show ¬ T.toTr.Can p from fun hc => by have := HCAN.out.2 (hc.kid hlt); cases this)
            obtain ⟨l5, c5, f5, _⟩ := (HS.out.hr.ext hxr7).box
            go_wp2_with fail
            have hk9 := Hold.all6 (HS.out.hr.ext hxr7) (.int .i64 0) (.int .i64 0) (.int .i64 0) (.int .i64 0) (.string ⟨#[]⟩) (.slice none 0 0)
            refine bodyPost_ret (rr_results _ _ (w.heap.size + 1 + 1) _ _ _ _ _ _ _ rfl rfl (hk9.cell0 0) (hk9.cell0 1) (hk9.cell0 2) (hk9.cell0 3) (hk9.cell0 4) (hk9.cell0 5)) rfl ?_
            exact ⟨(hxwr.trans hxr7).put6 (by omega) 0 _ _ _ _ _ _, zeroR, false, rfl, zeroR_held _ _, ⟨(fun h => by cases h), fun h => absurd h HN.out⟩, (fun h => by cases h), fun _ => zeroR_like⟩
          | true =>
            obtain ⟨l5, c5, f5, _⟩ := (HS.out.ho.ext hxr7).box
            have HC1 := Lib.hid (HCAN.out.1 rfl)
            have HR1 := Lib.hid (HRSV.out rfl)
            have hq7 : Que w7 (w.heap.size + 1 + 1 + 1 + 1) 6 v i (prCells l) := by have := HS.out.own.ext hxr7; rwa [HLI.out] at this
            have HQ7 := Lib.hid hq7
            have hb9 : w.heap.size + 1 + 1 + 1 + 1 ≤ w7.heap.size := by have := HS.out.ho.lt; have := hxr7.le; omega
            have hi1000 : i < 1000 := by omega
            clear hq7
            go_wp2_with (at_builtin; refine wpList_append_que _ rfl _ _ 25 25 rfl (base := w.heap.size + 1 + 1 + 1 + 1) (e := 27) (size := 6) j0 (.agg #[.int .i64 0, .int .i64 0, .int .i64 0, .int .i64 0, .string ⟨#[]⟩, .slice none 0 0]) 72 Tryz.underlying25 hj0 hy0 hy1 hy2 rfl rfl (v := v) (n := i) (xs := prCells l) (by exact HQ7.out.ext (Ext.alloc _ _)) (by rw [World.size_alloc]; omega) _ 1 [cellOf r 0, cellOf r 1, cellOf r 2, cellOf r 3, cellOf r 4, cellOf r 5] rfl (by exact Src.ofSlice _ Tryz.underlying25 ⟨w7.heap.size, 0, none⟩ 1 1 _ rfl (news_ok w7 _ _) (by intro u hu; simp at hu; rcases hu with rfl | rfl | rfl | rfl | rfl | rfl <;> rfl)) (by unfold maxLen; omega) (by omega) ?_; rintro v8 w8 hq8 hg8 hor8; obtain ⟨a8, cp8, rfl⟩ := que_slice hq8; have H8 := Lib.hid (HS.out.next' hxr7 HH7.out (Ext.alloc _ _) (by rw [HLI.out]; exact hq8) hg8 hor8 (by rw [HLI.out]; exact HC1.out) (by rw [HLI.out]; exact HR1.out)); obtain ⟨l9, c9, f9, _⟩ := HS.out.own8 hxr7 (Ext.alloc _ _) hg8; have hx88 : Ext w8 w8 := Ext.refl _; clear hq8 hg8 hor8 l5 c5 f5 l6 c6 f6)
            have HLI8 := Lib.hid (show (l ++ [r]).length = i + 1 from by rw [List.length_append, HLI.out]; rfl)
            go_roundg (p.len - (i + 1))
            case rel => exact ⟨i + 1, _, _, by omega, rfl, by go_num, ⟨_, rfl⟩, ⟨_, rfl⟩, HLI8.out, H8.out⟩
            case measure => omega
      · have hie : i = p.len := by omega
        subst hie
        obtain ⟨lr, cr, fr, _⟩ := HS.out.hr.box
        obtain ⟨lo, co, fo, _⟩ := HS.out.ho.box
        obtain ⟨a, g, off, cap, rfl, hcap, hrow⟩ : ∃ a g off cap, v = .slice a p.len cap ∧ p.len ≤ cap ∧ (0 < p.len → a = some ⟨g, off, none⟩ ∧ w.heap.size + 1 + 1 + 1 + 1 ≤ g ∧ g < wr.heap.size ∧ RowAt wr g off p.len fun j => l.getD j .nil) := by
          rcases HS.out.own.val with ⟨ao, hv, hn, _⟩ | ⟨g, off, cap, hv, h1, h2, h3, h4, h5, _⟩
          · rw [HLI.out] at hn
            exact ⟨ao, 0, 0, 0, by rw [hv, hn], by omega, fun h => by omega⟩
          · rw [HLI.out] at hv h3 h5
            exact ⟨_, g, off, cap, hv, h3, fun _ => ⟨rfl, h1, h2, fun j hj c hc => by
              rw [Nat.add_assoc, h5 _ (by omega)]; exact prCells_get l j (by rw [HLI.out]; exact hj) c hc⟩⟩
        have HCAP := Lib.hid hcap
        have HROW := Lib.hid hrow
        clear hcap hrow
        go_wp2_with fail
        have hk9 := Hold.all6 HS.out.hr (.int .i64 p.kind) (.int .i64 p.num) (.int .i64 0) (.int .i64 0) (.string ⟨#[]⟩) (.slice a p.len cap)
        refine bodyPost_ret (rr_results _ _ (w.heap.size + 1 + 1) _ _ _ _ _ _ _ rfl rfl (hk9.cell0 0) (hk9.cell0 1) (hk9.cell0 2) (hk9.cell0 3) (hk9.cell0 4) (hk9.cell0 5)) rfl ?_
        have hheld : (Pr.builtQ p.kind p.num 0 0 ⟨#[]⟩ a g off cap l).HeldFrom (w.heap.size + 1 + 1 + 1 + 1) wr := (Pr.All_eq _ _).2 ⟨⟨⟨HF.out.kindI, HF.out.numI, ok0', ok0', Nat.zero_le _, by show l.length ≤ _; rw [HLI.out]; exact HF.out.hn, by show l.length ≤ cap; rw [HLI.out]; exact HCAP.out⟩, fun h => by
          have h' : 0 < p.len := by rw [← HLI.out]; exact h
          obtain ⟨r1, r2, r3, r4⟩ := HROW.out h'
          exact ⟨r1, r2, r3, by show RowAt wr g off l.length _; rw [HLI.out]; exact r4⟩⟩, fun j hj => by
            have hj' : j < l.length := hj
            have e : l.getD j .nil = l[j] := by rw [List.getD_eq_getElem?_getD, List.getElem?_eq_getElem hj']; rfl
            show (l.getD j .nil).HeldFrom _ _
            rw [e]
            exact (HS.out.held _ (List.getElem_mem hj')).1⟩
        refine ⟨hxwr.put6 (by omega) 0 _ _ _ _ _ _, Pr.builtQ p.kind p.num 0 0 ⟨#[]⟩ a g off cap l, true, ?_, (hheld.put6 (by omega) _ _ _ _ _ _ _).mono (by omega), ⟨fun _ => ?_, fun _ => rfl⟩, fun _ => ?_, (fun h => by cases h)⟩
        · rw [← HLI.out]; rfl
        · exact HCK.out.2 fun j hj => HS.out.can j (by rw [HLI.out]; exact hj)
        · refine (Tr.Rsv_eq _ _ _).2 ⟨rfl, rfl, ?_, HLI.out, fun j hj => HS.out.rsv j (by rw [HLI.out]; exact hj)⟩
          rw [Tr.rsN_unnamed HKN.out]
          rcases HN0.out.2.2.2.2.2.2 with h | ⟨h1, h2, h3⟩
          · exact absurd h HKN.out
          · have e : p.name = ⟨#[]⟩ := nm_nil h3
            rw [h1, h2, e]; rfl
theorem rresolve_any (w0 : World) (T : TM) (hT : T.At w0) : ∀ p : Pr, p.All Pr.NodeOk → p.At w0 → ∀ w, Ext w0 w → Calls Tryz.prog 37 #[T.val, p.val] w (RrPost T.toTr p w) := by
  intro p
  induction p using Pr.ind with
  | h p ih =>
    intro hn hp w hx
    have hlen : (p.len : Int) = partsI p.kind := hn.here.2.2.1
    have h2 := partsI_le2 p.kind
    by_cases hk : 2 ≤ p.kind ∧ p.kind ≤ 4
    · have h0 : p.len = 0 := by rw [partsI_zero hk] at hlen; omega
      by_cases hq : p.proc = 0 ∧ p.peer = 0
      · have : p.kind = 2 ∨ p.kind = 3 ∨ p.kind = 4 := by omega
        rcases this with h | h | h
        · exact rresolve2_any w0 T hT p hp.here h0 h hq w hx
        · exact rresolve3_any w0 T hT p hp.here h0 h hq w hx
        · exact rresolve4_any w0 T hT p hp.here h0 h hq w hx
      · exact rresolveX_any w0 T p hp.here h0 hk hq w
    · exact rresolveN_any w0 T p hp.here hn.here (by omega) hk w hx fun i hi W h => ih i hi (hn.kid hi) (hp.kid hi) W h

end Go.Proofs.YtdplphoohnnbcaaGreatDoor

namespace Go.Proofs.YtdplphoohnnbcaaGreatDoor
open Go.RowKit Go.Shelf

theorem rR_results (tmps : Array Value) (W : World) (b : Nat) (x0 x1 x2 x3 x4 x5 v : Value) (t4 : tmps[4]? = some (.pointer (some ⟨b, 0, none⟩))) (t5 : tmps[5]? = some v)
    (c0 : W.cell? ⟨b, 0, none⟩ = some x0) (c1 : W.cell? ⟨b, 1, none⟩ = some x1) (c2 : W.cell? ⟨b, 2, none⟩ = some x2) (c3 : W.cell? ⟨b, 3, none⟩ = some x3) (c4 : W.cell? ⟨b, 4, none⟩ = some x4) (c5 : W.cell? ⟨b, 5, none⟩ = some x5) :
    (results Tryz.f14 tmps).run Tryz.prog W = .ok (.tuple #[.agg #[x0, x1, x2, x3, x4, x5], v]) W := by
  simp [results, Tryz.results14, go_sem, t4, t5, c0, c1, c2, c3, c4, c5]
theorem zero_like {q q' : Pr} (h : Pr.nil.Like q) (h' : Pr.nil.Like q') : q.Like q' := by
  obtain ⟨a1, a2, a3, a4, a5, a6, _⟩ := (Pr.Like_eq _ _).1 h
  obtain ⟨b1, b2, b3, b4, b5, b6, _⟩ := (Pr.Like_eq _ _).1 h'
  exact (Pr.Like_eq _ _).2 ⟨b1.trans a1.symm, b2.trans a2.symm, b3.trans a3.symm, b4.trans a4.symm, b5.trans a5.symm, b6.trans a6.symm, fun i hi => by rw [a6] at hi; exact absurd hi (Nat.not_lt_zero _)⟩
theorem Tr.ResIs.uniq {T : Tr} {p q q' : Pr} {c c' : Int} (h : T.ResIs p q c) (k : T.ResIs p q' c') : c = c' ∧ q.Like q' := by
  rcases h with ⟨a, rfl, hq⟩ | ⟨v, f, a, rfl, hq⟩ | ⟨v, f, r, a, rfl, hq⟩ | ⟨v, f, r, t, ⟨x, hx, a⟩, rfl, hq⟩ | ⟨v, f, r, t, hr, s, rfl⟩ <;> rcases k with ⟨b, rfl, hq'⟩ | ⟨v', f', b, rfl, hq'⟩ | ⟨v', f', r', b, rfl, hq'⟩ | ⟨v', f', r', t', ⟨y, hy, b⟩, rfl, hq'⟩ | ⟨v', f', r', t', hr', s', rfl⟩
  all_goals first
    | exact ⟨rfl, zero_like hq hq'⟩
    | exact ⟨rfl, hr.like hr'⟩
    | exact absurd (And.intro v' f') a
    | exact absurd (And.intro v f) b
    | exact absurd r' a
    | exact absurd r b
    | exact absurd t' a
    | exact absurd t b
    | exact absurd ((Pr.Like.small (hx.like hr')).1 s') a
    | exact absurd ((Pr.Like.small (hy.like hr)).1 s) b
set_option maxRecDepth 100000 in
set_option maxHeartbeats 4000000 in
theorem rResolve_any (w : World) (T : TM) (hT : T.At w) (p : Pr) (hpa : p.At w) : Calls Tryz.prog 14 #[T.val, p.val] w (ResPost T.toTr p w) := by
  have hV := fun W (h : Ext w W) => rvalid_any W T (hT.ext h)
  have hF := fun W (h : Ext w W) => rFormed_any W p (hpa.ext h)
  have hR := fun hn W (h : Ext w W) => rresolve_any w T hT p hn hpa W h
  have hC := fun (q : Pr) W (h : Ext w W) (ha : q.At W) => rCheck_any W T (hT.ext h) q ha
  simp only [Pr.val, TM.val] at hV hF hR hC ⊢
  have HV := Lib.hid hV
  have HF := Lib.hid hF
  have HR := Lib.hid hR
  have HCK := Lib.hid hC
  clear hV hF hR hC hT hpa
  go_enter Tryz.func14, Tryz.ntmps14
  go_upto_region 1 with fail
  refine boxed3 (w := w) (G := fun x => Code.wp _ _ _ _ x) ?_
  intro w1 hx1 hs1 ⟨l0, c0, f0, k0⟩ ⟨l1, c1, f1, k1⟩ ⟨l2, c2, f2, k2⟩
  have hx11 : Ext w1 w1 := Ext.refl _
  have HK2 := Lib.hid (show Hold w1 (w.heap.size + 1 + 1) #[.int .i64 0, .int .i64 0, .int .i64 0, .int .i64 0, .string ⟨#[]⟩, .slice none 0 0] from k2)
  clear hs1 k0 k1 k2
  go_wp2_with fail
  go_at_call 32
  refine (HV.out _ hx1).mono ?_
  rintro e w2 ⟨b, rfl, hb, hx2⟩
  have HB := Lib.hid hb
  have hx12 := hx2
  clear hb
  cases b with
  | false =>
    have HN := Lib.hid (show ¬ T.toTr.Valid from fun h => by have := HB.out.2 h; cases this)
    clear HB
    go_wp2_with fail
    have hk9 := Hold.all6 (Hold.ext HK2.out hx12) (.int .i64 0) (.int .i64 0) (.int .i64 0) (.int .i64 0) (.string ⟨#[]⟩) (.slice none 0 0)
    refine bodyPost_ret (rR_results _ _ (w.heap.size + 1 + 1) _ _ _ _ _ _ _ rfl rfl (hk9.cell0 0) (hk9.cell0 1) (hk9.cell0 2) (hk9.cell0 3) (hk9.cell0 4) (hk9.cell0 5)) rfl ?_
    exact ⟨(hx1.trans hx12).put6 (by omega) 0 _ _ _ _ _ _, zeroQ, 1, rfl, zeroQ_at _, (.inl ⟨fun h => HN.out h.1, rfl, zeroQ_like⟩)⟩
  | true =>
    have HVV := Lib.hid (HB.out.1 rfl)
    clear HB
    go_wp2_with fail
    go_at_call 17
    refine (HF.out _ (hx1.trans hx12)).mono ?_
    rintro e w3 ⟨b, rfl, hb, hx3⟩
    have HB := Lib.hid hb
    have hx13 := hx12.trans hx3
    clear hb
    cases b with
    | false =>
      have HN := Lib.hid (show ¬ p.Formed from fun h => by have := HB.out.2 h; cases this)
      clear HB
      go_wp2_with fail
      have hk9 := Hold.all6 (Hold.ext HK2.out hx13) (.int .i64 0) (.int .i64 0) (.int .i64 0) (.int .i64 0) (.string ⟨#[]⟩) (.slice none 0 0)
      refine bodyPost_ret (rR_results _ _ (w.heap.size + 1 + 1) _ _ _ _ _ _ _ rfl rfl (hk9.cell0 0) (hk9.cell0 1) (hk9.cell0 2) (hk9.cell0 3) (hk9.cell0 4) (hk9.cell0 5)) rfl ?_
      exact ⟨(hx1.trans hx13).put6 (by omega) 0 _ _ _ _ _ _, zeroQ, 1, rfl, zeroQ_at _, (.inl ⟨fun h => HN.out h.2, rfl, zeroQ_like⟩)⟩
    | true =>
      have HFF := Lib.hid (HB.out.1 rfl)
      clear HB
      go_wp2_with fail
      go_at_call 37
      refine (HR.out HFF.out.2.2 _ (hx1.trans hx13)).mono ?_
      rintro e w4 ⟨hx4, r, ok, rfl, hheld, hcan, hrsv, _⟩
      have hx14 := hx13.trans hx4
      have HH := Lib.hid hheld
      have HC := Lib.hid hcan
      have HRV := Lib.hid hrsv
      have HB2 := Lib.hid (show w.heap.size + 1 + 1 < w3.heap.size from (Hold.ext HK2.out hx13).lt)
      clear hheld hcan hrsv
      go_upto_region 4 with fail
      refine boxed1 (w := w4) (G := fun x => Code.wp _ _ _ _ x) ?_
      intro w5 hx5 hs5 ⟨l5, c5, f5, _⟩
      have hx55 : Ext w5 w5 := Ext.refl _
      have hx15 := hx14.trans hx5
      have HA5 := Lib.hid (HH.out.ext hx5)
      clear hs5
      cases ok with
      | false =>
        have HN := Lib.hid (show ¬ T.toTr.Can p from fun h => by have := HC.out.2 h; cases this)
        clear HC HRV
        go_wp2_with fail
        have hk9 := Hold.all6 (Hold.ext HK2.out hx15) (.int .i64 0) (.int .i64 0) (.int .i64 0) (.int .i64 0) (.string ⟨#[]⟩) (.slice none 0 0)
        refine bodyPost_ret (rR_results _ _ (w.heap.size + 1 + 1) _ _ _ _ _ _ _ rfl rfl (hk9.cell0 0) (hk9.cell0 1) (hk9.cell0 2) (hk9.cell0 3) (hk9.cell0 4) (hk9.cell0 5)) rfl ?_
        exact ⟨(hx1.trans hx15).put6 (by omega) 0 _ _ _ _ _ _, zeroQ, 13, rfl, zeroQ_at _, (.inr (.inl ⟨HVV.out, HFF.out, HN.out, rfl, zeroQ_like⟩))⟩
      | true =>
        have HC1 := Lib.hid (HC.out.1 rfl)
        have HR1 := Lib.hid (HRV.out rfl)
        clear HC HRV
        go_wp2_with fail
        go_at_call 12
        refine (HCK.out r _ (hx1.trans hx15) HA5.out.lies).mono ?_
        rintro e w6 ⟨hx6, c, rfl, hc⟩
        have hx16 := hx15.trans hx6
        have HRF := Lib.hid (HR1.out.formed HFF.out)
        rcases hc with ⟨a, rfl⟩ | ⟨_, _, a, rfl⟩ | ⟨_, _, _, a, rfl⟩ | ⟨_, _, _, t, a, rfl⟩ | ⟨_, _, _, t, s, rfl⟩
        · exact absurd ⟨HVV.out, HRF.out⟩ a
        · exact absurd HR1.out.res a
        · have HN := Lib.hid (show ¬ p.Typed from fun h => a (HR1.out.typed.2 h))
          clear a
          go_wp2_with fail
          have hk9 := Hold.all6 (Hold.ext HK2.out hx16) (.int .i64 0) (.int .i64 0) (.int .i64 0) (.int .i64 0) (.string ⟨#[]⟩) (.slice none 0 0)
          refine bodyPost_ret (rR_results _ _ (w.heap.size + 1 + 1) _ _ _ _ _ _ _ rfl rfl (hk9.cell0 0) (hk9.cell0 1) (hk9.cell0 2) (hk9.cell0 3) (hk9.cell0 4) (hk9.cell0 5)) rfl ?_
          exact ⟨(hx1.trans hx16).put6 (by omega) 0 _ _ _ _ _ _, zeroQ, 14, rfl, zeroQ_at _, (.inr (.inr (.inl ⟨HVV.out, HFF.out, HC1.out, HN.out, rfl, zeroQ_like⟩)))⟩
        · have HTT := Lib.hid (HR1.out.typed.1 t)
          have HN := Lib.hid a
          clear a t
          go_wp2_with fail
          have hk9 := Hold.all6 (Hold.ext HK2.out hx16) (.int .i64 0) (.int .i64 0) (.int .i64 0) (.int .i64 0) (.string ⟨#[]⟩) (.slice none 0 0)
          refine bodyPost_ret (rR_results _ _ (w.heap.size + 1 + 1) _ _ _ _ _ _ _ rfl rfl (hk9.cell0 0) (hk9.cell0 1) (hk9.cell0 2) (hk9.cell0 3) (hk9.cell0 4) (hk9.cell0 5)) rfl ?_
          exact ⟨(hx1.trans hx16).put6 (by omega) 0 _ _ _ _ _ _, zeroQ, 9, rfl, zeroQ_at _, (.inr (.inr (.inr (.inl ⟨HVV.out, HFF.out, HC1.out, HTT.out, ⟨r, HR1.out, HN.out⟩, rfl, zeroQ_like⟩))))⟩
        · have HTT := Lib.hid (HR1.out.typed.1 t)
          have HSS := Lib.hid s
          clear s t
          go_wp2_with fail
          have hk9 := Hold.all6 (Hold.ext HK2.out hx16) (.int .i64 r.kind) (.int .i64 r.num) (.int .i64 r.proc) (.int .i64 r.peer) (.string r.name) (.slice r.a r.len r.cap)
          refine bodyPost_ret (rR_results _ _ (w.heap.size + 1 + 1) _ _ _ _ _ _ _ rfl rfl (hk9.cell0 0) (hk9.cell0 1) (hk9.cell0 2) (hk9.cell0 3) (hk9.cell0 4) (hk9.cell0 5)) rfl ?_
          exact ⟨(hx1.trans hx16).put6 (by omega) 0 _ _ _ _ _ _, r, 0, rfl, ((HA5.out.ext hx6).put6 HB2.out _ _ _ _ _ _ _).lies, .inr (.inr (.inr (.inr ⟨HVV.out, HFF.out, HC1.out, HTT.out, HR1.out, HSS.out, rfl⟩)))⟩

end Go.Proofs.YtdplphoohnnbcaaGreatDoor
