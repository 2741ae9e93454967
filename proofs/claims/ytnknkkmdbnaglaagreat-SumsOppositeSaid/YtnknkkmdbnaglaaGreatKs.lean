/- Contract: slices.Clone at []int. Parts of the law LamportLeast: the least property; the table 'less' in memory. -/
import Derived.Test.YtnknkkmdbnaglaaGreatKf
import Derived.Test.YtnknkkmdbnaglaaGreatKa
import Derived.Test.YtnknkkmdbnaglaaGreatKr
namespace Go.Proofs.YtnknkkmdbnaglaaGreat
open Go.RowKit Go.Shelf

set_option maxRecDepth 100000 in
set_option maxHeartbeats 1000000 in
theorem clone_any (w : World) (base : Nat) (v : Value) (l : List Int) (h : IntOwn w base v l) (hl : l.length ≤ 1000) :
    Calls Tryz.prog 121 #[v] w fun e w' => ∃ v', e = .returned v' ∧ Que w' w.heap.size 1 v' l.length (intCells l) ∧ Ext w w' := by
  obtain ⟨j0, hj0, hy0, hy1, hy2⟩ := info_parts infoInt
  have HQ := Lib.hid (Que.own h)
  have hnl : ∀ (W : World) (a : Option Addr) (n c n' c' : Nat), (binOp .eql 28 (.slice a n c) (.slice none n' c')).run Tryz.prog W = .ok (.bool a.isNone) W := fun W a n c n' c' => Lib.run_eql_slice_nil W _ _ a n c n' c' Tryz.underlying28
  obtain ⟨_, ⟨hv, hn⟩ | ⟨g, cap, cur, hv, _⟩⟩ := h
  · subst hv
    obtain rfl : l = [] := List.eq_nil_of_length_eq_zero hn
    clear hn
    go_enter Tryz.func121, Tryz.ntmps121
    go_wp2_with fail
    go_ret
    exact ⟨_, rfl, Que.nil _ _ _, Ext.refl _⟩
  · subst hv
    obtain ⟨n, hn⟩ : ∃ n, n = l.length := ⟨_, rfl⟩
    rw [← hn] at HQ hl ⊢
    have HN := Lib.hid hn
    clear hn
    go_enter Tryz.func121, Tryz.ntmps121
    go_wp2_with (at_builtin; refine wpList_append_que _ rfl _ _ 28 28 rfl (base := w.heap.size) (e := 3) (size := 1) j0 (.int .i64 0) 8 Tryz.underlying28 hj0 hy0 hy1 hy2 rfl rfl (v := .slice (some ⟨w.heap.size, 0, none⟩) 0 0) (n := 0) (xs := []) ⟨rfl, .inl ⟨_, rfl, rfl, fun a e => by cases e; exact Nat.le_refl _⟩⟩ (by simp) (.slice (some ⟨g, 0, none⟩) n cap) n (intCells l) rfl ((HQ.out.ext (Ext.alloc _ _)).src Tryz.underlying28 (intCells_one _)) (by unfold maxLen; omega) (by omega) ?_; rintro v5 w5 hq5 hg5 -; have H5 := Lib.hid (And.intro hq5 hg5); clear hq5 hg5)
    go_ret
    refine ⟨_, rfl, ?_, ?_⟩
    · have := H5.out.1
      rw [Nat.zero_add, List.nil_append] at this
      exact this
    · exact ((Below.refl _ w).alloc (Nat.le_refl _) _).grown H5.out.2 (by simp) (by intro k hk; simp [Value.ownBlock] at hk; omega)

end Go.Proofs.YtnknkkmdbnaglaaGreat

namespace Go.Proofs.YtnknkkmdbnaglaaGreat
open Go.RowKit Go.Shelf

/-- no list that fulfils the clock condition has a smaller number anywhere -/
theorem Tr.Stamps.least {T : Tr} {rows : Nat → List Int} (hR : T.Stamps rows) (hV : T.Valid) {M : Mx} (hC : T.CheckP M) : ∀ y, T.V y → stOf rows y ≤ M.val y.1 y.2 := by
  refine hV.ind fun y hy ih => ?_
  obtain ⟨p, i⟩ := y
  have e := hR.eq p i hy.1 hy.2
  have e' : stOf rows (p, i) = max (if i = 0 then 0 else (rows p).getD (i - 1) 0) (if T.kind p i = 3 then stOf rows (T.sndN (p, i)) else 0) + 1 := e
  have h0 := Tr.rck_iff.1 ((Tr.check_iff.2 hC).2.2 p i hy.1 hy.2)
  have hprev : (if i = 0 then 0 else (rows p).getD (i - 1) 0) < M.val p i := by
    by_cases hi0 : i = 0
    · rw [if_pos hi0]; exact h0.2.1
    · rw [if_neg hi0]
      have hd : T.Dir (p, i - 1) (p, i) := .inl ⟨rfl, by show i = i - 1 + 1; omega⟩
      have h1 := ih _ (Tr.Dir.V hy hd) hd
      have h2 := h0.2.2 _ hd
      have h3 : (rows p).getD (i - 1) 0 ≤ M.val p (i - 1) := h1
      have h4 : M.val p (i - 1) < M.val p i := h2
      omega
  have hsnd : (if T.kind p i = 3 then stOf rows (T.sndN (p, i)) else 0) < M.val p i := by
    by_cases hk : T.kind p i = 3
    · rw [if_pos hk]
      have hd : T.Dir (T.sndN (p, i)) (p, i) := .inr ⟨hk, rfl⟩
      have h1 := ih _ (Tr.Dir.V hy hd) hd
      have h2 := h0.2.2 _ hd
      exact Int.lt_of_le_of_lt h1 h2
    · rw [if_neg hk]; exact h0.2.1
  show stOf rows (p, i) ≤ M.val p i
  omega
/-- with one number less they do not fulfil it -/
theorem Tr.Stamps.less {T : Tr} {rows : Nat → List Int} (hR : T.Stamps rows) {p i : Nat} (hp : p < T.n) (hi : i < T.en p) {M : Mx} (h0 : M.val p i = stOf rows (p, i) - 1) (hm : ∀ k j, k < T.n → j < T.en k → (k, j) ≠ (p, i) → M.val k j = stOf rows (k, j)) : ¬ T.CheckP M := by
  intro hC
  have h1 := Tr.rck_iff.1 ((Tr.check_iff.2 hC).2.2 p i hp hi)
  have hl := hR.latest (M := mxOf T (fun p i => stOf rows (p, i))) hp hi rfl
  have hlt : (mxOf T (fun p i => stOf rows (p, i))).top (T.bk (p, i)) < M.val p i := by
    refine Mx.top_lt.2 ⟨h1.2.1, fun y hy => ?_⟩
    have hd := Tr.mem_bk.1 hy
    have hv : T.V y := Tr.Dir.V (y := (p, i)) ⟨hp, hi⟩ hd
    have h2 := h1.2.2 y hd
    have h3 := hR.dir_lt (x := (p, i)) ⟨hp, hi⟩ hd
    rw [hm y.1 y.2 hv.1 hv.2 (fun e => by rw [show y = (p, i) from e] at h3; omega)] at h2
    exact h2
  have hl' : (mxOf T (fun p i => stOf rows (p, i))).top (T.bk (p, i)) = stOf rows (p, i) - 1 := hl
  omega
/-- the table while it is filled: row j (j < k) is a copy of row j of the stamps -/
structure LsI (n g k : Nat) (rows : Nat → List Int) (vs : Nat → Value) (w : World) : Prop where
  cell : ∀ j, j < n → w.cell? ⟨g, j, none⟩ = some (vs j)
  froz : ∀ o, w.frozen? ⟨g, o, none⟩ = false
  lt : g < w.heap.size
  que : ∀ j, j < k → Que w (g + 1) 1 (vs j) (rows j).length (intCells (rows j))
  hi : ∀ j, j < k → 0 < (rows j).length → ∀ b, (vs j).ownBlock = some b → b < w.heap.size
  apart : ∀ i j, i < k → j < k → i ≠ j → 0 < (rows i).length → 0 < (rows j).length → ∀ b, (vs i).ownBlock = some b → (vs j).ownBlock ≠ some b
theorem Que.own_lt {w : World} {base size : Nat} {v : Value} {n : Nat} {xs : List Value} (h : Que w base size v n xs) (h0 : 0 < n) : ∀ b, v.ownBlock = some b → b < w.heap.size := by
  intro b e
  rcases h.val with ⟨ao, hv, hn, _⟩ | ⟨g, off, cap, hv, _, h2, _⟩
  · omega
  · rw [hv] at e; simp [Value.ownBlock] at e; omega
theorem Que.slice {w : World} {base size : Nat} {v : Value} {n : Nat} {xs : List Value} (h : Que w base size v n xs) : ∃ a c, v = .slice a n c := by
  rcases h.val with ⟨ao, hv, hn, _⟩ | ⟨g, off, cap, hv, _⟩
  · exact ⟨ao, 0, by rw [hv, hn]⟩
  · exact ⟨_, _, hv⟩
theorem LsI.ext {n g k : Nat} {rows : Nat → List Int} {vs : Nat → Value} {w w' : World} (h : LsI n g k rows vs w) (x : Ext w w') : LsI n g k rows vs w' :=
  ⟨fun j hj => x.cell (h.cell j hj), fun o => (x.frozen (p := ⟨g, o, none⟩) h.lt).trans (h.froz o), Nat.lt_of_lt_of_le h.lt x.le, fun j hj => (h.que j hj).ext x, fun j hj h0 b e => Nat.lt_of_lt_of_le (h.hi j hj h0 b e) x.le, h.apart⟩
/-- 'less[k] = v' -/
theorem LsI.put {n g k : Nat} {rows : Nat → List Int} {vs : Nat → Value} {w w5 : World} {v : Value} (h : LsI n g k rows vs w) (hk : k < n) (x : Ext w w5) (hq : Que w5 w.heap.size 1 v (rows k).length (intCells (rows k))) :
    LsI n g (k + 1) rows (updV vs k v) (w5.setCell ⟨g, k, none⟩ v) := by
  have h5 := h.ext x
  have hlt := h.lt
  have hoth : ∀ b, b ≠ g → (w5.setCell ⟨g, k, none⟩ v).heap[b]? = w5.heap[b]? := fun b hb => Below.heap_setCell _ _ _ _ hb
  have hsz : w5.heap.size ≤ (w5.setCell ⟨g, k, none⟩ v).heap.size := by rw [World.size_setCell]; exact Nat.le_refl _
  refine ⟨fun j hj => ?_, fun o => by rw [frozen_set]; exact h5.froz o, by rw [World.size_setCell]; exact h5.lt, fun j hj => ?_, fun j hj h0 b e => ?_, fun i j hi hj hne h0i h0j b e => ?_⟩
  · rw [cell_set w5 g k j v (h5.cell k hk)]
    unfold updV
    by_cases e : j = k
    · rw [if_pos e, if_pos e]
    · rw [if_neg e, if_neg e]; exact h5.cell j hj
  · unfold updV
    by_cases e : j = k
    · subst e; rw [if_pos rfl]
      exact (hq.mono (by omega)).same hsz fun b hb _ => hoth b (by omega)
    · rw [if_neg e]
      exact (h5.que j (by omega)).same hsz fun b hb _ => hoth b (by omega)
  · rw [World.size_setCell]
    unfold updV at e
    by_cases ej : j = k
    · rw [if_pos ej] at e; subst ej; exact hq.own_lt h0 b e
    · rw [if_neg ej] at e; exact h5.hi j (by omega) h0 b e
  · unfold updV at e ⊢
    by_cases ei : i = k
    · have ej : ¬ j = k := fun h => hne (ei.trans h.symm)
      rw [if_pos ei] at e
      rw [if_neg ej]
      intro e2
      have h1 := hq.block b e
      have h2 := h.hi j (by omega) h0j b e2
      omega
    · rw [if_neg ei] at e
      by_cases ej : j = k
      · rw [if_pos ej]
        intro e2
        have h1 := hq.block b e2
        have h2 := h.hi i (by omega) h0i b e
        omega
      · rw [if_neg ej]; exact h.apart i j (by omega) (by omega) hne h0i h0j b e
/-- the finished table, with the number at (p, i) changed, read as a list of lists -/
theorem LsI.mm {n g cap : Nat} {rows : Nat → List Int} {vs : Nat → Value} {w : World} (h : LsI n g n rows vs w) (hn : n ≤ 1000) (hl : ∀ k, k < n → (rows k).length ≤ 1000) {p i : Nat} (hp : p < n) (hi : i < (rows p).length) :
    ∃ b off c, vs p = .slice (some ⟨b, off, none⟩) (rows p).length c ∧ b < w.heap.size ∧ g ≠ b ∧ g < b ∧ w.cell? ⟨b, off + i, none⟩ = some (.int .i64 ((rows p).getD i 0)) ∧ w.frozen? ⟨b, off + i, none⟩ = false ∧
      ∀ x : Int, ∃ M : MM, M.n = n ∧ (∀ k, k < n → M.rn k = (rows k).length) ∧ M.a = some ⟨g, 0, none⟩ ∧ M.cap = cap ∧ M.At (w.setCell ⟨b, off + i, none⟩ (.int .i64 x)) ∧ M.val p i = x ∧ ∀ k j, k < n → j < (rows k).length → (k, j) ≠ (p, i) → M.val k j = (rows k).getD j 0 := by
  have hrow := h.que p hp
  rcases hrow.val with ⟨ao, hv, h0, _⟩ | ⟨b, off, c, hv, hb, hbl, hc, hcm, hcell, hall⟩
  · omega
  · have hil : i < (rows p).length * 1 := by omega
    have hci : w.cell? ⟨b, off + i, none⟩ = some (.int .i64 ((rows p).getD i 0)) := by
      rw [hcell i hil]
      unfold intCells
      rw [List.getElem?_map, List.getElem?_eq_getElem hi, List.getD_eq_getElem?_getD, List.getElem?_eq_getElem hi]; rfl
    refine ⟨b, off, c, hv, hbl, by omega, by omega, hci, (hall i (by omega)).2, fun x => ?_⟩
    have hex : ∀ k, k < n → ∃ s : Option Addr × Nat × Nat × Nat, vs k = .slice s.1 (rows k).length s.2.2.2 ∧ (0 < (rows k).length → s.1 = some ⟨s.2.1, s.2.2.1, none⟩ ∧ s.2.1 < w.heap.size ∧ g < s.2.1 ∧ (vs k).ownBlock = some s.2.1 ∧ ∀ j, j < (rows k).length → w.cell? ⟨s.2.1, s.2.2.1 + j, none⟩ = some (.int .i64 ((rows k).getD j 0))) := by
      intro k hk
      rcases (h.que k hk).val with ⟨ao, hv, h0, _⟩ | ⟨b, off, c, hv, hb, hbl, _, _, hcell, _⟩
      · exact ⟨(ao, 0, 0, 0), by rw [hv, h0], fun h => by omega⟩
      · refine ⟨(some ⟨b, off, none⟩, b, off, c), hv, fun _ => ⟨rfl, hbl, by show g < b; omega, by rw [hv]; rfl, fun j hj => ?_⟩⟩
        show w.cell? ⟨b, off + j, none⟩ = _
        rw [hcell j (by omega)]
        unfold intCells
        rw [List.getElem?_map, List.getElem?_eq_getElem hj, List.getD_eq_getElem?_getD, List.getElem?_eq_getElem hj]; rfl
    obtain ⟨s, hs⟩ := Go.Deep.choose_lt hex
    have hsp := hs p hp
    have hpe := (hsp.2 (by omega)).2.2.2.1
    rw [hv] at hpe
    have hpb : (s p).2.1 = b := by simp [Value.ownBlock] at hpe; omega
    have hpo : (s p).2.2.1 = off := by
      have e1 := hsp.1
      rw [hv, (hsp.2 (by omega)).1] at e1
      simp at e1
      exact e1.1.2.symm
    refine ⟨{ n := n, rn := fun k => (rows k).length, val := fun k j => if k = p ∧ j = i then x else (rows k).getD j 0, a := some ⟨g, 0, none⟩, b := g, off := 0, cap := cap, ra := fun k => (s k).1, rb := fun k => (s k).2.1, ro := fun k => (s k).2.2.1, rc := fun k => (s k).2.2.2 }, rfl, fun _ _ => rfl, rfl, rfl, ?_, if_pos ⟨rfl, rfl⟩, fun k j _ _ hne => if_neg fun e => hne (by rw [e.1, e.2])⟩
    have hgw : g < (w.setCell ⟨b, off + i, none⟩ (.int .i64 x)).heap.size := by rw [World.size_setCell]; exact h.lt
    refine ⟨by show n ≤ _; omega, fun _ => rfl, fun _ w' y => Nat.lt_of_lt_of_le hgw y.le, fun w' y k hk => ?_, fun k hk => by have := hl k hk; show (rows k).length ≤ _; omega, fun k hk h0 => ((hs k hk).2 h0).1, fun k hk h0 w' y => ?_, fun w' y k j hk hj => ?_⟩
    · show w'.cell? ⟨g, 0 + k, none⟩ = _
      rw [Nat.zero_add]
      refine (y.cell (v := vs k) ?_).trans (congrArg some (hs k hk).1)
      rw [cell_set_other _ _ _ _ _ (by show g ≠ b; omega)]; exact h.cell k hk
    · have := ((hs k hk).2 h0).2.1
      refine Nat.lt_of_lt_of_le ?_ y.le
      rw [World.size_setCell]; exact this
    · have h0 : 0 < (rows k).length := by have : j < (rows k).length := hj; omega
      have hk2 := (hs k hk).2 h0
      refine y.cell ?_
      show (w.setCell ⟨b, off + i, none⟩ (.int .i64 x)).cell? ⟨(s k).2.1, (s k).2.2.1 + j, none⟩ = some (.int .i64 (if k = p ∧ j = i then x else (rows k).getD j 0))
      by_cases ek : k = p
      · subst ek
        rw [hpb, hpo, cell_set w b (off + i) (off + j) _ hci]
        by_cases ej : j = i
        · subst ej; rw [if_pos rfl, if_pos ⟨rfl, rfl⟩]
        · rw [if_neg (by omega), if_neg (fun e => ej e.2)]
          have := hk2.2.2.2.2 j hj
          rw [hpb, hpo] at this; exact this
      · rw [if_neg (fun e => ek e.1)]
        have hne : (s k).2.1 ≠ b := fun e => by
          have h1 := h.apart k p hk hp ek h0 (by omega) (s k).2.1 hk2.2.2.2.1
          rw [hv] at h1
          exact h1 (by rw [e]; rfl)
        rw [cell_set_other _ _ _ _ _ hne]
        exact hk2.2.2.2.2 j hj

end Go.Proofs.YtnknkkmdbnaglaaGreat
