/- Contracts: slices.Grow (from nil) and slices.Concat at []int. -/
import Derived.Test.YtecgigeeolindaaOrdP
import Derived.Lib.AppendZeros
namespace Go.Proofs.Ytecgigeeolindaa
open Go.RowKit Go.Shelf

theorem grow_own {w : World} (n cap : Nat) (hc : n ≤ cap) (hm : cap ≤ maxLen) : (w.drew.alloc (.cells (Builtin.zeroCells #[.int .i64 0] n ++ Builtin.zeroCells #[.int .i64 0] (cap - n)) 3)).ownsRow w.heap.size 3 1 (.slice (some ⟨w.heap.size, 0, none⟩) 0 cap) 0 [] := by
  refine ⟨rfl, .inr ⟨w.heap.size, cap, Builtin.zeroCells #[.int .i64 0] n ++ Builtin.zeroCells #[.int .i64 0] (cap - n), rfl, Nat.le_refl _, ?_, Nat.zero_le _, hm, ?_, by simp⟩⟩
  · show (w.heap.push _)[w.heap.size]? = _
    simp
  · rw [Array.size_append, size_zeroCells, size_zeroCells]; simp; omega
set_option maxRecDepth 100000 in
set_option maxHeartbeats 1000000 in
theorem grow_any (n : Nat) (hn : n ≤ 1000000) (w : World) :
    Calls Try.prog 66 #[.slice none 0 0, .int .i64 n] w fun e w' => ∃ v, e = .returned v ∧ w'.ownsRow w.heap.size 3 1 v 0 [] ∧ Ext w w' := by
  obtain ⟨j0, hj0, hy0, hy1, hy2⟩ := info_parts infoInt
  have d0 : decide ((n : Int) < 0) = false := decide_eq_false (by omega)
  by_cases h0 : n = 0
  · subst h0
    go_enter Try.func66, Try.ntmps66
    go_wp2_with fail
    go_ret
    exact ⟨_, rfl, World.ownsRow_nil _ _ _ _, Ext.refl _⟩
  · have d1 : decide ((0 : Int) < (n : Int)) = true := decide_eq_true (by omega)
    have hr := fun W => Lib.run_append_nil_zeros (P := Try.prog) W 41 3 41 3 j0 (.int .i64 0) .i64 .i64 Try.underlying41 Try.underlying3 hj0 hy0 n (by omega) (by rw [hy1]; omega) (by omega) (by rw [hy2]; omega)
    go_enter Try.func66, Try.ntmps66
    go_wp2_with (at_builtin; refine Lib.wpList_append_run _ rfl _ _ 41 3 rfl (.slice none 0 0) (.int .i64 n) rfl rfl _ _ (hr _) ?_)
    go_ret
    exact ⟨_, rfl, grow_own n _ (grownCap_ge _ _ _ _) (grownCap_le_maxLen _ _ _ _ (by unfold maxLen; omega)), (Ext.alloc _ _).drew⟩
/-- the numbers of a matrix, by events -/
def Tr.flat (T : Tr) (rows : Nat → List Int) (k i : Nat) : List Int := (T.evsTo k i).map fun e => (rows e.1.1).getD e.1.2 0
theorem Tr.flat_row {T : Tr} {rows : Nat → List Int} {k : Nat} (hk : k < T.n) : ∀ i, i ≤ T.en k → T.flat rows k i = T.flat rows k 0 ++ (List.range i).map fun j => (rows k).getD j 0
  | 0, _ => by simp
  | i + 1, h => by
    have ih := Tr.flat_row (T := T) (rows := rows) hk i (by omega)
    unfold Tr.flat at ih ⊢
    rw [Tr.evsTo_succ _ _ _ hk h, List.map_append, ih, List.range_succ, List.map_append, List.append_assoc]; rfl
theorem Tr.flat_next {T : Tr} {rows : Nat → List Int} {k : Nat} (hk : k < T.n) (hl : (rows k).length = T.en k) : T.flat rows (k + 1) 0 = T.flat rows k 0 ++ rows k := by
  have h := Tr.flat_row (T := T) (rows := rows) hk (T.en k) (Nat.le_refl _)
  have e : T.flat rows (k + 1) 0 = T.flat rows k (T.en k) := by unfold Tr.flat; rw [Tr.evsTo_next]
  rw [e, h]
  congr 1
  apply List.ext_getElem
  · simp [hl]
  · intro j h1 h2
    simp [List.getD_eq_getElem?_getD, List.getElem?_eq_getElem h2]
theorem Tr.flat_len {T : Tr} {rows : Nat → List Int} (k i : Nat) : (T.flat rows k i).length = (T.evsTo k i).length := by unfold Tr.flat; simp
theorem intCells_append (a b : List Int) : intCells (a ++ b) = intCells a ++ intCells b := by simp [intCells]
theorem intCells_one (l : List Int) : ∀ u ∈ intCells l, u.oneCell' = true := by
  intro u hu
  obtain ⟨x, _, rfl⟩ := List.mem_map.1 hu; rfl
def CatPost (T : Tr) (rows : Nat → List Int) (w : World) (e : Ending) (w' : World) : Prop := Ext w w' ∧ ∃ v, e = .returned v ∧ Que w' w.heap.size 1 v (T.flat rows T.n 0).length (intCells (T.flat rows T.n 0))
set_option maxRecDepth 100000 in
set_option maxHeartbeats 1000000 in
theorem concat_any (w : World) (T : Tr) (base bS cap : Nat) (rows : Nat → List Int) (vs : Nat → Value) (hS : StS base bS T.n rows vs w) (h0 : 0 < T.n) (hl : ∀ k, k < T.n → (rows k).length = T.en k) (hE : ∀ k, k < T.n → T.en k ≤ 1000) :
    Calls Try.prog 49 #[.slice (some ⟨bS, 0, none⟩) T.n cap] w (CatPost T rows w) := by
  obtain ⟨j0, hj0, hy0, hy1, hy2⟩ := info_parts infoInt
  have hn := hS.hn
  have s0 : ∀ w', Ext w w' → ∀ k, k < T.n → w'.cell? ⟨bS, k, none⟩ = some (vs k) := fun w' x k hk => x.cell (hS.cell k hk)
  have sb : ∀ w', Ext w w' → bS < w'.heap.size := fun w' x => Nat.lt_of_lt_of_le (cell_lt (hS.cell 0 h0) : bS < w.heap.size) x.le
  have hform : ∀ k, k < T.n → ∃ a c, vs k = .slice a (T.en k) c := fun k hk => by rw [← hl k hk]; exact ⟨_, _, (hS.own k hk).form.1⟩
  have hlen : ∀ k, k ≤ T.n → (T.evsTo k 0).length = tot T.en k := by
    intro k hk
    cases k with
    | zero => rfl
    | succ k => rw [← Tr.evsTo_next, Tr.evsTo_tot T k (T.en k) (by omega) (Nat.le_refl _)]; rfl
  have hbig : ∀ k, k ≤ T.n → tot T.en k ≤ 100000 := fun k hk => Nat.le_trans (tot_small (f := T.en) (n := k) (c := 1000) fun j hj => hE j (by omega)) (by omega)
  have HS := Lib.hid hS
  have HL := Lib.hid hl
  have HF := Lib.hid hform
  have HLN := Lib.hid hlen
  have HBG := Lib.hid hbig
  have HS0 := Lib.hid s0
  have hG := fun n hn W => grow_any n hn W
  have HG := Lib.hid hG
  have hww : Ext w w := Ext.refl _
  clear hS hl hform hlen hbig hG s0
  go_enter Try.func49, Try.ntmps49
  go_wp2_with fail
  go_loopg [3, 11] T.n (fun gg v3 v11 wr => ∃ k : Nat, k ≤ T.n ∧ gg = T.n - k ∧ v11 = .int .i64 k ∧ v3 = .int .i64 (tot T.en k) ∧ w = wr)
  case atStart => exact ⟨0, by omega, rfl, rfl, rfl, rfl⟩
  case round =>
    obtain ⟨k, hk, rfl, rfl, rfl, rfl⟩ := hrel
    by_cases hlt : k < T.n
    · have hlt' : (k : Int) < (T.n : Int) := by omega
      obtain ⟨ra, rc, hv⟩ := HF.out k hlt
      have sk : ∀ w', Ext w w' → w'.cell? ⟨bS, k, none⟩ = some (.slice ra (T.en k) rc) := fun w' x => by rw [← hv]; exact HS0.out w' x k hlt
      have hb := HBG.out k (by omega)
      have he := hE k hlt
      clear hv
      go_wp2_with fail
      go_roundg (T.n - (k + 1))
      case rel => exact ⟨k + 1, by omega, rfl, by go_num, by show _ = Value.int .i64 ((tot T.en k + T.en k : Nat) : Int); go_num, rfl⟩
      case measure => omega
    · have hke : k = T.n := by omega
      subst hke
      have hb := HBG.out T.n (Nat.le_refl _)
      have hGr := HG.out (tot T.en T.n) (by omega) w
      go_wp2_with (go_at_call 66; refine hGr.mono ?_; rintro e w2 ⟨v2, rfl, hown2, hx2⟩; have HO2 := Lib.hid (Que.own hown2); clear hown2)
      clear hGr
      go_loopg [6, 27] T.n (fun gg v6 v27 wi => ∃ k : Nat, k ≤ T.n ∧ gg = T.n - k ∧ v27 = .int .i64 k ∧ Ext w wi ∧ Que wi w.heap.size 1 v6 (T.flat rows k 0).length (intCells (T.flat rows k 0)))
      case atStart => exact ⟨0, by omega, rfl, rfl, hx2, HO2.out⟩
      case round =>
        obtain ⟨k, hk, rfl, rfl, hxi, hq⟩ := hrel
        have hii : Ext wr wr := Ext.refl _
        have HQ := Lib.hid hq
        clear hq
        by_cases hlt : k < T.n
        · have hlt' : (k : Int) < (T.n : Int) := by omega
          obtain ⟨ra, rc, hv⟩ := HF.out k hlt
          have sk : ∀ w', Ext w w' → w'.cell? ⟨bS, k, none⟩ = some (.slice ra (T.en k) rc) := fun w' x => by rw [← hv]; exact HS0.out w' x k hlt
          have hb2 := HBG.out k (by omega)
          have he := hE k hlt
          have hfl : (T.flat rows k 0).length = tot T.en k := by rw [Tr.flat_len]; exact HLN.out k (by omega)
          have hrl := HL.out k hlt
          have hsrc : Que wr base 1 (.slice ra (T.en k) rc) (rows k).length (intCells (rows k)) := by rw [← hv]; exact Que.own ((HS.out.own k hlt).kept hxi)
          have HSR := Lib.hid hsrc
          clear hv hsrc
          go_wp2_with (at_builtin; refine wpList_append_que _ rfl _ _ 41 41 rfl (base := w.heap.size) (e := 3) (size := 1) j0 (.int .i64 0) 8 Try.underlying41 hj0 hy0 hy1 hy2 rfl rfl HQ.out hxi.le _ _ _ rfl (HSR.out.src Try.underlying41 (intCells_one _)) (by rw [hfl, hrl]; unfold maxLen; omega) (by rw [hfl, hrl]; omega) ?_; rintro v7 w7 hq7 hg7 -; have H7 := Lib.hid (And.intro hq7 hg7); clear hq7 hg7)
          go_roundg (T.n - (k + 1))
          case rel =>
            refine ⟨k + 1, by omega, rfl, by go_num, Below.trans hxi ((Below.refl _ _).grown H7.out.2 hxi.le HQ.out.block), ?_⟩
            rw [Tr.flat_next hlt hrl, List.length_append, intCells_append]; exact H7.out.1
          case measure => omega
        · have hke : k = T.n := by omega
          subst hke
          go_wp2_with fail
          go_ret
          exact ⟨hxi, _, rfl, HQ.out⟩

end Go.Proofs.Ytecgigeeolindaa
