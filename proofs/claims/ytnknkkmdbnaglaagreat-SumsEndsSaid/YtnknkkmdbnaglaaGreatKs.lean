/- Contract: slices.Clone at []int. Parts of the law LamportLeast: the least property; the table 'less' in memory. -/
import Derived.Test.YtnknkkmdbnaglaaGreatKf
import Derived.Test.YtnknkkmdbnaglaaGreatKa
import Derived.Test.YtnknkkmdbnaglaaGreatKr
namespace Go.Proofs.YtnknkkmdbnaglaaGreat
open Go.RowKit Go.Shelf
set_option maxRecDepth 100000 in
set_option maxHeartbeats 1000000 in
theorem clone_any (w : World) (base : Nat) (v : Value) (l : List Int) (h : IntOwn w base v l) (hl : l.length ≤ 1000) :
    Calls Tryz.prog 121 #[v] w fun e w' => ∃ v', e = .returned v' ∧ Que w' w.heap.size 1 v' l.length (intCells l) ∧ Ext w w' := by
 obtain ⟨j0, hj0, hy0, hy1, hy2⟩ := info_parts infoInt
 have HQ := Lib.hid (Que.own h)
 have hnl : ∀ (W : World) (a : Option Addr) (n c n' c' : Nat), (binOp .eql 28 (.slice a n c) (.slice none n' c')).run Tryz.prog W = .ok (.bool a.isNone) W := fun W a n c n' c' => Lib.run_eql_slice_nil W _ _ a n c n' c' Tryz.underlying28
 obtain ⟨_, ⟨hv, hn⟩ | ⟨g, cap, cur, hv, _⟩⟩ := h
 ·subst hv
  obtain rfl : l = [] := List.eq_nil_of_length_eq_zero hn
  clear hn
  go_enter Tryz.func121, Tryz.ntmps121
  go_wp2_with fail
  go_ret
  exact ⟨_, rfl, Que.nil _ _ _, Ext.refl _⟩
 ·subst hv
  obtain ⟨n, hn⟩ : ∃ n, n = l.length := ⟨_, rfl⟩
  rw [← hn] at HQ hl ⊢
  have HN := Lib.hid hn
  clear hn
  go_enter Tryz.func121, Tryz.ntmps121
  go_wp2_with (at_builtin; refine wpList_append_que _ rfl _ _ 28 28 rfl (base := w.heap.size) (e := 3) (size := 1) j0 (.int .i64 0) 8 Tryz.underlying28 hj0 hy0 hy1 hy2 rfl rfl (v := .slice (some ⟨w.heap.size, 0, none⟩) 0 0) (n := 0) (xs := []) ⟨rfl, .inl ⟨_, rfl, rfl, fun a e => by cases e; exact Nat.le_refl _⟩⟩ (by simp) (.slice (some ⟨g, 0, none⟩) n cap) n (intCells l) rfl ((HQ.out.ext (Ext.alloc _ _)).src Tryz.underlying28 (intCells_one _)) (by unfold maxLen; omega) (by omega) ?_; rintro v5 w5 hq5 hg5 -; have H5 := Lib.hid (And.intro hq5 hg5); clear hq5 hg5)
  go_ret
  refine ⟨_, rfl, ?_, ?_⟩
  ·have := H5.out.1
   rw [Nat.zero_add, List.nil_append] at this
   exact this
  ·exact ((Below.refl _ w).alloc (Nat.le_refl _) _).grown H5.out.2 (by simp) (by intro k hk; simp [Value.ownBlock] at hk; omega)
end Go.Proofs.YtnknkkmdbnaglaaGreat

namespace Go.Proofs.YtnknkkmdbnaglaaGreat
open Go.RowKit Go.Shelf
theorem Que.own_lt {w : World} {base size : Nat} {v : Value} {n : Nat} {xs : List Value} (h : Que w base size v n xs) (h0 : 0 < n) : ∀ b, v.ownBlock = some b → b < w.heap.size := by
 intro b e
 rcases h.val with ⟨ao, hv, hn, _⟩ | ⟨g, off, cap, hv, _, h2, _⟩
 ·omega
 ·rw [hv] at e; simp [Value.ownBlock] at e; omega
theorem Que.slice {w : World} {base size : Nat} {v : Value} {n : Nat} {xs : List Value} (h : Que w base size v n xs) : ∃ a c, v = .slice a n c := by
 rcases h.val with ⟨ao, hv, hn, _⟩ | ⟨g, off, cap, hv, _⟩
 ·exact ⟨ao, 0, by rw [hv, hn]⟩
 ·exact ⟨_, _, hv⟩
end Go.Proofs.YtnknkkmdbnaglaaGreat
