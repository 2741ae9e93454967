/- The library's contracts that the law DiagramShape needs, over lists of bytes. -/
import Derived.Test.YtmhapcnlpoilpaaGreatDoorK81
import Derived.Lib.SplitLaws
namespace Go.Proofs.YtmhapcnlpoilpaaGreatDoor
open Go.RowKit Go.Shelf
theorem bts_back (b : ByteArray) : bts b.data.toList = b := by simp [bts]
theorem bts_ne {l : List UInt8} (h : l ≠ []) : ((bts l).toList == (⟨#[]⟩ : ByteArray).toList) = false := by
 cases l with
 | nil => exact absurd rfl h
 | cons x r => rw [ByteArray.toList_eq, ByteArray.toList_eq]; rfl
theorem split_any (W : World) (h : MaxL W) (l : List UInt8) (c : UInt8) (L : List (List UInt8)) (hL : Lib.split l [c] = L) (hl : l.length ≤ 1000000) :
    Calls Tryz.prog 20 #[.string (bts l), .string ⟨#[c]⟩] W fun e w' => e = .returned (.slice (some ⟨W.heap.size, 0, none⟩) L.length L.length) ∧ w' = W.alloc (.cells (strV L).toArray 9) := by
 obtain ⟨m, hm⟩ := h
 have h1 := Tryz.strings_Split (bts l) ⟨#[c]⟩ m W (by rw [bts_size]; omega) hm (by show 1 ≤ 1; omega)
 have hB : (Lib.splitB ⟨#[c]⟩ 0 (Lib.countB (bts l) ⟨#[c]⟩) (bts l)).map (·.data.toList) = L := by
  rw [Lib.splitB_data]; exact hL
 have hlen := Lib.splitB_all ⟨#[c]⟩ (by show 1 ≤ 1; omega) 0 _ (bts l) rfl
 have e1 : Lib.countB (bts l) ⟨#[c]⟩ + 1 = L.length := by rw [← hlen, ← hB, List.length_map]
 have e2 : (Lib.splitB ⟨#[c]⟩ 0 (Lib.countB (bts l) ⟨#[c]⟩) (bts l)).map Value.string = strV L := by
  rw [← hB]; unfold strV; rw [List.map_map]
  exact List.map_congr_left fun b _ => by show Value.string b = Value.string (bts b.data.toList); rw [bts_back]
 rw [e1, e2] at h1
 exact h1
theorem splitK_len (sep : List UInt8) : ∀ (k : Nat) (s y : List UInt8), y ∈ Lib.splitK sep 0 k s → y.length ≤ s.length
 | 0, s, y, h => by
  have h : y ∈ [s] := h
  rw [List.mem_singleton.1 h]; exact Nat.le_refl _
 | k + 1, s, y, h => by
  unfold Lib.splitK at h
  split at h
  ·rw [List.mem_singleton.1 h]; exact Nat.le_refl _
  ·rcases List.mem_cons.1 h with h | h
   ·rw [h, List.length_take]; omega
   ·have := splitK_len sep k _ y h
    rw [List.length_drop] at this; omega
theorem splitK_cnt (sep : List UInt8) : ∀ (k : Nat) (s : List UInt8), (Lib.splitK sep 0 k s).length ≤ k + 1
 | 0, _ => Nat.le_refl _
 | k + 1, s => by
  unfold Lib.splitK
  split
  ·simp
  ·rw [List.length_cons]; have := splitK_cnt sep k (s.drop ((Lib.index s sep).toNat + sep.length)); omega
theorem Tr.cel_congr {T : Tr} {c d : Nat → Nat → Int} {p k : Nat} : ∀ {n : Nat}, (∀ i, i < n → c p i = d p i) → T.cel c p n k = T.cel d p n k
 | 0, _ => rfl
 | n + 1, h => by
  show (if c p n = (k : Int) then T.lab p n else T.cel c p n k) = if d p n = (k : Int) then T.lab p n else T.cel d p n k
  rw [h n (by omega), Tr.cel_congr fun i hi => h i (by omega)]
theorem Tr.dra_congr {T : Tr} {c d : Nat → Nat → Int} {m N W : Nat} : ∀ {k : Nat}, (∀ p i, p < k → i < T.en p → c p i = d p i) → T.dra c m N W none k = T.dra d m N W none k
 | 0, _ => rfl
 | k + 1, h => by
  have h1 : T.line c m W k = T.line d m W k := by
   unfold Tr.line
   rw [List.map_congr_left (g := fun j => padL (T.cel d k (T.en k) j) 45 W) fun j _ => by rw [Tr.cel_congr fun i hi => h k i (by omega) hi]]
  show T.dra c m N W none k ++ (padL (T.name k).data.toList 32 N ++ [32, 124] ++ T.line c m W k ++ [124, 10]) = T.dra d m N W none k ++ (padL (T.name k).data.toList 32 N ++ [32, 124] ++ T.line d m W k ++ [124, 10])
  rw [h1, Tr.dra_congr fun p i hp hi => h p i (by omega) hi]
theorem most_le {T : Tr} {r s : Nat → List Int} {m n : Int} (hV : T.Valid) (hr : T.Stamps r) (hs : T.Stamps s) (h1 : T.Most r m) (h2 : T.Most s n) : m ≤ n := by
 rcases h1.at' with e | ⟨k, i, hk, hi, e⟩
 ·rcases h2.at' with e2 | ⟨k, i, hk, hi, e2⟩
  ·omega
  ·have := hs.sm k i hk (by rw [← hs.len k hk]; exact hi); omega
 ·have hi' : i < T.en k := by rw [← hr.len k hk]; exact hi
  have h3 := Tr.Stamps.uniq hV hr hs (k, i) ⟨hk, hi'⟩
  have h3 : (r k).getD i 0 = (s k).getD i 0 := h3
  have := h2.le k i hk (by rw [hs.len k hk]; exact hi')
  omega
theorem cut_back {T : Tr} (hV : T.Valid) {l x : List UInt8} {v : Nat → Int} (h : DrawIs T none l) (hx : DrawIs T (some v) x) : Lib.replaceAll x [61] [45] = l ∧ x.length = l.length := by
 obtain ⟨r, m, h1, h2, rfl⟩ := h
 obtain ⟨s, n, g1, g2, rfl⟩ := hx
 have hm : m = n := by
  have a := most_le hV h1 g1 h2 g2
  have b := most_le hV g1 h1 g2 h2
  omega
 subst hm
 have hc : T.dra (fun p i => (r p).getD i 0 - 1) m.toNat (T.nw T.n) (T.wd T.n) none T.n = T.dra (fun p i => (s p).getD i 0 - 1) m.toNat (T.nw T.n) (T.wd T.n) none T.n := Tr.dra_congr fun p i hp hi => by
  have h3 : (r p).getD i 0 = (s p).getD i 0 := Tr.Stamps.uniq hV h1 g1 (p, i) ⟨hp, hi⟩
  show (r p).getD i 0 - 1 = (s p).getD i 0 - 1
  rw [h3]
 rw [hc]
 refine Tr.dra_back fun p hp => ⟨?_, fun h => (name_no (hV.pr p hp).1 _ h).2.2.1 rfl⟩
 rw [Tr.line_jn]
 refine jn_no (fun k => padL_no (Tr.cel_noc fun j hj => labL_noc (by decide) (by decide) (by decide) (by decide) ?_) (by decide) _) (by decide) _
 have hf : FormedP T p (T.kind p j) (T.peer p j) (T.msg p j) := hV.formed ⟨(p, j), hp, hj⟩
 rcases hf with h | h <;> omega
structure SRow (w : World) (b n : Nat) (f : Nat → List UInt8) : Prop where
 c : ∀ k, k < n → w.cell? ⟨b, k, none⟩ = some (.string (bts (f k)))
 lt : b < w.heap.size
theorem SRow.ext {w w' : World} {b n : Nat} {f : Nat → List UInt8} (h : SRow w b n f) (x : Ext w w') : SRow w' b n f := ⟨fun k hk => x.cell (h.c k hk), Nat.lt_of_lt_of_le h.lt x.le⟩
theorem SRow.new (W : World) (L : List (List UInt8)) : SRow (W.alloc (.cells (strV L).toArray 9)) W.heap.size L.length fun j => L.getD j [] := by
 refine ⟨fun k hk => ?_, by rw [World.size_alloc]; omega⟩
 have := World.cell?_alloc_mark W (strV L).toArray 9 (0, 0) k
 refine this.trans ?_
 simp [strV, hk]
theorem cut_any (W : World) (h : MaxL W) (l a b : List UInt8) (c : UInt8) (hc : Lib.cut l [c] = (a, b, true)) (hl : l.length ≤ 1000000) :
    Calls Tryz.prog 21 #[.string (bts l), .string ⟨#[c]⟩] W fun e w' => e = .returned (.tuple #[.string (bts a), .string (bts b), .bool true]) ∧ Ext W w' := by
 obtain ⟨m, hm⟩ := h
 have h1 := Tryz.strings_Cut (bts l) ⟨#[c]⟩ m W (by rw [bts_size]; omega) hm
 rw [show (bts l).data.toList = l from rfl, show (ByteArray.mk #[c]).data.toList = [c] from rfl, hc] at h1
 exact h1.mono fun e w' ⟨he, n, hw⟩ => ⟨he, by rw [hw]; exact (Ext.refl W).drewN n⟩
theorem trim_any (W : World) (l r : List UInt8) (hr : Lib.trimRightB l 32 = r) (hl : l.length ≤ 1000000) :
    Calls Tryz.prog 22 #[.string (bts l), .string ⟨#[32]⟩] W fun e w' => e = .returned (.string (bts r)) ∧ Ext W w' :=
 (Tryz.strings_TrimRight_one (bts l) 32 (by decide) W (by rw [bts_size]; omega)).mono fun e w' ⟨he, hw⟩ => ⟨by rw [he, ← hr]; rfl, by rw [hw]; exact Ext.refl W⟩
theorem hasSuf_any (W : World) (l : List UInt8) (hl : l.length ≤ 1000000) :
    Calls Tryz.prog 23 #[.string (bts (l ++ [124])), .string ⟨#[124]⟩] W fun e w' => e = .returned (.bool true) ∧ Ext W w' :=
 (Tryz.strings_HasSuffix (bts (l ++ [124])) ⟨#[124]⟩ W (by rw [bts_size, List.length_append]; simp; omega)).mono fun e w' ⟨he, hw⟩ => ⟨by rw [he]; exact congrArg (fun z => Ending.returned (Value.bool z)) (suffix_one l 124).1, by rw [hw]; exact Ext.refl W⟩
theorem trimSuf_any (W : World) (l : List UInt8) (hl : l.length ≤ 1000000) :
    Calls Tryz.prog 24 #[.string (bts (l ++ [124])), .string ⟨#[124]⟩] W fun e w' => e = .returned (.string (bts l)) ∧ Ext W w' :=
 (Tryz.strings_TrimSuffix (bts (l ++ [124])) ⟨#[124]⟩ W (by rw [bts_size, List.length_append]; simp; omega)).mono fun e w' ⟨he, hw⟩ => ⟨by rw [he]; exact congrArg (fun z => Ending.returned (Value.string (bts z))) (suffix_one l 124).2, by rw [hw]; exact Ext.refl W⟩
theorem replaceB_any (W : World) (h : MaxL W) (l : List UInt8) (hl : l.length ≤ 1000000) : Calls Tryz.prog 25 #[.string (bts l), .string ⟨#[61]⟩, .string ⟨#[45]⟩] W fun e w' => e = .returned (.string (bts (Lib.replaceAll l [61] [45]))) ∧ Ext W w' := by
 obtain ⟨m, hm⟩ := h
 have hc : Lib.countB (bts l) ⟨#[61]⟩ ≤ l.length := by
  show Lib.count l [61] ≤ _
  rw [Lib.count_one]; exact List.count_le_length
 exact (Tryz.strings_ReplaceAll (bts l) ⟨#[61]⟩ ⟨#[45]⟩ m W (by rw [bts_size]; omega) hm (by decide) (by rw [bts_size]; show _ + _ * 1 ≤ _; omega)).mono fun e w' h => ⟨h.1, h.2⟩
theorem Que.strs {w : World} {base : Nat} {a : Option Addr} {k c : Nat} {L : List (List UInt8)} (hq : Que w base 1 (.slice a k c) k (strV L)) (hL : L.length = k) : ∃ g o, ∀ i, i < k → a = some ⟨g, o, none⟩ ∧ g < w.heap.size ∧ w.cell? ⟨g, o + i, none⟩ = some (.string (bts (L.getD i []))) := by
 rcases hq.val with ⟨ao, hv, h0, _⟩ | ⟨g, off, cap', hv, h1, h2, h3, h4, h5, h6⟩
 ·cases hv
  exact ⟨0, 0, fun i hi => by omega⟩
 ·cases hv
  refine ⟨g, off, fun i hi => ⟨rfl, h2, ?_⟩⟩
  rw [h5 i (by omega)]
  simp [strV, hL, hi]
end Go.Proofs.YtmhapcnlpoilpaaGreatDoor
