/- Plain: a diagram is read as the law DiagramShape reads it. The shelf's contracts at this dump, in plain words (by shelf.sh: numbers of ONE seat). -/
import Derived.Test.YtmhapcnlpoilpaaGreatDoorK80
import Derived.Test.YtmhapcnlpoilpaaGreatDoorK76
import Derived.Shelf.Strings.OnBuilder
import Derived.Shelf.Strings.BuilderK
import Derived.Shelf.Strings.Replace
import Derived.Shelf.Strings.Repeat
import Derived.Shelf.Strconv.Itoa2
import Derived.Shelf.Strconv.Itoa3
import Derived.Shelf.LaysM
import Derived.Shelf.Strings.Cut
import Derived.Shelf.Strings.Trim
import Derived.Shelf.Strings.Split
import Derived.Shelf.Strings.Prefix
import Derived.Test.YtmhapcnlpoilpaaGreatDoorProg
namespace Go.Proofs.YtmhapcnlpoilpaaGreatDoor
theorem name_no {s : ByteArray} (h : nameB s = true) : ∀ x, x ∈ s.data.toList → x ≠ 10 ∧ x ≠ 124 ∧ x ≠ 61 ∧ x ≠ 32 := by
 intro x hx
 have h1 : s.data.toList.all nameC = true := by
  unfold nameB at h; simp only [Bool.and_eq_true] at h; exact h.2
 have h2 := List.all_eq_true.1 h1 x hx
 refine ⟨?_, ?_, ?_, ?_⟩ <;> (intro e; subst e; exact absurd h2 (by decide))
def Tr.ln (T : Tr) (col : Nat → Nat → Int) (m N W p : Nat) : List UInt8 := padL (T.name p).data.toList 32 N ++ [32] ++ 124 :: (T.line col m W p ++ [124])
theorem Tr.dra_jn {T : Tr} {col : Nat → Nat → Int} {m N W : Nat} : ∀ k, T.dra col m N W none k = jn (T.ln col m N W) 10 k ++ if 0 < k then [10] else []
 | 0 => rfl
 | k + 1 => by
  show T.dra col m N W none k ++ (padL (T.name k).data.toList 32 N ++ [32, 124] ++ T.line col m W k ++ [124, 10]) = (jn (T.ln col m N W) 10 k ++ ((if 0 < k then [10] else []) ++ T.ln col m N W k)) ++ if 0 < k + 1 then [10] else []
  rw [Tr.dra_jn k, if_pos (by omega : 0 < k + 1)]
  unfold Tr.ln
  simp
theorem Tr.dra_split {T : Tr} {col : Nat → Nat → Int} {m N W n : Nat} (hn : 0 < n) (h : ∀ p, p < n → (10 : UInt8) ∉ T.ln col m N W p) : Lib.split (T.dra col m N W none n) [10] = (List.range n).map (T.ln col m N W) ++ [[]] := by
 have e : T.dra col m N W none n = Lib.join ((List.range n).map (T.ln col m N W) ++ [[]]) [10] := by
  rw [Tr.dra_jn, join_snoc, join_jn, if_pos hn, if_neg (by simp; omega), List.append_nil]
 rw [e]
 refine split_join (by simp) fun y hy => ?_
 rcases List.mem_append.1 hy with h1 | h1
 ·obtain ⟨p, hp, rfl⟩ := List.mem_map.1 h1
  exact h p (List.mem_range.1 hp)
 ·rw [List.mem_singleton.1 h1]; simp
theorem cut_at {c : UInt8} {a b : List UInt8} (h : c ∉ a) : Lib.cut (a ++ c :: b) [c] = (a, b, true) := by
 unfold Lib.cut
 rw [index_app h, if_pos (by omega), Int.toNat_natCast, List.take_left]
 have h4 : (a ++ c :: b).drop (a.length + [c].length) = b := by
  rw [← List.drop_drop, List.drop_left]; rfl
 rw [h4]
theorem trim_name {l : List UInt8} (h : ∀ x, x ∈ l → x ≠ 32) (n : Nat) : Lib.trimRightB (padL l 32 n ++ [32]) 32 = l := by
 unfold Lib.trimRightB padL
 have e : ∀ k, (List.replicate k (32 : UInt8) ++ [32]).reverse = List.replicate (k + 1) 32 := fun k => by
  rw [List.reverse_append, List.reverse_replicate]; rfl
 have d : ∀ (k : Nat) (r : List UInt8), (∀ x, x ∈ r → x ≠ 32) → (List.replicate k (32 : UInt8) ++ r).dropWhile (· == 32) = r := by
  intro k r hr
  induction k with
  | zero =>
   cases r with
   | nil => rfl
   | cons x r => rw [List.replicate_zero, List.nil_append, List.dropWhile_cons_of_neg]; simpa using hr x (by simp)
  | succ k ih => rw [List.replicate_succ, List.cons_append, List.dropWhile_cons_of_pos (by simp)]; exact ih
 rw [List.append_assoc, List.reverse_append, e, d _ _ fun x hx => h x (List.mem_reverse.1 hx), List.reverse_reverse]
theorem suffix_one (l : List UInt8) (c : UInt8) : Lib.hasSuffix (l ++ [c]) [c] = true ∧ Lib.trimSuffix (l ++ [c]) [c] = l := by
 have h : Lib.hasSuffix (l ++ [c]) [c] = true := by
  unfold Lib.hasSuffix
  rw [List.isSuffixOf_iff_suffix]; exact List.suffix_append l [c]
 refine ⟨h, ?_⟩
 unfold Lib.trimSuffix
 rw [if_pos h]; simp
def qr (x : UInt8) : UInt8 := if x = 61 then 45 else x
theorem qr_map {l : List UInt8} (h : (61 : UInt8) ∉ l) : l.map qr = l := by
 conv => rhs; rw [← List.map_id l]
 refine List.map_congr_left fun x hx => ?_
 have : x ≠ 61 := by intro e; subst e; exact h hx
 unfold qr
 rw [if_neg this]; rfl
theorem qr_rp {l : List UInt8} (h : (61 : UInt8) ∉ l) : (l.map rp).map qr = l := by
 rw [List.map_map]
 conv => rhs; rw [← List.map_id l]
 refine List.map_congr_left fun x hx => ?_
 have h1 : x ≠ 61 := by intro e; subst e; exact h hx
 show qr (rp x) = x
 unfold qr rp
 by_cases e : x = 45
 ·rw [if_pos e, if_pos rfl, e]
 ·rw [if_neg e, if_neg h1]
theorem Tr.lineC_back {T : Tr} {col : Nat → Nat → Int} {m W p : Nat} {v : Nat → Int} (h : (61 : UInt8) ∉ T.line col m W p) : (T.lineC col m W (some v) p).map qr = T.line col m W p := by
 show List.map qr (if 0 < v p then _ else _) = _
 by_cases h0 : 0 < v p
 ·rw [if_pos h0]
  show List.map qr (Lib.replaceAll ((T.line col m W p).take _) [45] [61] ++ (T.line col m W p).drop _) = _
  rw [replace_one 45 61 (by decide), List.map_append]
  have h1 : ∀ e, (61 : UInt8) ∉ (T.line col m W p).take e := fun e hm => h (List.mem_of_mem_take hm)
  have h2 : ∀ e, (61 : UInt8) ∉ (T.line col m W p).drop e := fun e hm => h (List.mem_of_mem_drop hm)
  rw [show (fun x : UInt8 => if x = 45 then (61 : UInt8) else x) = rp from rfl, qr_rp (h1 _), qr_map (h2 _), List.take_append_drop]
 ·rw [if_neg h0]; exact qr_map h
theorem Tr.dra_back {T : Tr} {col : Nat → Nat → Int} {m N W : Nat} {v : Nat → Int} : ∀ {k : Nat}, (∀ p, p < k → (61 : UInt8) ∉ T.line col m W p ∧ (61 : UInt8) ∉ (T.name p).data.toList) → Lib.replaceAll (T.dra col m N W (some v) k) [61] [45] = T.dra col m N W none k ∧ (T.dra col m N W (some v) k).length = (T.dra col m N W none k).length
 | 0, _ => ⟨by rw [replace_one 61 45 (by decide)]; rfl, rfl⟩
 | k + 1, h => by
  obtain ⟨i1, i2⟩ := Tr.dra_back (T := T) (col := col) (m := m) (N := N) (W := W) (v := v) (k := k) fun p hp => h p (by omega)
  obtain ⟨h1, h2⟩ := h k (by omega)
  rw [replace_one 61 45 (by decide)] at i1 ⊢
  have i1 : (T.dra col m N W (some v) k).map qr = T.dra col m N W none k := i1
  constructor
  ·show (T.dra col m N W (some v) k ++ (padL (T.name k).data.toList 32 N ++ [32, 124] ++ T.lineC col m W (some v) k ++ [124, 10])).map qr = T.dra col m N W none k ++ (padL (T.name k).data.toList 32 N ++ [32, 124] ++ T.line col m W k ++ [124, 10])
   rw [List.map_append, List.map_append, List.map_append, List.map_append, i1, Tr.lineC_back h1, qr_map (padL_no h2 (by decide) N)]; rfl
  ·show (T.dra col m N W (some v) k ++ (padL (T.name k).data.toList 32 N ++ [32, 124] ++ T.lineC col m W (some v) k ++ [124, 10])).length = (T.dra col m N W none k ++ (padL (T.name k).data.toList 32 N ++ [32, 124] ++ T.line col m W k ++ [124, 10])).length
   simp only [List.length_append, i2, Tr.lineC_len]
theorem Tr.nw_geS {T : Tr} {p : Nat} : ∀ {k : Nat}, p < k → (T.name p).size ≤ T.nw k
 | k + 1, h => by
  by_cases e : p = k
  ·subst e; exact Nat.le_max_right _ _
  ·exact Nat.le_trans (Tr.nw_geS (k := k) (by omega)) (Nat.le_max_left _ _)
structure DraOk (T : Tr) (ln : Nat → List UInt8) (nm lin : Nat → List UInt8) (N K : Nat) : Prop where
 eq : ∀ p, ln p = padL (nm p) 32 N ++ [32] ++ 124 :: (lin p ++ [124])
 name : ∀ p, T.name p = bts (nm p)
 cut : ∀ p, p < T.n → Lib.cut (ln p) [124] = (padL (nm p) 32 N ++ [32], lin p ++ [124], true)
 len : ∀ p, p < T.n → (ln p).length = K
 trim : ∀ p, p < T.n → Lib.trimRightB (padL (nm p) 32 N ++ [32]) 32 = nm p
 wrd : ∀ p, p < T.n → (Lib.split (lin p) [45]).filter (· ≠ []) = (List.range (T.en p)).map (T.lab p)
theorem drawIs_ok {T : Tr} (hV : T.Valid) {l : List UInt8} (h : DrawIs T none l) : ∃ ln nm lin N K, DraOk T ln nm lin N K ∧ Lib.split l [10] = (List.range T.n).map ln ++ [[]] := by
 obtain ⟨rows, m, hs, hm, rfl⟩ := h
 have hmg : ∀ p i, p < T.n → i < T.en p → 0 ≤ T.msg p i := fun p i hp hi => by
  have hf : FormedP T p (T.kind p i) (T.peer p i) (T.msg p i) := hV.formed ⟨(p, i), hp, hi⟩
  rcases hf with h | h <;> omega
 have hline : ∀ (c : UInt8), (∀ d, d < 10 → UInt8.ofNat (48 + d) ≠ c) → c ≠ 115 → c ≠ 114 → c ≠ 111 → c ≠ 45 → ∀ p, p < T.n → c ∉ T.line (fun p i => (rows p).getD i 0 - 1) m.toNat (T.wd T.n) p := by
  intro c h1 h2 h3 h4 h5 p hp
  rw [Tr.line_jn]
  exact jn_no (fun k => padL_no (Tr.cel_noc fun j hj => labL_noc h1 h2 h3 h4 (hmg p j hp hj)) h5 _) h5 _
 have hnm := fun p (hp : p < T.n) => name_no (hV.pr p hp).1
 refine ⟨T.ln (fun p i => (rows p).getD i 0 - 1) m.toNat (T.nw T.n) (T.wd T.n), fun p => (T.name p).data.toList, T.line (fun p i => (rows p).getD i 0 - 1) m.toNat (T.wd T.n), T.nw T.n, T.nw T.n + 3 + (if m.toNat = 0 then 0 else (m.toNat - 1) * (T.wd T.n + 1) + T.wd T.n), ⟨fun p => rfl, fun p => by simp [bts], fun p hp => ?_, fun p hp => ?_, fun p hp => ?_, fun p hp => ?_⟩, ?_⟩
 ·unfold Tr.ln
  refine cut_at fun hx => ?_
  rcases List.mem_append.1 hx with h1 | h1
  ·exact padL_no (fun h => (hnm p hp _ h).2.1 rfl) (by decide) _ h1
  ·exact absurd (List.mem_singleton.1 h1) (by decide)
 ·have h1 : (T.line (fun p i => (rows p).getD i 0 - 1) m.toNat (T.wd T.n) p).length = if m.toNat = 0 then 0 else (m.toNat - 1) * (T.wd T.n + 1) + T.wd T.n := by
    rw [Tr.line_jn]
    cases hk : m.toNat with
    | zero => rfl
    | succ k =>
     rw [if_neg (by omega), Nat.add_sub_cancel]
     exact jn_len (fun k => by
      have h2 := Tr.cel_len (T := T) (col := fun p i => (rows p).getD i 0 - 1) (p := p) (k := k) (c := T.wd T.n) (n := T.en p) fun j hj => Tr.wd_lab hj hp
      rw [padL_len]; omega) k
  have h2 := bytes_len (T.name p)
  have h3 := Tr.nw_geS (T := T) hp
  unfold Tr.ln
  simp only [List.length_append, List.length_cons, List.length_nil, padL_len, h1, h2]
  omega
 ·exact trim_name (fun x hx => (hnm p hp x hx).2.2.2) _
 ·rw [← wrds_split, Tr.line_jn, wrds_jn (fun k => Tr.cel_noc fun j hj => labL_no (hmg p j hp hj))]
  have hst : ∀ i j, i < j → j < T.en p → (rows p).getD i 0 < (rows p).getD j 0 := by
   intro i j hij hj
   induction j with
   | zero => omega
   | succ j ih =>
    have e := hs.eq p (j + 1) hp hj
    rw [if_neg (by omega), Nat.add_sub_cancel] at e
    by_cases e2 : i = j
    ·subst e2; omega
    ·have := ih (by omega) (by omega); omega
  exact Tr.neL_cel (fun i hi => by have := (hs.sm p i hp hi).1; show 0 ≤ (rows p).getD i 0 - 1; omega) (fun i j hij hj => by have := hst i j hij hj; show (rows p).getD i 0 - 1 < (rows p).getD j 0 - 1; omega) (fun i hi => labL_ne) (T.en p) (Nat.le_refl _) m.toNat fun j hj => by
   have := hm.le p j hp (by rw [hs.len p hp]; exact hj)
   show (rows p).getD j 0 - 1 < _
   omega
 ·refine Tr.dra_split (by have := hV.n1; omega) fun p hp hx => ?_
  unfold Tr.ln at hx
  rcases List.mem_append.1 hx with h1 | h1
  ·rcases List.mem_append.1 h1 with h1 | h1
   ·exact padL_no (fun h => (hnm p hp _ h).1 rfl) (by decide) _ h1
   ·exact absurd (List.mem_singleton.1 h1) (by decide)
  ·rcases List.mem_cons.1 h1 with h1 | h1
   ·exact absurd h1 (by decide)
   ·rcases List.mem_append.1 h1 with h1 | h1
    ·exact hline 10 (by decide) (by decide) (by decide) (by decide) (by decide) p hp h1
    ·exact absurd (List.mem_singleton.1 h1) (by decide)
end Go.Proofs.YtmhapcnlpoilpaaGreatDoor

namespace Go.Proofs.YtmhapcnlpoilpaaGreatDoor
open Go.Shelf
def Tryz.lays162_ren : Go.Shelf.Ren := ⟨fun | 162 => 22 | 232 => 51 | 227 => 52 | 234 => 53 | 236 => 54 | 228 => 103 | 271 => 104 | 151 => 105 | 120 => 153 | 197 => 108 | 152 => 154 | 260 => 157 | 137 => 193 | 119 => 194 | 224 => 151 | 225 => 150 | 217 => 149 | 266 => 191 | n => n, fun | 9 => 9 | 4 => 4 | 3 => 3 | 5 => 5 | 117 => 91 | 116 => 90 | 0 => 0 | 124 => 94 | 21 => 21 | 105 => 140 | 46 => 184 | 119 => 225 | 139 => 228 | 138 => 227 | n => n, fun | 3 => 1 | 4 => 2 | n => n⟩
theorem Tryz.lays162 : Go.Proofs.Lays.n162 Tryz.prog Tryz.lays162_ren := {
 mixed := by kernel_rfl
 f119 := Tryz.func194.trans (congrArg some (by kernel_rfl))
 f120 := Tryz.func153.trans (congrArg some (by kernel_rfl))
 f137 := Tryz.func193.trans (congrArg some (by kernel_rfl))
 f151 := Tryz.func105.trans (congrArg some (by kernel_rfl))
 f152 := Tryz.func154.trans (congrArg some (by kernel_rfl))
 f162 := Tryz.func22.trans (congrArg some (by kernel_rfl))
 f197 := Tryz.func108.trans (congrArg some (by kernel_rfl))
 f217 := Tryz.func149.trans (congrArg some (by kernel_rfl))
 f224 := Tryz.func151.trans (congrArg some (by kernel_rfl))
 f225 := Tryz.func150.trans (congrArg some (by kernel_rfl))
 f227 := Tryz.func52.trans (congrArg some (by kernel_rfl))
 f228 := Tryz.func103.trans (congrArg some (by kernel_rfl))
 f232 := Tryz.func51.trans (congrArg some (by kernel_rfl))
 f234 := Tryz.func53.trans (congrArg some (by kernel_rfl))
 f236 := Tryz.func54.trans (congrArg some (by kernel_rfl))
 f260 := Tryz.func157.trans (congrArg some (by kernel_rfl))
 f266 := Tryz.func191.trans (congrArg some (by kernel_rfl))
 f271 := Tryz.func104.trans (congrArg some (by kernel_rfl))
 t0 := Tryz.underlying0
 a0 := Tryz.isAgg0
 z0 := Tryz.sizeOf0
 v0 := Tryz.zeroValue0
 t3 := Tryz.underlying3
 a3 := Tryz.isAgg3
 z3 := Tryz.sizeOf3
 v3 := Tryz.zeroValue3
 t4 := Tryz.underlying4
 a4 := Tryz.isAgg4
 z4 := Tryz.sizeOf4
 v4 := Tryz.zeroValue4
 t5 := Tryz.underlying5
 a5 := Tryz.isAgg5
 z5 := Tryz.sizeOf5
 v5 := Tryz.zeroValue5
 t9 := Tryz.underlying9
 a9 := Tryz.isAgg9
 z9 := Tryz.sizeOf9
 v9 := Tryz.zeroValue9
 t21 := Tryz.underlying21
 a21 := Tryz.isAgg21
 z21 := Tryz.sizeOf21
 v21 := Tryz.zeroValue21
 t46 := Tryz.underlying184
 a46 := Tryz.isAgg184
 z46 := Tryz.sizeOf184
 v46 := Tryz.zeroValue184
 t105 := Tryz.underlying140
 a105 := Tryz.isAgg140
 z105 := Tryz.sizeOf140
 v105 := Tryz.zeroValue140
 t116 := Tryz.underlying90
 a116 := Tryz.isAgg90
 z116 := Tryz.sizeOf90
 t117 := Tryz.underlying91
 a117 := Tryz.isAgg91
 z117 := Tryz.sizeOf91
 v117 := Tryz.zeroValue91
 t119 := Tryz.underlying225
 a119 := Tryz.isAgg225
 z119 := Tryz.sizeOf225
 t124 := Tryz.underlying94
 a124 := Tryz.isAgg94
 z124 := Tryz.sizeOf94
 v124 := Tryz.zeroValue94
 t138 := Tryz.underlying227
 a138 := Tryz.isAgg227
 z138 := Tryz.sizeOf227
 v138 := Tryz.zeroValue227
 t139 := Tryz.underlying228
 a139 := Tryz.isAgg228
 z139 := Tryz.sizeOf228
 v139 := Tryz.zeroValue228
 g3 := by kernel_rfl
 g4 := by kernel_rfl }
open Go.RowKit in
theorem Tryz.strings_TrimRight_one (s : ByteArray) (c : UInt8) (hc : c.toNat < 128) (w : World) (hs : s.size ≤ 9223372036854775807) :
    Calls Tryz.prog 22 #[.string s, .string ⟨#[c]⟩] w fun e w' => e = .returned (.string ⟨(Lib.trimRightB s.data.toList c).toArray⟩) ∧ w' = w := Any.strings_TrimRight_one Tryz.lays162 s c hc w hs
def Tryz.lays145_ren : Go.Shelf.Ren := ⟨fun | 145 => 21 | 220 => 50 | 219 => 102 | 217 => 149 | 225 => 150 | 224 => 151 | 267 => 152 | 266 => 191 | 314 => 192 | n => n, fun | 9 => 9 | 4 => 4 | 59 => 52 | 3 => 3 | 5 => 5 | 46 => 184 | 146 => 219 | 51 => 218 | n => n, fun | 1 => 0 | n => n⟩
theorem Tryz.lays145 : Go.Proofs.Lays.n145 Tryz.prog Tryz.lays145_ren := {
 mixed := by kernel_rfl
 f145 := Tryz.func21.trans (congrArg some (by kernel_rfl))
 f217 := Tryz.func149.trans (congrArg some (by kernel_rfl))
 f219 := Tryz.func102.trans (congrArg some (by kernel_rfl))
 f220 := Tryz.func50.trans (congrArg some (by kernel_rfl))
 f224 := Tryz.func151.trans (congrArg some (by kernel_rfl))
 f225 := Tryz.func150.trans (congrArg some (by kernel_rfl))
 f266 := Tryz.func191.trans (congrArg some (by kernel_rfl))
 f267 := Tryz.func152.trans (congrArg some (by kernel_rfl))
 f314 := Tryz.func192.trans (congrArg some (by kernel_rfl))
 t3 := Tryz.underlying3
 a3 := Tryz.isAgg3
 z3 := Tryz.sizeOf3
 v3 := Tryz.zeroValue3
 t4 := Tryz.underlying4
 a4 := Tryz.isAgg4
 z4 := Tryz.sizeOf4
 v4 := Tryz.zeroValue4
 t5 := Tryz.underlying5
 a5 := Tryz.isAgg5
 z5 := Tryz.sizeOf5
 v5 := Tryz.zeroValue5
 t9 := Tryz.underlying9
 a9 := Tryz.isAgg9
 z9 := Tryz.sizeOf9
 v9 := Tryz.zeroValue9
 t46 := Tryz.underlying184
 a46 := Tryz.isAgg184
 z46 := Tryz.sizeOf184
 v46 := Tryz.zeroValue184
 t51 := Tryz.underlying218
 a51 := Tryz.isAgg218
 z51 := Tryz.sizeOf218
 v51 := Tryz.zeroValue218
 t59 := Tryz.underlying52
 a59 := Tryz.isAgg52
 z59 := Tryz.sizeOf52
 v59 := Tryz.zeroValue52
 t146 := Tryz.underlying219
 a146 := Tryz.isAgg219
 z146 := Tryz.sizeOf219
 v146 := Tryz.zeroValue219
 g1 := by kernel_rfl }
open Go.RowKit Go.Lib in
theorem Tryz.strings_Cut (s sep : ByteArray) (m : Int) (w : World) (hs : s.size < 4294967281) (hm : w.cell? ⟨0, 0, none⟩ = some (.int .i64 m)) :
    Calls Tryz.prog 21 #[.string s, .string sep] w fun e w' => e = .returned (.tuple #[.string ⟨(Lib.cut s.data.toList sep.data.toList).1.toArray⟩, .string ⟨(Lib.cut s.data.toList sep.data.toList).2.1.toArray⟩, .bool (Lib.cut s.data.toList sep.data.toList).2.2]) ∧ ∃ n, w' = w.drewN n := Any.strings_Cut Tryz.lays145 s sep m w hs hm
def Tryz.lays100_ren : Go.Shelf.Ren := ⟨fun | 100 => 23 | 207 => 55 | n => n, fun | 9 => 9 | 4 => 4 | 3 => 3 | n => n, fun | n => n⟩
theorem Tryz.lays100 : Go.Proofs.Lays.n100 Tryz.prog Tryz.lays100_ren := {
 mixed := by kernel_rfl
 f100 := Tryz.func23.trans (congrArg some (by kernel_rfl))
 f207 := Tryz.func55.trans (congrArg some (by kernel_rfl))
 t3 := Tryz.underlying3
 a3 := Tryz.isAgg3
 z3 := Tryz.sizeOf3
 v3 := Tryz.zeroValue3
 t4 := Tryz.underlying4
 a4 := Tryz.isAgg4
 z4 := Tryz.sizeOf4
 v4 := Tryz.zeroValue4
 t9 := Tryz.underlying9
 a9 := Tryz.isAgg9
 z9 := Tryz.sizeOf9
 v9 := Tryz.zeroValue9 }
open Go.RowKit Go.Lib in
theorem Tryz.strings_HasSuffix (s p : ByteArray) (w : World) (hs : s.size ≤ 9223372036854775807) :
    Calls Tryz.prog 23 #[.string s, .string p] w fun e w' => e = .returned (.bool (Lib.hasSuffix s.data.toList p.data.toList)) ∧ w' = w := Any.strings_HasSuffix Tryz.lays100 s p w hs
def Tryz.lays102_ren : Go.Shelf.Ren := ⟨fun | 102 => 24 | 209 => 56 | 207 => 55 | n => n, fun | 9 => 9 | 4 => 4 | 3 => 3 | n => n, fun | n => n⟩
theorem Tryz.lays102 : Go.Proofs.Lays.n102 Tryz.prog Tryz.lays102_ren := {
 mixed := by kernel_rfl
 f102 := Tryz.func24.trans (congrArg some (by kernel_rfl))
 f207 := Tryz.func55.trans (congrArg some (by kernel_rfl))
 f209 := Tryz.func56.trans (congrArg some (by kernel_rfl))
 t3 := Tryz.underlying3
 a3 := Tryz.isAgg3
 z3 := Tryz.sizeOf3
 v3 := Tryz.zeroValue3
 t4 := Tryz.underlying4
 a4 := Tryz.isAgg4
 z4 := Tryz.sizeOf4
 v4 := Tryz.zeroValue4
 t9 := Tryz.underlying9
 a9 := Tryz.isAgg9
 z9 := Tryz.sizeOf9
 v9 := Tryz.zeroValue9 }
open Go.RowKit Go.Lib in
theorem Tryz.strings_TrimSuffix (s p : ByteArray) (w : World) (hs : s.size ≤ 9223372036854775807) :
    Calls Tryz.prog 24 #[.string s, .string p] w fun e w' => e = .returned (.string ⟨(Lib.trimSuffix s.data.toList p.data.toList).toArray⟩) ∧ w' = w := Any.strings_TrimSuffix Tryz.lays102 s p w hs
def Tryz.lays146_ren : Go.Shelf.Ren := ⟨fun | 146 => 20 | 221 => 49 | 268 => 99 | 138 => 100 | 143 => 101 | 195 => 147 | 197 => 108 | 218 => 148 | 219 => 102 | 260 => 157 | 217 => 149 | 225 => 150 | 224 => 151 | 267 => 152 | 266 => 191 | 314 => 192 | n => n, fun | 9 => 9 | 31 => 50 | 3 => 3 | 4 => 4 | 0 => 0 | 105 => 140 | 21 => 21 | 5 => 5 | 46 => 184 | 119 => 225 | 139 => 228 | 138 => 227 | 146 => 219 | 51 => 218 | n => n, fun | 1 => 0 | 3 => 1 | 4 => 2 | n => n⟩
theorem Tryz.lays146 : Go.Proofs.Lays.n146 Tryz.prog Tryz.lays146_ren := {
 mixed := by kernel_rfl
 f138 := Tryz.func100.trans (congrArg some (by kernel_rfl))
 f143 := Tryz.func101.trans (congrArg some (by kernel_rfl))
 f146 := Tryz.func20.trans (congrArg some (by kernel_rfl))
 f195 := Tryz.func147.trans (congrArg some (by kernel_rfl))
 f197 := Tryz.func108.trans (congrArg some (by kernel_rfl))
 f217 := Tryz.func149.trans (congrArg some (by kernel_rfl))
 f218 := Tryz.func148.trans (congrArg some (by kernel_rfl))
 f219 := Tryz.func102.trans (congrArg some (by kernel_rfl))
 f221 := Tryz.func49.trans (congrArg some (by kernel_rfl))
 f224 := Tryz.func151.trans (congrArg some (by kernel_rfl))
 f225 := Tryz.func150.trans (congrArg some (by kernel_rfl))
 f260 := Tryz.func157.trans (congrArg some (by kernel_rfl))
 f266 := Tryz.func191.trans (congrArg some (by kernel_rfl))
 f267 := Tryz.func152.trans (congrArg some (by kernel_rfl))
 f268 := Tryz.func99.trans (congrArg some (by kernel_rfl))
 f314 := Tryz.func192.trans (congrArg some (by kernel_rfl))
 t0 := Tryz.underlying0
 a0 := Tryz.isAgg0
 z0 := Tryz.sizeOf0
 v0 := Tryz.zeroValue0
 t3 := Tryz.underlying3
 a3 := Tryz.isAgg3
 z3 := Tryz.sizeOf3
 v3 := Tryz.zeroValue3
 t4 := Tryz.underlying4
 a4 := Tryz.isAgg4
 z4 := Tryz.sizeOf4
 v4 := Tryz.zeroValue4
 t5 := Tryz.underlying5
 a5 := Tryz.isAgg5
 z5 := Tryz.sizeOf5
 v5 := Tryz.zeroValue5
 t9 := Tryz.underlying9
 a9 := Tryz.isAgg9
 z9 := Tryz.sizeOf9
 v9 := Tryz.zeroValue9
 t21 := Tryz.underlying21
 a21 := Tryz.isAgg21
 z21 := Tryz.sizeOf21
 v21 := Tryz.zeroValue21
 t31 := Tryz.underlying50
 a31 := Tryz.isAgg50
 z31 := Tryz.sizeOf50
 v31 := Tryz.zeroValue50
 t46 := Tryz.underlying184
 a46 := Tryz.isAgg184
 z46 := Tryz.sizeOf184
 v46 := Tryz.zeroValue184
 t51 := Tryz.underlying218
 a51 := Tryz.isAgg218
 z51 := Tryz.sizeOf218
 v51 := Tryz.zeroValue218
 t105 := Tryz.underlying140
 a105 := Tryz.isAgg140
 z105 := Tryz.sizeOf140
 v105 := Tryz.zeroValue140
 t119 := Tryz.underlying225
 a119 := Tryz.isAgg225
 z119 := Tryz.sizeOf225
 t138 := Tryz.underlying227
 a138 := Tryz.isAgg227
 z138 := Tryz.sizeOf227
 v138 := Tryz.zeroValue227
 t139 := Tryz.underlying228
 a139 := Tryz.isAgg228
 z139 := Tryz.sizeOf228
 v139 := Tryz.zeroValue228
 t146 := Tryz.underlying219
 a146 := Tryz.isAgg219
 z146 := Tryz.sizeOf219
 v146 := Tryz.zeroValue219
 g1 := by kernel_rfl
 g3 := by kernel_rfl
 g4 := by kernel_rfl }
open Go.RowKit Go.Lib in
theorem Tryz.strings_Split (s sep : ByteArray) (m : Int) (w : World) (hs : s.size < 4294967281) (hm : w.cell? ⟨0, 0, none⟩ = some (.int .i64 m)) (h1 : 1 ≤ sep.size) :
    Calls Tryz.prog 20 #[.string s, .string sep] w fun e w' =>
     e = .returned (.slice (some ⟨w.heap.size, 0, none⟩) (Lib.countB s sep + 1) (Lib.countB s sep + 1)) ∧ w' = w.alloc (.cells ((Lib.splitB sep 0 (Lib.countB s sep) s).map Value.string).toArray 9) := Any.strings_Split Tryz.lays146 (by kernel_rfl) s sep m w hs hm h1
end Go.Proofs.YtmhapcnlpoilpaaGreatDoor
