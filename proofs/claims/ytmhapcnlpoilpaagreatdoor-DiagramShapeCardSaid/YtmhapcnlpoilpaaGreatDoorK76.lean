/- Contract: diagram.Cut. Contracts of the reference of chapter 56: decimal, label, repeat, SameRows; text of the law. Contract of antecederef56: Columns. -/
import Derived.Test.YtmhapcnlpoilpaaGreatDoorK75
import Derived.Test.YtmhapcnlpoilpaaGreatDoorK70
import Derived.Test.YtmhapcnlpoilpaaGreatDoorK20
import Derived.Test.YtmhapcnlpoilpaaGreatDoorK71
import Derived.Deep.LoopGhost
import Derived.Laws.IdiomStrings
import Derived.Test.YtmhapcnlpoilpaaGreatDoorK18
import Derived.Test.YtmhapcnlpoilpaaGreatDoorK14
import Derived.Test.YtmhapcnlpoilpaaGreatDoorK15
import Derived.Test.YtmhapcnlpoilpaaGreatDoorK69
import Derived.Test.YtmhapcnlpoilpaaGreatDoorK66
namespace Go.Proofs.YtmhapcnlpoilpaaGreatDoor
open Go.RowKit Go.Shelf
def DCutPost (T : Tr) (n : Nat) (v : Nat → Int) (w : World) (e : Ending) (w' : World) : Prop := Ext w w' ∧ ((T.Valid ∧ T.IsCut n v ∧ ∃ l, DrawIs T (some v) l ∧ e = .returned (limV l)) ∨
 (T.Valid ∧ ¬ T.IsCut n v ∧ e = .returned (.tuple #[.string (bts []), .int .i64 18])) ∨ (¬ T.Valid ∧ e = .returned (.tuple #[.string (bts []), .int .i64 1])))
set_option maxRecDepth 100000 in
set_option maxHeartbeats 2000000 in
theorem dcut_any (w : World) (hTb : Tb w) (hML : MaxL w) (T : TM) (hT : T.At w) (a : Option Addr) (n cap g o : Nat) (v : Nat → Int) (hC : NumAt w n a g o v) : Calls Tryz.prog 11 #[T.val, .slice a n cap] w (DCutPost T.toTr n v w) := by
 have HVL := Lib.hid (fun W (x : Ext w W) => valid_any W T (hT.ext x))
 have HCN := Lib.hid (fun W (x : Ext w W) => ccon_any W T (hT.ext x) a n cap g o v (hC.ext x))
 have HDR := Lib.hid (fun W (x : Ext w W) (hI : T.toTr.IsCut n v) => draw_cut W (hTb.ext x) (hML.ext x) T (hT.ext x) hI.1.1 (fun p hp => by have := nameB_len (hI.1.1.pr p hp).1; omega) a g o cap v (by have := hC.ext x; rw [hI.1.2] at this; exact this) hI.2.1)
 simp only [TM.val] at HVL HDR HCN ⊢
 clear hTb hT hML hC
 go_enter Tryz.func11, Tryz.ntmps11
 go_upto_region 1 with fail
 refine boxed1 (w := w) (G := fun x => Code.wp _ _ _ _ x) ?_
 intro w1 hx1 hs1 ⟨l0, c0, _, _⟩
 have hx11 : Ext w1 w1 := Ext.refl _
 clear hs1
 go_wp2_with fail
 go_at_call 35
 refine (HVL.out w1 hx1).mono ?_
 rintro e w2 ⟨b, rfl, hb, hx2⟩
 have HB := Lib.hid hb
 have hxw2 := hx1.trans hx2
 clear hb
 cases b with
 | false =>
  go_wp2_with fail
  go_ret2
  exact ⟨hxw2, .inr (.inr ⟨fun h => absurd (HB.out.2 h) Bool.false_ne_true, rfl⟩)⟩
 | true =>
  have HV := Lib.hid (HB.out.1 rfl)
  clear HB
  go_wp2_with fail
  go_at_call 39
  refine (HCN.out w2 hxw2).mono ?_
  rintro e w3 ⟨b, rfl, hb, hx3⟩
  have HB := Lib.hid hb
  have hxw3 := hxw2.trans hx3
  have hx13 := hx2.trans hx3
  clear hb
  cases b with
  | false =>
   go_wp2_with fail
   go_ret2
   exact ⟨hxw3, .inr (.inl ⟨HV.out, fun h => absurd (HB.out.2 h) Bool.false_ne_true, rfl⟩)⟩
  | true =>
   have HI := Lib.hid (HB.out.1 rfl)
   obtain rfl : n = T.n := HI.out.1.2
   clear HB
   go_wp2_with fail
   go_at_call 38
   refine (HDR.out w3 hxw3 HI.out).mono ?_
   rintro e w4 ⟨hx4, rows, m, h1, h2, rfl⟩
   obtain ⟨l, hl⟩ : ∃ l, l = T.toTr.dra (fun p i => (rows p).getD i 0 - 1) m.toNat (T.toTr.nw T.n) (T.toTr.wd T.n) (some v) T.n := ⟨_, rfl⟩
   rw [← hl]
   have HD := Lib.hid (show DrawIs T.toTr (some v) l from ⟨rows, m, h1, h2, hl⟩)
   have HLI := Lib.hid (fun W => limited2_any W l)
   clear h1 h2 hl
   go_wp2_with (go_at_call 37; refine (HLI.out _).mono ?_; rintro e w5 ⟨rfl, hx5⟩)
   go_ret2
   exact ⟨(hxw3.trans hx4).trans hx5, .inl ⟨HV.out, HI.out, l, HD.out, by rw [limV_eq]; rfl⟩⟩
end Go.Proofs.YtmhapcnlpoilpaaGreatDoor

namespace Go.Proofs.YtmhapcnlpoilpaaGreatDoor
open Go.RowKit Go.Shelf
attribute [local go_sem] Oper.semAt_some
theorem dig_nat : ∀ d : Nat, d < 10 → ((UInt8.ofNat (48 + d)).toNat : Int) = 48 + (d : Int) := by decide
set_option maxRecDepth 100000 in
set_option maxHeartbeats 1000000 in
theorem rdec_any (n : Nat) : n ≤ 1000000 → ∀ w, Calls Tryz.prog 81 #[.int .i64 n] w fun e w' => e = .returned (.string (bts (Lib.decDigits n))) ∧ Ext w w' := by
 induction n using Nat.strongRecOn with
 | ind n ih =>
  intro hn w
  obtain ⟨d, hd⟩ : ∃ d : Nat, d = n % 10 := ⟨_, rfl⟩
  obtain ⟨q, hq⟩ : ∃ q : Nat, q = n / 10 := ⟨_, rfl⟩
  have hd10 : d < 10 := by omega
  have hmod : Int.tmod (n : Int) 10 = (d : Int) := by rw [Int.tmod_eq_emod_of_nonneg (by omega)]; omega
  have hdiv : Int.tdiv (n : Int) 10 = (q : Int) := by rw [Int.tdiv_eq_ediv_of_nonneg (by omega)]; omega
  have hw0 : IntKind.i64.wrap ((48 : Int) + (d : Int)) = 48 + (d : Int) := IntWalk.i64_in _ (by omega)
  have hwq : IntKind.i64.wrap (q : Int) = (q : Int) := IntWalk.i64_in _ (by omega)
  have hw1 : IntKind.u8.wrap ((48 : Int) + (d : Int)) = 48 + (d : Int) := by
   have : ∀ d : Nat, d < 10 → IntKind.u8.wrap ((48 : Int) + (d : Int)) = 48 + (d : Int) := by decide
   exact this d hd10
  obtain ⟨c, hc⟩ : ∃ c, c = UInt8.ofNat (48 + d) := ⟨_, rfl⟩
  have hcv : (convert 104 9 (.slice (some ⟨w.heap.size, 0, none⟩) 1 1)).run Tryz.prog (w.alloc (.cells #[.int .u8 (48 + (d : Int))] 5)) = .ok (.string (bts [c])) (w.alloc (.cells #[.int .u8 (48 + (d : Int))] 5)) :=
   run_convert_bytes_back _ _ _ _ ⟨w.heap.size, 0, none⟩ 1 [c] Tryz.underlying104 Tryz.underlying5 Tryz.underlying9 fun j hj => by
    obtain rfl : j = 0 := by simp at hj; omega
    show (w.alloc _).cell? ⟨w.heap.size, 0, none⟩ = some (.int .u8 ((c.toNat : Nat) : Int))
    rw [hc, dig_nat d hd10]
    exact World.cell?_alloc_mark w _ _ (0, 0) 0
  have hx1 : Ext w (w.alloc (.cells #[.int .u8 (48 + (d : Int))] 5)) := (Ext.refl w).alloc' _
  have HIH := Lib.hid (fun (h : 10 ≤ n) W => (ih q (by omega) (by omega) W))
  have HQ := Lib.hid (And.intro hd (And.intro hq hc))
  clear ih hd hq hc
  by_cases h10 : n < 10
  ·have b1 : decide ((10 : Int) ≤ (n : Int)) = false := decide_eq_false (by omega)
   have b1' : decide (10 ≤ n) = false := decide_eq_false (by omega)
   go_enter Tryz.func81, Tryz.ntmps81
   go_wp2_with fail
   go_ret
   exact ⟨by
    rw [Lib.decDigits, dif_pos h10, HQ.out.2.2, show d = n by have := HQ.out.1; omega]; rfl, hx1⟩
  ·have b1 : decide ((10 : Int) ≤ (n : Int)) = true := decide_eq_true (by omega)
   have b1' : decide (10 ≤ n) = true := decide_eq_true (by omega)
   have hih := fun W => HIH.out (by omega) W
   obtain ⟨x, hx⟩ : ∃ x, x = Lib.decDigits q := ⟨_, rfl⟩
   have hxl : x.length ≤ 1000001 := by rw [hx]; have := decDigits_len q; have := HQ.out.2.1; omega
   rw [← hx] at hih
   have HX := Lib.hid hx
   have HI2 := Lib.hid hih
   have hs1 := bts_size x
   have hs2 := bts_size [c]
   have hcat : ¬ 9223372036854775807 < x.length + 1 := by omega
   have h10' := Lib.hid h10
   clear hx hih h10
   go_enter Tryz.func81, Tryz.ntmps81
   go_wp2_with (go_at_call 81; refine (HI2.out _).mono ?_; rintro e w2 ⟨rfl, hx2⟩)
   go_ret
   exact ⟨by
    rw [Lib.decDigits, dif_neg h10'.out, ← HQ.out.2.1, ← HQ.out.1, ← HX.out, ← HQ.out.2.2]
    exact congrArg (fun z => Ending.returned (Value.string z)) (bts_append x [c]), hx1.trans hx2⟩
set_option maxRecDepth 100000 in
set_option maxHeartbeats 1000000 in
theorem rlabel_any (w : World) (k p m t : Int) (v : Value) (hm : 0 ≤ m ∧ m ≤ 199) :
    Calls Tryz.prog 44 #[.agg #[.int .i64 k, .int .i64 p, .int .i64 m, .int .i64 t, v]] w fun e w' => e = .returned (.string (bts (labL k m))) ∧ Ext w w' := by
 obtain ⟨d, hd⟩ : ∃ d, d = Lib.itoa m := ⟨_, rfl⟩
 have HIT := Lib.hid (fun W => (show Calls Tryz.prog 81 #[.int .i64 m] W (fun e w' => e = .returned (.string (bts d)) ∧ Ext W w') from by
  have h := rdec_any m.toNat (by omega) W
  rw [show ((m.toNat : Nat) : Int) = m by omega] at h
  rw [hd]; unfold Lib.itoa; rw [if_neg (by omega)]; exact h))
 have hdl : d.length ≤ 200 := by have := itoa_len m hm.1; rw [hd]; omega
 have HLB := Lib.hid (show labL k m = if k = 2 then 115 :: d else if k = 3 then 114 :: d else [111] from by rw [hd]; rfl)
 have hds := bts_size d
 have hcat : ¬ 9223372036854775807 < 1 + d.length := by omega
 clear hd
 go_enter Tryz.func44, Tryz.ntmps44
 go_upto_region 1 with fail
 refine boxed1 (w := w) (G := fun x => Code.wp _ _ _ _ x) ?_
 intro w1 hx1 hs1 ⟨l0, c0, _, _⟩
 have hx11 : Ext w1 w1 := Ext.refl _
 clear hs1
 by_cases h2 : k = 2
 ·have d1 : (k == 2) = true := by simpa using h2
  have HA := Lib.hid h2
  clear h2
  go_wp2_with (go_at_call 81; refine (HIT.out _).mono ?_; rintro e w2 ⟨rfl, hx2⟩)
  go_ret
  exact ⟨by rw [HLB.out, if_pos HA.out]; exact congrArg (fun z => Ending.returned (Value.string z)) (bts_append [115] d), hx1.trans hx2⟩
 ·have d1 : (k == 2) = false := by simpa using h2
  by_cases h3 : k = 3
  ·have d2 : (k == 3) = true := by simpa using h3
   have HA := Lib.hid (And.intro h2 h3)
   clear h2 h3
   go_wp2_with (go_at_call 81; refine (HIT.out _).mono ?_; rintro e w2 ⟨rfl, hx2⟩)
   go_ret
   exact ⟨by rw [HLB.out, if_neg HA.out.1, if_pos HA.out.2]; exact congrArg (fun z => Ending.returned (Value.string z)) (bts_append [114] d), hx1.trans hx2⟩
  ·have d2 : (k == 3) = false := by simpa using h3
   have HA := Lib.hid (And.intro h2 h3)
   clear h2 h3
   go_wp2_with fail
   go_ret
   exact ⟨by rw [HLB.out, if_neg HA.out.1, if_neg HA.out.2]; rfl, hx1⟩
set_option maxRecDepth 100000 in
set_option maxHeartbeats 1000000 in
theorem rrepeat_any (w : World) (c : UInt8) (n : Nat) (hn : n ≤ 1000000) :
    Calls Tryz.prog 45 #[.string ⟨#[c]⟩, .int .i64 n] w fun e w' => e = .returned (.string (bts (List.replicate n c))) ∧ Ext w w' := by
 go_enter Tryz.func45, Tryz.ntmps45
 go_wp2_with fail
 go_loopg [5, 6] n (fun gg v5 v6 wr => ∃ k : Nat, k ≤ n ∧ gg = n - k ∧ v5 = .string (bts (List.replicate k c)) ∧ v6 = .int .i64 k ∧ Ext w wr)
 case atStart => exact ⟨0, by omega, rfl, rfl, rfl, Ext.refl _⟩
 case round =>
  obtain ⟨k, hk, rfl, rfl, rfl, hxr⟩ := hrel
  obtain ⟨x, hx⟩ : ∃ x, x = List.replicate k c := ⟨_, rfl⟩
  have hxl : x.length = k := by rw [hx, List.length_replicate]
  have hs1 := bts_size x
  have hs2 := bts_size [c]
  have hcat : ¬ 9223372036854775807 < x.length + 1 := by omega
  rw [← hx]
  have HX := Lib.hid (show List.replicate (k + 1) c = x ++ [c] by rw [hx, List.replicate_succ'])
  have HX0 := Lib.hid hx
  clear hx hxl
  by_cases hlt : k < n
  ·have hlt' : (k : Int) < (n : Int) := by omega
   go_wp2_with fail
   go_roundg (n - (k + 1))
   case rel => exact ⟨k + 1, by omega, rfl, by rw [HX.out]; exact congrArg Value.string (bts_append x [c]), by go_num, hxr⟩
   case measure => omega
  ·have hlt' : ¬ (k : Int) < (n : Int) := by omega
   obtain rfl : k = n := by omega
   go_wp2_with fail
   go_ret
   exact ⟨by rw [← HX0.out]; rfl, hxr⟩
set_option maxRecDepth 100000 in
set_option maxHeartbeats 1000000 in
theorem rtext_any (w : World) (l : List UInt8) :
    Calls Tryz.prog 15 #[.string (bts (limS l)), .int .i64 (limE l), .string (bts l)] w fun e w' => e = .returned (.bool true) ∧ Ext w w' := by
 have hsz := bts_size l
 by_cases h : 16384 < l.length
 ·have d1 : decide ((16384 : Int) < (l.length : Int)) = true := decide_eq_true (by omega)
  have d1' : decide (16384 < l.length) = true := decide_eq_true h
  have e1 : limS l = [] := if_pos h
  have e2 : limE l = 5 := if_pos h
  rw [e1, e2, show bts [] = ⟨#[]⟩ from rfl]
  clear h e1 e2
  go_enter Tryz.func15, Tryz.ntmps15
  go_wp2_with fail
  go_ret
  exact ⟨rfl, Ext.refl _⟩
 ·have d1 : decide ((16384 : Int) < (l.length : Int)) = false := decide_eq_false (by omega)
  have d1' : decide (16384 < l.length) = false := decide_eq_false h
  have e1 : limS l = l := if_neg h
  have e2 : limE l = 0 := if_neg h
  rw [e1, e2]
  clear h e1 e2
  go_enter Tryz.func15, Tryz.ntmps15
  go_wp2_with fail
  go_ret
  exact ⟨rfl, Ext.refl _⟩
end Go.Proofs.YtmhapcnlpoilpaaGreatDoor

namespace Go.Proofs.YtmhapcnlpoilpaaGreatDoor
open Go.RowKit Go.Shelf
attribute [local go_sem] Oper.semAt_some
theorem IoM.pushG {wb n L : Nat} {g0 : Nat → Int} {len : Nat → Nat} {v v' : Value} {rb : Nat → Nat} {f : Nat → Nat → Int} {wr w3 w5 : World} {c : Array Value} {t : TypeId} (h : IoM wb wr.heap.size n len v rb f wr) (hw : wb ≤ wr.heap.size) (x3 : Ext wr w3)
    (hn : IRow w3 wr.heap.size L g0) (hL : L = len n) (hf : ∀ i, f n i = g0 i)
    (hown : w5.ownsRow wb 25 1 v' (n + 1) (((List.range n).map fun k => Value.slice (some ⟨rb k, 0, none⟩) (len k) (len k)) ++ [.slice (some ⟨wr.heap.size, 0, none⟩) L L]))
    (hg : (w3.alloc (.cells c t)).grownBy w5 v.ownBlock) (hat : v'.ownBlock = v.ownBlock ∨ v'.ownBlock = some (w3.heap.size + 1)) :
    IoM wb w5.heap.size (n + 1) len v' (updC rb n wr.heap.size) f w5 ∧ Below wb wr w5 := by
 subst hL
 have hlt3 := hn.lt
 have hsz : w3.heap.size + 1 ≤ w5.heap.size := by have := hg.size; rw [World.size_alloc] at this; exact this
 have hbl : ∀ g, g < w3.heap.size → v.ownBlock ≠ some g → w5.heap[g]? = w3.heap[g]? := fun g h1 h2 => by
  rw [hg.block g (by rw [World.size_alloc]; omega) (fun e => h2 e.symm), Below.heap_alloc _ _ _ h1]
 have hold : ∀ k, k < n → updC rb n wr.heap.size k = rb k := fun k hk => by unfold updC; rw [if_neg (by omega)]
 have hnew : updC rb n wr.heap.size n = wr.heap.size := by unfold updC; rw [if_pos rfl]
 have hcase : ∀ k, k < n + 1 → k < n ∨ k = n := fun k hk => by omega
 have hv' : ∀ g, v'.ownBlock = some g → g < w5.heap.size := by
  intro g e
  obtain ⟨_, ⟨hv, _⟩ | ⟨g', cap, cur, hv, hg', hh, _⟩⟩ := hown
  ·subst hv; cases e
  ·subst hv; simp [Value.ownBlock] at e; subst e; exact (Array.getElem?_eq_some_iff.1 hh).1
 have hvw : v.ownBlock ≠ some wr.heap.size := fun e => by have := h.vhi _ e; omega
 refine ⟨⟨?_, hv', fun k hk => ?_, fun k hk => ?_, fun k hk => ?_, fun j k hj hk hne => ?_, fun k hk => ?_⟩, ?_⟩
 ·rw [List.range_succ, List.map_append]
  simp only [List.map_cons, List.map_nil, hnew]
  rw [List.map_congr_left (g := fun k => Value.slice (some ⟨rb k, 0, none⟩) (len k) (len k)) fun k hk => by rw [hold k (List.mem_range.1 hk)]]
  exact hown
 ·rcases hcase k hk with hk | rfl
  ·rw [hold k hk]
   have h1 := h.hi k hk
   refine (h.row k hk).block (by have := x3.le; omega) ?_
   rw [hbl _ (by have := x3.le; omega) (h.far k hk), x3.block _ h1]
  ·rw [hnew]
   exact (hn.block (by omega) (hbl _ hlt3 hvw)).congr fun i => (hf i).symm
 ·rcases hcase k hk with hk | rfl
  ·rw [hold k hk]; exact h.lo k hk
  ·rw [hnew]; exact hw
 ·rcases hcase k hk with hk | rfl
  ·rw [hold k hk]; have := h.hi k hk; have := x3.le; omega
  ·rw [hnew]; omega
 ·rcases hcase j hj with hj | rfl <;> rcases hcase k hk with hk | rfl
  ·rw [hold j hj, hold k hk]; exact h.inj j k hj hk hne
  ·rw [hold j hj, hnew]; have := h.hi j hj; omega
  ·rw [hold k hk, hnew]; have := h.hi k hk; omega
  ·exact absurd rfl hne
 ·intro e
  rcases hat with e' | e'
  ·rcases hcase k hk with hk | rfl
   ·rw [hold k hk] at e; exact h.far k hk (e' ▸ e)
   ·rw [hnew] at e; exact hvw (e' ▸ e)
  ·rw [e', Option.some.injEq] at e
   rcases hcase k hk with hk | rfl
   ·rw [hold k hk] at e; have := h.hi k hk; have := x3.le; omega
   ·rw [hnew] at e; omega
 ·have b1 : Below wb w3 w5 := ((Below.refl wb w3).alloc (by have := x3.le; omega) _).grown hg (by rw [World.size_alloc]; have := x3.le; omega) (fun k e => by
    obtain ⟨_, ⟨hv, _⟩ | ⟨g', cap, cur, hv, hg', _⟩⟩ := h.own
    ·subst hv; cases e
    ·subst hv; simp [Value.ownBlock] at e; omega)
  exact (Below.mono x3 hw).trans b1
theorem IRow.set {w : World} {g n i : Nat} {f : Nat → Int} (h : IRow w g n f) (hi : i < n) (v : Int) : IRow (w.setCell ⟨g, i, none⟩ (.int .i64 v)) g n (fun k => if k = i then v else f k) := by
 refine ⟨fun k hk => ?_, fun o => by rw [frozen_set]; exact h.fr o, by rw [World.size_setCell]; exact h.lt⟩
 rw [cell_set w g i k _ (h.c i hi)]
 by_cases e : k = i
 ·simp only [e, if_true]
 ·simp only [e, if_false]; exact h.c k hk
theorem IRow.ext {w w' : World} {g n : Nat} {f : Nat → Int} (h : IRow w g n f) (x : Ext w w') : IRow w' g n f := h.block x.le (x.block g h.lt)
def topF (f : Nat → Nat → Int) (l : List NN) : Int := l.foldl (fun c y => max c (f y.1 y.2 + 1)) 0
theorem topF_snoc (f : Nat → Nat → Int) (l : List NN) (y : NN) : topF f (l ++ [y]) = max (topF f l) (f y.1 y.2 + 1) := by unfold topF; rw [List.foldl_append]; rfl
theorem topF_st {T : Tr} {rows : Nat → List Int} (hs : T.Stamps rows) {x : NN} (hx : T.V x) {f : Nat → Nat → Int} (h : ∀ y, y ∈ T.bk x → f y.1 y.2 = stOf rows y - 1) : topF f (T.bk x) = stOf rows x - 1 := by
 have e' : stOf rows x = max (if x.2 = 0 then 0 else (rows x.1).getD (x.2 - 1) 0) (if T.kind x.1 x.2 = 3 then stOf rows (T.sndN x) else 0) + 1 := hs.eq x.1 x.2 hx.1 hx.2
 have h1 : ∀ y, y ∈ T.bk x → f y.1 y.2 + 1 = stOf rows y := fun y hy => by have := h y hy; omega
 have v3 := (hs.sm (T.sndN x).1 (T.sndN x).2 (Tr.sndN_V hx).1 (Tr.sndN_V hx).2).1
 have v3 : 1 ≤ stOf rows (T.sndN x) := v3
 have v1 : 1 ≤ (rows x.1).getD (x.2 - 1) 0 := (hs.sm x.1 (x.2 - 1) hx.1 (by have := hx.2; omega)).1
 unfold Tr.bk at h1 ⊢
 by_cases i0 : x.2 = 0
 ·rw [if_neg (by omega : ¬ 0 < x.2)] at h1 ⊢
  rw [if_pos i0] at e'
  by_cases k3 : T.kind x.1 x.2 = 3
  ·rw [if_pos k3] at h1 e' ⊢
   have h2 := h1 (T.sndN x) (by simp)
   show max 0 (f (T.sndN x).1 (T.sndN x).2 + 1) = _
   omega
  ·rw [if_neg k3] at e' ⊢
   show (0 : Int) = _
   omega
 ·rw [if_pos (by omega : 0 < x.2)] at h1 ⊢
  rw [if_neg i0] at e'
  have h3 := h1 (x.1, x.2 - 1) (by simp)
  have h3 : f x.1 (x.2 - 1) + 1 = (rows x.1).getD (x.2 - 1) 0 := h3
  by_cases k3 : T.kind x.1 x.2 = 3
  ·rw [if_pos k3] at h1 e' ⊢
   have h2 := h1 (T.sndN x) (by simp)
   show max (max 0 (f x.1 (x.2 - 1) + 1)) (f (T.sndN x).1 (T.sndN x).2 + 1) = _
   omega
  ·rw [if_neg k3] at e' ⊢
   show max 0 (f x.1 (x.2 - 1) + 1) = _
   omega
def ColP (T : Tr) (rows : Nat → List Int) (f : Nat → Nat → Int) : Prop := ∀ p i, p < T.n → i < T.en p → f p i = -1 ∨ f p i = stOf rows (p, i) - 1
def NoCol (T : Tr) (f : Nat → Nat → Int) (p i : Nat) : Prop := 0 ≤ f p i ∨ ∃ y, y ∈ T.bk (p, i) ∧ f y.1 y.2 < 0
theorem ColP.fix {T : Tr} {rows : Nat → List Int} {f : Nat → Nat → Int} (h : ColP T rows f) (hV : T.Valid) (hn : ∀ p i, p < T.n → i < T.en p → NoCol T f p i) : ∀ p i, p < T.n → i < T.en p → f p i = stOf rows (p, i) - 1 := by
 have all : ∀ x, T.V x → 0 ≤ f x.1 x.2 := by
  refine hV.ind fun y hy ih => ?_
  rcases hn y.1 y.2 hy.1 hy.2 with h1 | ⟨z, hz, h2⟩
  ·exact h1
  ·have hd := Tr.mem_bk.1 hz
   have := ih z (Tr.Dir.V hy hd) hd
   omega
 intro p i hp hi
 rcases h p i hp hi with h1 | h1
 ·have := all (p, i) ⟨hp, hi⟩
  have : 0 ≤ f p i := this
  omega
 ·exact h1
def missU (T : Tr) (f : Nat → Nat → Int) : Nat := tot (fun p => tot (fun i => if f p i < 0 then 1 else 0) (T.en p)) T.n
theorem totU_lt {f g : Nat → Nat} {p : Nat} : ∀ {n : Nat}, p < n → (∀ k, k ≠ p → f k = g k) → f p < g p → tot f n < tot g n
 | n + 1, hp, he, hl => by
  show tot f n + f n < tot g n + g n
  by_cases e : p = n
  ·subst e
   have : tot f p = tot g p := tot_congr fun k hk => he k (by omega)
   omega
  ·have := totU_lt (n := n) (by omega) he hl
   have := he n (fun h => e h.symm)
   omega
theorem updF_eq {f : Nat → Nat → Int} {p i : Nat} {v : Int} : updF f p i v p i = v := if_pos ⟨rfl, rfl⟩
theorem updF_ne {f : Nat → Nat → Int} {p i k j : Nat} {v : Int} (h : ¬ (k = p ∧ j = i)) : updF f p i v k j = f k j := if_neg h
theorem missU_lt {T : Tr} {f : Nat → Nat → Int} {p i : Nat} {v : Int} (hp : p < T.n) (hi : i < T.en p) (h : f p i < 0) (hv : 0 ≤ v) : missU T (updF f p i v) < missU T f := by
 refine totU_lt hp (fun k hk => tot_congr fun j _ => ?_) (totU_lt hi (fun j hj => ?_) ?_)
 ·show (if updF f p i v k j < 0 then 1 else 0) = _
  rw [updF_ne fun h => hk h.1]
 ·show (if updF f p i v p j < 0 then 1 else 0) = _
  rw [updF_ne fun h => hj h.2]
 ·show (if updF f p i v p i < 0 then 1 else 0) < if f p i < 0 then 1 else 0
  rw [updF_eq, if_neg (Int.not_lt.2 hv), if_pos h]; exact Nat.zero_lt_one
theorem ColP.upd {T : Tr} {rows : Nat → List Int} {f : Nat → Nat → Int} (h : ColP T rows f) {p i : Nat} {v : Int} (hv : v = stOf rows (p, i) - 1) : ColP T rows (updF f p i v) := by
 intro q j hq hj
 unfold updF
 by_cases e : q = p ∧ j = i
 ·rw [if_pos e, e.1, e.2]; exact .inr hv
 ·rw [if_neg e]; exact h q j hq hj
structure RcW (T : TM) (w : World) (B g c : Nat) (rb : Nat → Nat) (f : Nat → Nat → Int) (wr : World) : Prop where
 h0 : Hold wr w.heap.size #[.slice (some ⟨T.b, T.off, none⟩) T.n T.cap]
 im : IoM (w.heap.size + 1) B T.n T.en (.slice (some ⟨g, 0, none⟩) T.n c) rb f wr
 bl : Ext w wr
 hi : B ≤ wr.heap.size
theorem RcW.ext {T : TM} {w : World} {B g c : Nat} {rb : Nat → Nat} {f : Nat → Nat → Int} {wr w' : World} (h : RcW T w B g c rb f wr) (x : Ext wr w') : RcW T w B g c rb f w' :=
 ⟨h.h0.ext x, h.im.ext h.hi x, h.bl.trans x, Nat.le_trans h.hi x.le⟩
theorem RcW.set {T : TM} {w : World} {B g c : Nat} {rb : Nat → Nat} {f : Nat → Nat → Int} {wr : World} (h : RcW T w B g c rb f wr) {p i : Nat} (hp : p < T.n) (hi : i < T.en p) (v : Int) :
    RcW T w B g c rb (updF f p i v) (wr.setCell ⟨rb p, i, none⟩ (.int .i64 v)) := by
 have h1 := h.im.lo p hp
 exact ⟨h.h0.other _ _ (by show _ ≠ rb p; omega), h.im.set hp hi (fun k j => rfl), h.bl.setCell (by show _ ≤ rb p; omega) _, by rw [World.size_setCell]; exact h.hi⟩
def RColPost (T : TM) (rows : Nat → List Int) (w : World) (e : Ending) (w' : World) : Prop := Ext w w' ∧ ∃ g c rb f, e = .returned (.slice (some ⟨g, 0, none⟩) T.n c) ∧ (ioMM g T.n c T.en rb f).At w' ∧ ∀ p i, p < T.n → i < T.en p → f p i = (rows p).getD i 0 - 1
set_option maxRecDepth 100000 in
set_option maxHeartbeats 4000000 in
theorem rcolumns_any (w : World) (T : TM) (hT : T.At w) (hV : T.toTr.Valid) (rows : Nat → List Int) (hR : T.toTr.Stamps rows) :
    Calls Tryz.prog 14 #[T.val] w (RColPost T rows w) := by
 obtain ⟨j0, hj0, hy0, hy1, hy2⟩ := info_parts infoInt
 obtain ⟨m0, hm0, hm1, hm2, hm3⟩ := info_parts infoIntsC
 have hn1 := hV.n1
 have hn8 := hV.n8
 have hE8 : ∀ k, k < T.n → T.en k ≤ 64 := fun k hk => (hV.pr k hk).2.2.2.2
 have pa := hT.P.pa (by omega)
 have pb := hT.P.pb (by omega)
 have p2 := hT.P.p2
 have hD := fun W (hx : Ext w W) p i hp hi => rdir_any W T (hT.ext hx) (Tr.valid_iff.1 hV).1 p i hp hi
 simp only [TM.val, pa] at hD
 have HD := Lib.hid hD
 have HV := Lib.hid hV
 have HR := Lib.hid hR
 have HTS := Lib.hid (show tot T.en T.n ≤ 512 by have h := tot_small hE8; omega)
 clear hT hV hR hD
 simp only [TM.val, pa]
 go_enter Tryz.func14, Tryz.ntmps14
 go_upto_region 1 with fail
 refine boxed1 (w := w) (G := fun x => Code.wp _ _ _ _ x) ?_
 intro w1 hx1 hs1 ⟨l0, c0, _, k0⟩
 have hx11 : Ext w1 w1 := Ext.refl _
 have K0 := Lib.hid k0
 have HS1 := Lib.hid hs1
 clear k0
 go_wp2_with fail
 clear hs1
 go_loopg [3, 4] T.n (fun gg v3 v4 wr => ∃ (k : Nat) (rb : Nat → Nat), k ≤ T.n ∧ gg = T.n - k ∧ v4 = .int .i64 k ∧ Ext w1 wr ∧ IoM (w.heap.size + 1) wr.heap.size k T.en v3 rb (fun _ _ => -1) wr)
 case atStart => exact ⟨0, fun _ => 0, by omega, rfl, rfl, hx11, IoM.nil _ _ _ _ _ _⟩
 case round =>
  obtain ⟨k, rb, hk, rfl, rfl, hxr, hI⟩ := hrel
  have HI := Lib.hid hI
  clear hI
  have hxw := hx1.trans hxr
  have hrr : Ext wr wr := Ext.refl _
  by_cases hlt : k < T.n
  ·have hlt' : (k : Int) < (T.n : Int) := by omega
   have hen := hE8 k hlt
   have HW := Lib.hid (show w.heap.size + 1 ≤ wr.heap.size by have := hxr.le; rw [HS1.out] at this; exact this)
   go_upto_region 6 with (at_make; refine wpList_make_full _ rfl _ _ 25 rfl wr.heap.size 3 j0 (.int .i64 0) 1 Tryz.underlying25 hj0 hy0 hy1 .i64 .i64 _ _ (T.en k) rfl rfl rfl rfl (by rw [hy2]; omega) (by unfold maxLen; omega) (Nat.le_refl _) ?_; intro w3 hown3 hg3; have hx3 : Ext wr w3 := (Below.refl _ _).grown hg3 (Nat.le_refl _) (by simp); have HR3 := Lib.hid (IRow.made hown3); clear hown3 hg3)
   obtain ⟨bn, hbn⟩ : ∃ z, z = wr.heap.size := ⟨_, rfl⟩
   rw [← hbn] at HR3 ⊢
   obtain ⟨wo, hwo⟩ : ∃ wo, wo = wr := ⟨_, rfl⟩
   have HBN := Lib.hid (show bn = wo.heap.size by rw [hwo]; exact hbn)
   have HIo := Lib.hid (show IoM (w.heap.size + 1) wo.heap.size k T.en u3 rb (fun _ _ => -1) wo by rw [hwo]; exact HI.out)
   have HWo := Lib.hid (show w.heap.size + 1 ≤ wo.heap.size by rw [hwo]; exact HW.out)
   have HXo := Lib.hid (show Ext w1 wo by rw [hwo]; exact hxr)
   have hx3o : Ext wo w3 := by rw [hwo]; exact hx3
   clear hbn HI HW hxr hx3 hwo
   go_wp2_with fail
   go_loopg [6] (T.en k) (fun gg v6 wi => ∃ i : Nat, i ≤ T.en k ∧ gg = T.en k - i ∧ v6 = .int .i64 i ∧ Ext wo wi ∧ IRow wi bn (T.en k) (fun j => if j < i then -1 else 0))
   case atStart => exact ⟨0, by omega, rfl, rfl, hx3o, ⟨fun j hj => HR3.out.c j hj, HR3.out.fr, HR3.out.lt⟩⟩
   case round =>
    obtain ⟨i, hi, rfl, rfl, hxi, hri⟩ := hrel
    have HRI := Lib.hid hri
    clear hri
    have hii : Ext wr wr := Ext.refl _
    by_cases hie : i < T.en k
    ·have hie' : (i : Int) < (T.en k : Int) := by omega
     have d0 : ∀ w', Ext wr w' → w'.cell? ⟨bn, i, none⟩ = some (.int .i64 0) := fun w' x => by
      rw [x.cell (HRI.out.c i hie), if_neg (by omega)]
     have df : ∀ w', Ext wr w' → w'.frozen? ⟨bn, i, none⟩ = false := fun w' x => (x.frozen (p := ⟨bn, i, none⟩) HRI.out.lt).trans (HRI.out.fr i)
     have dl : ∀ w', Ext wr w' → bn < w'.heap.size := fun w' x => Nat.lt_of_lt_of_le HRI.out.lt x.le
     go_upto_region 8 with fail
     have HR9 := Lib.hid ((HRI.out.set hie (-1)).congr (f' := fun j => if j < i + 1 then -1 else 0) fun j => by
      by_cases e : j = i
      ·rw [if_pos e, if_pos (by omega)]
      ·rw [if_neg e]
       by_cases e2 : j < i
       ·rw [if_pos e2, if_pos (by omega)]
       ·rw [if_neg e2, if_neg (by omega)])
     have HX9 := Lib.hid (hxi.setCell (p := ⟨bn, i, none⟩) (by rw [HBN.out]; exact Nat.le_refl _) (.int .i64 (-1)))
     clear d0 df dl
     generalize wr.setCell ⟨bn, i, none⟩ (.int .i64 (-1)) = w9 at HR9 HX9 ⊢
     go_wp2_with fail
     go_roundg (T.en k - (i + 1))
     case rel => exact ⟨i + 1, by omega, rfl, by go_num, HX9.out, HR9.out⟩
     case measure => omega
    ·have hie' : ¬ (i : Int) < (T.en k : Int) := by omega
     obtain rfl : i = T.en k := by omega
     have HRX := Lib.hid (show IRow wr wo.heap.size (T.en k) (fun _ => -1) from by
      rw [← HBN.out]; exact ⟨fun j hj => by rw [HRI.out.c j hj, if_pos hj], HRI.out.fr, HRI.out.lt⟩)
     go_wp2_with (at_builtin; refine wpList_append_own_at _ rfl _ _ 28 rfl (w.heap.size + 1) 25 m0 (.slice none 0 0) 1 24 Tryz.underlying28 hm0 hm1 hm2 hm3 rfl (by decide) u3 k _ rfl (by exact ownsRow_same HIo.out.own fun g e => (hxi.alloc' _).block g (HIo.out.vhi g e)) ⟨wr.heap.size, 0, none⟩ 1 1 [.slice (some ⟨bn, 0, none⟩) (T.en k) (T.en k)] rfl rfl (by exact news_ok wr [_] _) (by intro u hu; simp at hu; subst hu; rfl) (by unfold maxLen; omega) (by omega) (by have := HWo.out; have := hxi.le; simp; omega) ?_; rintro v5 w5 hown5 hg5 - hat5; have H5 := Lib.hid (IoM.pushG HIo.out HWo.out hxi HRX.out rfl (fun i => rfl) (by rw [← HBN.out]; exact hown5) hg5 (by simpa using hat5)); clear hown5 hg5 hat5)
     go_roundg (T.n - (k + 1))
     case rel => exact ⟨k + 1, _, by omega, rfl, by go_num, Below.trans HXo.out (by have := H5.out.2; rw [← HS1.out] at this; exact this), H5.out.1⟩
     case measure => omega
  ·have hke : k = T.n := by omega
   subst hke
   obtain ⟨g, c, hv5, hga, hgb, hgc⟩ := HI.out.form (by omega)
   subst hv5
   obtain ⟨B, hI6⟩ : ∃ B, RcW T w B g c rb (fun _ _ => -1) wr := ⟨wr.heap.size, Hold.ext K0.out hxr, HI.out, hxw, Nat.le_refl _⟩
   have HI6 := Lib.hid hI6
   clear hI6 hga hgb hgc
   go_wp2_with fail
   clear l0 c0 hxr hrr
   go_loopg [7] (missU T.toTr (fun _ _ => -1) + 1) (fun gg v7 wr => ∃ (f : Nat → Nat → Int) (mv : Bool), v7 = .bool mv ∧ RcW T w B g c rb f wr ∧ ColP T.toTr rows f ∧ (mv = true → missU T.toTr f < gg) ∧ (mv = false → ∀ p i, p < T.n → i < T.en p → NoCol T.toTr f p i))
   case atStart => exact ⟨_, true, rfl, HI6.out, fun p i _ _ => .inl rfl, fun _ => Nat.lt_succ_self _, fun h => by cases h⟩
   case round =>
    obtain ⟨f, mv, rfl, hI, hJ, hm1, hm2⟩ := hrel
    have hxr := hI.bl
    have HI := Lib.hid hI
    have HJ := Lib.hid hJ
    cases mv with
    | false =>
     have HE := Lib.hid (hJ.fix HV.out (hm2 rfl))
     clear hI hJ hm1 hm2
     go_wp2_with fail
     go_ret
     exact ⟨hxr, g, c, rb, f, rfl, HI.out.im.mm (by omega) (fun k hk => by have := hE8 k hk; omega), HE.out⟩
    | true =>
     have HG := Lib.hid (hm1 rfl)
     clear hI hJ hm1 hm2
     go_wp2_with fail
     go_loopg [7, 8] T.n (fun gg v7 v8 wi => ∃ (f2 : Nat → Nat → Int) (mv : Bool) (p : Nat), v7 = .bool mv ∧ v8 = .int .i64 p ∧ p ≤ T.n ∧ gg = T.n - p ∧ RcW T w B g c rb f2 wi ∧ ColP T.toTr rows f2 ∧ missU T.toTr f2 ≤ missU T.toTr f ∧ (mv = true → missU T.toTr f2 < missU T.toTr f) ∧ (mv = false → ∀ q i, q < p → i < T.en q → NoCol T.toTr f2 q i))
     case atStart => exact ⟨f, false, 0, rfl, rfl, by omega, rfl, HI.out, HJ.out, Nat.le_refl _, (fun h => by cases h), fun _ q i hq => by omega⟩
     case round =>
      obtain ⟨f2, mv, p, rfl, rfl, hp, rfl, hI, hJ, hm0, hm1, hm2⟩ := hrel
      have hxr := hI.bl
      have HI2 := Lib.hid hI
      have HJ2 := Lib.hid hJ
      have HM2 := Lib.hid (And.intro hm0 (And.intro hm1 hm2))
      obtain ⟨l0, c0, _, _⟩ := hI.h0.box
      have hrr : Ext wr wr := Ext.refl _
      clear hI hJ hm0 hm1 hm2
      by_cases hpn : p < T.n
      ·have hpn' : (p : Int) < (T.n : Int) := by omega
       have hen := hE8 p hpn
       go_wp2_with fail
       go_loopg [7, 9] (T.en p) (fun gg v7 v9 wi => ∃ (f3 : Nat → Nat → Int) (mv : Bool) (i : Nat), v7 = .bool mv ∧ v9 = .int .i64 i ∧ i ≤ T.en p ∧ gg = T.en p - i ∧ RcW T w B g c rb f3 wi ∧ ColP T.toTr rows f3 ∧ missU T.toTr f3 ≤ missU T.toTr f ∧ (mv = true → missU T.toTr f3 < missU T.toTr f) ∧ (mv = false → (∀ q i, q < p → i < T.en q → NoCol T.toTr f3 q i) ∧ ∀ j, j < i → NoCol T.toTr f3 p j))
       case atStart => exact ⟨f2, mv, 0, rfl, rfl, by omega, rfl, HI2.out, HJ2.out, HM2.out.1, HM2.out.2.1, fun h => ⟨HM2.out.2.2 h, fun j hj => by omega⟩⟩
       case round =>
        obtain ⟨f3, mv, i, rfl, rfl, hi, rfl, hI, hJ, hm0, hm1, hm2⟩ := hrel
        have hxr := hI.bl
        have HI3 := Lib.hid hI
        have HJ3 := Lib.hid hJ
        have HM3 := Lib.hid (And.intro hm0 (And.intro hm1 hm2))
        obtain ⟨l0, c0, _, _⟩ := hI.h0.box
        have hrr : Ext wr wr := Ext.refl _
        by_cases hli : i < T.en p
        ·have hli' : (i : Int) < (T.en p : Int) := by omega
         have i0 : ∀ w', Ext wr w' → w'.cell? ⟨g, p, none⟩ = some (.slice (some ⟨rb p, 0, none⟩) (T.en p) (T.en p)) := fun w' h => h.cell (HI3.out.im.cell.2 p hpn)
         have i1 : ∀ w', Ext wr w' → g < w'.heap.size := fun w' h => Nat.lt_of_lt_of_le HI3.out.im.cell.1 h.le
         have i2 : ∀ w', Ext wr w' → rb p < w'.heap.size := fun w' h => Nat.lt_of_lt_of_le (HI3.out.im.row p hpn).lt h.le
         have i3 : ∀ w', Ext wr w' → w'.cell? ⟨rb p, i, none⟩ = some (.int .i64 (f3 p i)) := fun w' h => h.cell ((HI3.out.im.row p hpn).c i hli)
         have hwi : IntKind.i64.wrap ((i : Int) + 1) = (i : Int) + 1 := IntWalk.i64_in _ (by omega)
         clear hI hJ hm0 hm1 hm2
         by_cases h0 : 0 ≤ f3 p i
         ·have b1 : decide (0 ≤ f3 p i) = true := decide_eq_true h0
          have HNC := Lib.hid (show NoCol T.toTr f3 p i from .inl h0)
          clear h0
          go_wp2_with fail
          go_roundg (T.en p - (i + 1))
          case rel => exact ⟨f3, mv, i + 1, rfl, by go_num, by omega, rfl, HI3.out, HJ3.out, HM3.out.1, HM3.out.2.1, fun h => ⟨(HM3.out.2.2 h).1, fun j hj => by
           by_cases e : j = i
           ·subst e; exact HNC.out
           ·exact (HM3.out.2.2 h).2 j (by omega)⟩⟩
          case measure => omega
         ·have b1 : decide (0 ≤ f3 p i) = false := decide_eq_false h0
          have HNEG := Lib.hid (show f3 p i < 0 by omega)
          have hBk := HD.out wr hxr p i hpn hli
          clear h0
          go_upto_region 22 with (go_at_call 41; refine hBk.mono ?_; rintro e w5 ⟨v7, rfl, hown2, hx5⟩; have HO2 := Lib.hid hown2; clear hown2)
          have HI5 := Lib.hid (HI3.out.ext hx5)
          have hxr5 := HI5.out.bl
          have hV0 : T.toTr.V (p, i) := ⟨hpn, hli⟩
          have HBV := Lib.hid (show ∀ y ∈ T.toTr.bk (p, i), T.toTr.V y from fun y hy => Tr.Dir.V hV0 (Tr.mem_bk.1 hy))
          obtain ⟨ll, hll⟩ : ∃ ll, ll = (T.toTr.bk (p, i)).map evI := ⟨_, rfl⟩
          rw [← hll] at HO2
          obtain ⟨a9, g9, c9, hv9, h9⟩ := HO2.out.shape
          subst hv9
          have H9 := Lib.hid h9
          have HLN := Lib.hid (show ll.length = (T.toTr.bk (p, i)).length by rw [hll]; exact List.length_map _)
          have HLL := Lib.hid hll
          have hLm : ll.length ≤ 2 := by rw [HLN.out]; exact T.toTr.bk_len (p, i)
          have h55 : Ext w5 w5 := Ext.refl _
          clear h9 hBk hll hV0 i0 i1 i2 i3 l0 c0 hrr
          go_wp2_with fail
          go_loopg [11, 12] ll.length (fun gg v11 v12 wk => ∃ j : Nat, j ≤ ll.length ∧ gg = ll.length - j ∧ v11 = .int .i64 (topF f3 ((T.toTr.bk (p, i)).take j)) ∧ v12 = .int .i64 j ∧ Ext w5 wk ∧ ∀ y, y ∈ (T.toTr.bk (p, i)).take j → 0 ≤ f3 y.1 y.2)
          case atStart => exact ⟨0, by omega, rfl, rfl, rfl, h55, fun y hy => by simp at hy⟩
          case round =>
           obtain ⟨j, hj, rfl, rfl, rfl, hxk, hall⟩ := hrel
           have HALL := Lib.hid hall
           have HIk := Lib.hid (HI5.out.ext hxk)
           have hxwk := hxr5.trans hxk
           have hkk : Ext wr wr := Ext.refl _
           obtain ⟨l0, c0, _, _⟩ := HIk.out.h0.box
           obtain ⟨tj, htj⟩ : ∃ tj, tj = topF f3 ((T.toTr.bk (p, i)).take j) := ⟨_, rfl⟩
           rw [← htj]
           have HTJ := Lib.hid htj
           clear hall htj
           by_cases hlt : j < ll.length
           ·obtain ⟨rfl, hga, hg9, hr9⟩ := H9.out (by omega)
            have hjb : j < (T.toTr.bk (p, i)).length := by rw [← HLN.out]; exact hlt
            obtain ⟨z, hzz⟩ : ∃ z, z = (T.toTr.bk (p, i))[j] := ⟨_, rfl⟩
            have hgd : ll.getD j (0, 0) = evI z := by
             rw [HLL.out, List.getD_eq_getElem?_getD, List.getElem?_map, List.getElem?_eq_getElem hjb, hzz]; rfl
            have hzmem : z ∈ T.toTr.bk (p, i) := by rw [hzz]; exact List.getElem_mem _
            have hzv := HBV.out z hzmem
            have htk : (T.toTr.bk (p, i)).take (j + 1) = (T.toTr.bk (p, i)).take j ++ [z] := by rw [List.take_succ_eq_append_getElem hjb, ← hzz]
            have HTK := Lib.hid (And.intro hzmem (And.intro htk (show topF f3 ((T.toTr.bk (p, i)).take (j + 1)) = max tj (f3 z.1 z.2 + 1) by rw [htk, topF_snoc, HTJ.out])))
            obtain ⟨zp, zi⟩ := z
            have e0 : ∀ w', Ext wr w' → w'.cell? ⟨g9, j * 2, none⟩ = some (.int .i64 zp) := fun w' h => (hxk.trans h).cell ((hr9.c0 j hlt).trans (by rw [hgd]))
            have e1 : ∀ w', Ext wr w' → w'.cell? ⟨g9, j * 2 + 1, none⟩ = some (.int .i64 (zi + 1)) := fun w' h => (hxk.trans h).cell ((hr9.c1 j hlt).trans (by rw [hgd]))
            have l9 : ∀ w', Ext wr w' → g9 < w'.heap.size := fun w' h => Nat.lt_of_lt_of_le hg9 (hxk.trans h).le
            have hlt' : (j : Int) < (ll.length : Int) := by omega
            have hzp : zp < T.n := hzv.1
            have hzi : zi < T.en zp := hzv.2
            have hze := hE8 zp hzp
            have hzp' : (zp : Int) < (T.n : Int) := by omega
            have hzi' : (zi : Int) < (T.en zp : Int) := by omega
            have hw1 : IntKind.i64.wrap (zi : Int) = (zi : Int) := IntWalk.i64_in _ (by omega)
            obtain ⟨cz, hcz⟩ : ∃ cz, cz = f3 zp zi := ⟨_, rfl⟩
            have hczb : -1 ≤ cz ∧ cz ≤ 1000 := by
             have h1 := (HR.out.sm zp zi hzp hzi)
             have h2 := HTS.out
             rcases HJ3.out zp zi hzp hzi with h3 | h3
             ·omega
             ·have h3 : f3 zp zi = (rows zp).getD zi 0 - 1 := h3
              omega
            have i0 : ∀ w', Ext wr w' → w'.cell? ⟨g, zp, none⟩ = some (.slice (some ⟨rb zp, 0, none⟩) (T.en zp) (T.en zp)) := fun w' h => h.cell (HIk.out.im.cell.2 zp hzp)
            have i1 : ∀ w', Ext wr w' → g < w'.heap.size := fun w' h => Nat.lt_of_lt_of_le HIk.out.im.cell.1 h.le
            have i2 : ∀ w', Ext wr w' → rb zp < w'.heap.size := fun w' h => Nat.lt_of_lt_of_le (HIk.out.im.row zp hzp).lt h.le
            have i3 : ∀ w', Ext wr w' → w'.cell? ⟨rb zp, zi, none⟩ = some (.int .i64 cz) := fun w' h => by rw [hcz]; exact h.cell ((HIk.out.im.row zp hzp).c zi hzi)
            have HCZ := Lib.hid hcz
            clear hr9 hzz hgd hga hzv hzmem htk hcz
            go_upto_region 26 with fail
            go_quiet (fail)
            have hx5q : Ext w5 (wr.drewN nq) := hxk.drewN nq
            have HIq := Lib.hid (HIk.out.ext (hkk.drewN nq))
            generalize wr.drewN nq = wq at hx5q HIq ⊢
            clear i0 i1 i2 i3 e0 e1 l9 l0 c0 hkk
            by_cases hneg : cz < 0
            ·have b2 : decide (cz < 0) = true := decide_eq_true hneg
             have HNC := Lib.hid (show NoCol T.toTr f3 p i from .inr ⟨(zp, zi), HTK.out.1, by rw [← HCZ.out]; exact hneg⟩)
             clear hneg
             go_wp2_with fail
             go_roundg (T.en p - (i + 1))
             case rel => exact ⟨f3, mv, i + 1, rfl, by go_num, by omega, rfl, HIq.out, HJ3.out, HM3.out.1, HM3.out.2.1, fun h => ⟨(HM3.out.2.2 h).1, fun j hj => by
              by_cases e : j = i
              ·subst e; exact HNC.out
              ·exact (HM3.out.2.2 h).2 j (by omega)⟩⟩
             case measure => omega
            ·have b2 : decide (cz < 0) = false := decide_eq_false hneg
             have hcw : IntKind.i64.wrap (cz + 1) = cz + 1 := IntWalk.i64_in _ (by omega)
             have HPOS := Lib.hid (show 0 ≤ f3 zp zi by rw [← HCZ.out]; omega)
             clear hneg
             by_cases hmx : tj < cz + 1
             ·have HMX := Lib.hid (show topF f3 ((T.toTr.bk (p, i)).take (j + 1)) = cz + 1 by rw [HTK.out.2.2, ← HCZ.out]; omega)
              go_wp2_with fail
              go_roundg (ll.length - (j + 1))
              case rel => exact ⟨j + 1, by omega, rfl, congrArg (Value.int .i64) (by have := HMX.out; omega), by go_num, hx5q, fun y hy => by
               rw [HTK.out.2.1] at hy
               rcases List.mem_append.1 hy with h | h
               ·exact HALL.out y h
               ·obtain rfl := List.mem_singleton.1 h
                exact HPOS.out⟩
              case measure => omega
             ·have HMX := Lib.hid (show topF f3 ((T.toTr.bk (p, i)).take (j + 1)) = tj by rw [HTK.out.2.2, ← HCZ.out]; omega)
              go_wp2_with fail
              go_roundg (ll.length - (j + 1))
              case rel => exact ⟨j + 1, by omega, rfl, congrArg (Value.int .i64) (by have := HMX.out; omega), by go_num, hx5q, fun y hy => by
               rw [HTK.out.2.1] at hy
               rcases List.mem_append.1 hy with h | h
               ·exact HALL.out y h
               ·obtain rfl := List.mem_singleton.1 h
                exact HPOS.out⟩
              case measure => omega
           ·have hlt' : ¬ (j : Int) < (ll.length : Int) := by omega
            have hcol : tj = stOf rows (p, i) - 1 := by
             have h1 : (T.toTr.bk (p, i)).take j = T.toTr.bk (p, i) := List.take_of_length_le (by rw [← HLN.out]; omega)
             rw [HTJ.out, h1]
             refine topF_st HR.out ⟨hpn, hli⟩ fun y hy => ?_
             have h2 := HALL.out y (by rw [h1]; exact hy)
             have h3 := HBV.out y hy
             rcases HJ3.out y.1 y.2 h3.1 h3.2 with h4 | h4
             ·omega
             ·exact h4
            have htjb : 0 ≤ tj ∧ tj ≤ 1000 := by
             have h1 : 1 ≤ stOf rows (p, i) ∧ stOf rows (p, i) ≤ _ := HR.out.sm p i hpn hli
             have h2 := HTS.out
             omega
            have b2 : decide (0 ≤ tj) = true := decide_eq_true htjb.1
            have HCOL := Lib.hid hcol
            have HMU := Lib.hid (missU_lt (T := T.toTr) hpn hli HNEG.out htjb.1)
            have i0 : ∀ w', Ext wr w' → w'.cell? ⟨g, p, none⟩ = some (.slice (some ⟨rb p, 0, none⟩) (T.en p) (T.en p)) := fun w' h => h.cell (HIk.out.im.cell.2 p hpn)
            have i1 : ∀ w', Ext wr w' → g < w'.heap.size := fun w' h => Nat.lt_of_lt_of_le HIk.out.im.cell.1 h.le
            have i2 : ∀ w', Ext wr w' → rb p < w'.heap.size := fun w' h => Nat.lt_of_lt_of_le (HIk.out.im.row p hpn).lt h.le
            have i3 : ∀ w', Ext wr w' → w'.cell? ⟨rb p, i, none⟩ = some (.int .i64 (f3 p i)) := fun w' h => h.cell ((HIk.out.im.row p hpn).c i hli)
            have i4 : ∀ w', Ext wr w' → w'.frozen? ⟨rb p, i, none⟩ = false := fun w' h => (h.frozen (p := ⟨rb p, i, none⟩) (HIk.out.im.row p hpn).lt).trans ((HIk.out.im.row p hpn).fr _)
            clear hcol htjb
            go_wp2_with fail
            go_roundg (T.en p - (i + 1))
            case rel => exact ⟨updF f3 p i tj, true, i + 1, rfl, by go_num, by omega, rfl, HIk.out.set hpn hli _, HJ3.out.upd HCOL.out, Nat.le_trans (Nat.le_of_lt HMU.out) HM3.out.1, (fun _ => Nat.lt_of_lt_of_le HMU.out HM3.out.1), fun h => by cases h⟩
            case measure => omega
        ·have hie : i = T.en p := by omega
         subst hie
         clear hI hJ hm0 hm1 hm2
         go_wp2_with fail
         go_roundg (T.n - (p + 1))
         case rel => exact ⟨f3, mv, p + 1, rfl, by go_num, by omega, rfl, HI3.out, HJ3.out, HM3.out.1, HM3.out.2.1, fun h q i2 hq hi2 => by
          rcases Nat.lt_or_ge q p with h' | h'
          ·exact (HM3.out.2.2 h).1 q i2 h' hi2
          ·obtain rfl : q = p := by omega
           exact (HM3.out.2.2 h).2 i2 hi2⟩
         case measure => omega
      ·have hpe : p = T.n := by omega
       subst hpe
       go_wp2_with fail
       go_roundg (if mv then missU T.toTr f2 + 1 else 0)
       case rel => exact ⟨f2, mv, rfl, HI2.out, HJ2.out, fun h => by rw [h]; simp, fun h q i hq hi => HM2.out.2.2 h q i hq hi⟩
       case measure =>
        have h1 := HG.out
        cases mv with
        | true => have := HM2.out.2.1 rfl; simp; omega
        | false => simp; omega
end Go.Proofs.YtmhapcnlpoilpaaGreatDoor
