/- Contracts: package bits (words, inside, Valid, has, Has, Of). Contract: bits.Of. Contract: causality.knows (maps from message numbers to events). Contracts: causality's known.event and known.back. The past of an event, by a queue: plain. Contract: causality's known.past. Contracts: causality.events, check, exists. Contracts: causality.exists, check, before, Before. For causality.Order: the events by number, happened-before, the rows of later events. Contract: causality.Order. Contracts: slices.Grow (from nil) and slices.Concat at []int. Contract: lamport.Skipped. Contracts: antecederef14.SameInts, SameLists, slices.Equal at EventId. The example of chapter 14: its trace, its stamps, its longest chain, its skipped pairs. Plain. -/
import Derived.Test.YtmhapcnlpoilpaaGreatDoorK01
import Derived.WalkSmall
import Derived.Test.YtmhapcnlpoilpaaGreatDoorK06
import Derived.Laws.Bits64b
import Derived.Deep.LoopGhost
import Derived.Lib.AppendZeros
import Derived.Lib.QuietBelow
import Derived.Test.YtmhapcnlpoilpaaGreatDoorK05
namespace Go.Proofs.YtmhapcnlpoilpaaGreatDoor
open Go.RowKit
end Go.Proofs.YtmhapcnlpoilpaaGreatDoor

namespace Go.Proofs.YtmhapcnlpoilpaaGreatDoor
open Go.RowKit
end Go.Proofs.YtmhapcnlpoilpaaGreatDoor

namespace Go.Proofs.YtmhapcnlpoilpaaGreatDoor
open Go.RowKit Go.Shelf
def MapAt (w : World) (b : Nat) (L : List (Int × (Int × Int))) : Prop :=
 ∃ es clock, w.heap[b]? = some (.map es clock) ∧ es.toList.map (fun e => (e.key, e.val)) = L.map (fun x => (.int .i64 x.1, evV x.2))
theorem MapAt.ext {w w' : World} {b : Nat} {L : List (Int × (Int × Int))} (h : MapAt w b L) (x : Ext w w') : MapAt w' b L := by
 obtain ⟨es, c, hb, he⟩ := h
 exact ⟨es, c, (x.block b (Array.getElem?_eq_some_iff.1 hb).1).trans hb, he⟩
theorem MapAt.same {w w' : World} {b : Nat} {L : List (Int × (Int × Int))} (h : MapAt w b L) (x : w'.heap[b]? = w.heap[b]?) : MapAt w' b L := by
 obtain ⟨es, c, hb, he⟩ := h
 exact ⟨es, c, x.trans hb, he⟩
theorem MapAt.lt {w : World} {b : Nat} {L : List (Int × (Int × Int))} (h : MapAt w b L) : b < w.heap.size := by
 obtain ⟨es, c, hb, he⟩ := h; exact (Array.getElem?_eq_some_iff.1 hb).1
theorem MapAt.new (w : World) : MapAt (w.alloc (.map #[] 0)) w.heap.size [] := ⟨#[], 0, by show (w.heap.push _)[w.heap.size]? = _; simp, rfl⟩
def placeM (m : Int) : List (Int × (Int × Int)) → Nat → Option (Nat × Value)
 | [], _ => none
 | x :: L, i => if m = x.1 then some (i, evV x.2) else placeM m L (i + 1)
theorem findNow_int {q : IntKind} {d : TypeDesc} (hd : d = .int q) (m : Int) : ∀ (es : List MapEntry) (L : List (Int × (Int × Int))) (i : Nat), es.map (fun e => (e.key, e.val)) = L.map (fun x => (Value.int .i64 x.1, evV x.2)) →
    Instr.findNow d (.int .i64 m) es i = some (placeM m L i)
 | [], [], i, _ => by simp [Instr.findNow, placeM]
 | [], _ :: _, _, h => by simp at h
 | _ :: _, [], _, h => by simp at h
 | e :: es, x :: L, i, h => by
  simp only [List.map_cons, List.cons.injEq, Prod.mk.injEq] at h
  obtain ⟨⟨h1, h2⟩, h3⟩ := h
  have ih := findNow_int hd m es L (i + 1) h3
  subst hd
  by_cases e' : m = x.1
  ·simp [Instr.findNow, Instr.sameNow, placeM, h1, h2, e']
  ·have hb : (m == x.1) = false := by simpa using e'
   simp [Instr.findNow, Instr.sameNow, placeM, h1, e', ih, hb]
theorem run_findKey_int (m : Int) (w : World) (es : List MapEntry) (L : List (Int × (Int × Int))) (h : es.map (fun e => (e.key, e.val)) = L.map (fun x => (Value.int .i64 x.1, evV x.2))) :
    (Instr.findKey 3 (.int .i64 m) es).run Tryz.prog w = .ok (placeM m L 0) w := by
 unfold Instr.findKey
 simp [Sem.run_bind, run_underlying Tryz.underlying3, findNow_int rfl m es L 0 h]
theorem run_checkKey_int (b : Bool) (m : Int) (w : World) : (Instr.checkKey b 10000 3 (.int .i64 m)).run Tryz.prog w = .ok () w := by
 show (Instr.checkKey b (9999 + 1) 3 (.int .i64 m)).run Tryz.prog w = _
 rw [Instr.checkKey]; simp [go_sem, run_underlying Tryz.underlying3]
theorem placeM_none {m : Int} : ∀ (L : List (Int × (Int × Int))) (i : Nat), (∀ e ∈ L, e.1 ≠ m) → placeM m L i = none
 | [], _, _ => rfl
 | x :: L, i, h => by
  rw [placeM, if_neg (fun e => h x (by simp) e.symm)]; exact placeM_none L (i + 1) fun e he => h e (by simp [he])
theorem placeM_some {m : Int} {v : Int × Int} : ∀ (L : List (Int × (Int × Int))) (i : Nat), (∀ e ∈ L, e.1 = m → e.2 = v) → (∃ e ∈ L, e.1 = m) → ∃ j, placeM m L i = some (j, evV v)
 | [], _, _, h => by obtain ⟨_, h, _⟩ := h; cases h
 | x :: L, i, hu, h => by
  by_cases e : m = x.1
  ·exact ⟨i, by rw [placeM, if_pos e, hu x (by simp) e.symm]⟩
  ·have : ∃ e ∈ L, e.1 = m := by
     obtain ⟨y, hy, hm⟩ := h
     rcases List.mem_cons.1 hy with rfl | hy
     ·exact absurd hm.symm e
     ·exact ⟨y, hy, hm⟩
   obtain ⟨j, hj⟩ := placeM_some L (i + 1) (fun e he => hu e (by simp [he])) this
   exact ⟨j, by rw [placeM, if_neg e]; exact hj⟩
theorem run_lookup_int {w : World} {b : Nat} {L : List (Int × (Int × Int))} (h : MapAt w b L) {m : Int} {v : Int × Int} (hu : ∀ e ∈ L, e.1 = m → e.2 = v) (hm : ∃ e ∈ L, e.1 = m) :
    (Instr.lookup 83 (.map (some b)) (.int .i64 m) false).run Tryz.prog w = .ok (evV v) w := by
 obtain ⟨es, clock, hb, he⟩ := h
 have hk := fun c => run_checkKey_int c m w
 have hf := run_findKey_int m w es.toList L he
 obtain ⟨j, hj⟩ := placeM_some L 0 hu hm
 rw [hj] at hf
 simp [Instr.lookup, Sem.run_bind, run_underlying Tryz.underlying83, getObj, Sem.run, hb, hk, hf]
theorem run_update_int {w : World} {b : Nat} {L : List (Int × (Int × Int))} (h : MapAt w b L) (m : Int) (v : Int × Int) (hy : ∀ e ∈ L, e.1 ≠ m) :
    ∃ o, (Instr.mapUpdate 83 (.map (some b)) (.int .i64 m) (evV v)).run Tryz.prog w = .ok () (w.putObj b o) ∧ MapAt (w.putObj b o) b (L ++ [(m, v)]) := by
 obtain ⟨es, clock, hb, he⟩ := h
 have hk := fun c => run_checkKey_int c m w
 have hf := run_findKey_int m w es.toList L he
 rw [placeM_none L 0 hy] at hf
 refine ⟨.map (es.push { key := .int .i64 m, val := evV v, born := clock }) (clock + 1), ?_, es.push { key := .int .i64 m, val := evV v, born := clock }, clock + 1, ?_, by simp [he]⟩
 ·simp [Instr.mapUpdate, Sem.run_bind, run_underlying Tryz.underlying83, getObj, setObj, Sem.run, hb, hk, hf, World.putObj]
 ·have hlt := (Array.getElem?_eq_some_iff.1 hb).1
  simp [World.putObj, hlt]
def knL (T : Tr) (kd : Int) (pre : List T.Id) : List (Int × (Int × Int)) := pre.filterMap fun x => if T.kind x.1.1 x.1.2 = kd then some (T.msg x.1.1 x.1.2, evI x.1) else none
theorem knL_snoc (T : Tr) (kd : Int) (pre : List T.Id) (x : T.Id) : knL T kd (pre ++ [x]) = if T.kind x.1.1 x.1.2 = kd then knL T kd pre ++ [(T.msg x.1.1 x.1.2, evI x.1)] else knL T kd pre := by
 unfold knL
 rw [List.filterMap_append]
 by_cases h : T.kind x.1.1 x.1.2 = kd
 ·simp [h]
 ·simp [h]
theorem knL_mem {T : Tr} {kd : Int} {pre : List T.Id} {e : Int × (Int × Int)} (h : e ∈ knL T kd pre) : ∃ x ∈ pre, T.kind x.1.1 x.1.2 = kd ∧ e = (T.msg x.1.1 x.1.2, evI x.1) := by
 obtain ⟨x, hx, h⟩ := List.mem_filterMap.1 h
 split at h
 ·next hk => cases h; exact ⟨x, hx, hk, rfl⟩
 ·cases h
theorem mem_knL {T : Tr} {kd : Int} {pre : List T.Id} {x : T.Id} (hx : x ∈ pre) (hk : T.kind x.1.1 x.1.2 = kd) : (T.msg x.1.1 x.1.2, evI x.1) ∈ knL T kd pre :=
 List.mem_filterMap.2 ⟨x, hx, by rw [if_pos hk]⟩
theorem knL_new2 {T : Tr} (hV : T.Valid) {k i : Nat} (hk : k < T.n) (hi : i < T.en k) (hkd : T.kind k i = 2) : ∀ e ∈ knL T 2 (T.evsTo k i), e.1 ≠ T.msg k i := by
 intro e he hm
 obtain ⟨x, hx, hxk, rfl⟩ := knL_mem he
 have := hV.uniq2 (x := x) (y := ⟨(k, i), hk, hi⟩) hxk hkd hm
 have h2 := Tr.evsTo_mem hx
 rw [this] at h2
 rcases h2 with h | h
 ·exact absurd h (Nat.lt_irrefl _)
 ·exact absurd h.2 (Nat.lt_irrefl _)
theorem knL_new3 {T : Tr} (hV : T.Valid) {k i : Nat} (hk : k < T.n) (hi : i < T.en k) (hkd : T.kind k i = 3) : ∀ e ∈ knL T 3 (T.evsTo k i), e.1 ≠ T.msg k i := by
 intro e he hm
 obtain ⟨x, hx, hxk, rfl⟩ := knL_mem he
 have := hV.uniq3 (x := x) (y := ⟨(k, i), hk, hi⟩) hxk hkd hm
 have h2 := Tr.evsTo_mem hx
 rw [this] at h2
 rcases h2 with h | h
 ·exact absurd h (Nat.lt_irrefl _)
 ·exact absurd h.2 (Nat.lt_irrefl _)
structure KnAt (T : TM) (bs br : Nat) (w : World) : Prop where
 s : MapAt w bs (knL T.toTr 2 T.toTr.evs)
 r : MapAt w br (knL T.toTr 3 T.toTr.evs)
theorem KnAt.ext {T : TM} {bs br : Nat} {w w' : World} (h : KnAt T bs br w) (x : Ext w w') : KnAt T bs br w' := ⟨h.s.ext x, h.r.ext x⟩
abbrev TM.kn (T : TM) (bs br : Nat) : Value := .agg #[.slice T.a T.n T.cap, .map (some bs), .map (some br)]
theorem KnAt.look {T : TM} {bs br : Nat} {w : World} (h : KnAt T bs br w) (hV : T.toTr.Valid) (x : T.toTr.Id) (hx : T.kind x.1.1 x.1.2 = 3) :
    (Instr.lookup 83 (.map (some bs)) (.int .i64 (T.msg x.1.1 x.1.2)) false).run Tryz.prog w = .ok (evV (evI (T.toTr.snd x).1)) w := by
 have hs := hV.snd x hx
 refine run_lookup_int h.s ?_ ⟨_, mem_knL (evs_all (T.toTr.snd x)) hs.2.1, hs.2.2⟩
 intro e he hm
 obtain ⟨y, hy, hyk, rfl⟩ := knL_mem he
 rw [hV.uniq2 hyk hs.2.1 (hm.trans hs.2.2.symm)]
structure KnI (T : TM) (w : World) (pre : List T.toTr.Id) (wr : World) : Prop where
 h0 : Hold wr w.heap.size #[.slice (some ⟨T.b, T.off, none⟩) T.n T.cap]
 h1 : Hold wr (w.heap.size + 1) #[.slice none 0 0, .map none, .map none]
 h4 : Hold wr (w.heap.size + 1 + 1 + 1 + 1) #[.slice (some ⟨T.b, T.off, none⟩) T.n T.cap, .map (some (w.heap.size + 1 + 1)), .map (some (w.heap.size + 1 + 1 + 1))]
 m1 : MapAt wr (w.heap.size + 1 + 1) (knL T.toTr 2 pre)
 m2 : MapAt wr (w.heap.size + 1 + 1 + 1) (knL T.toTr 3 pre)
 bl : Ext w wr
theorem KnI.ext {T : TM} {w wr w' : World} {pre : List T.toTr.Id} (h : KnI T w pre wr) (x : Ext wr w') : KnI T w pre w' :=
 ⟨h.h0.ext x, h.h1.ext x, h.h4.ext x, h.m1.ext x, h.m2.ext x, h.bl.trans x⟩
theorem KnI.skip {T : TM} {w wr : World} {pre : List T.toTr.Id} {x : T.toTr.Id} (h : KnI T w pre wr) (h2 : T.kind x.1.1 x.1.2 ≠ 2) (h3 : T.kind x.1.1 x.1.2 ≠ 3) : KnI T w (pre ++ [x]) wr := by
 obtain ⟨a, b, c, d, e, f⟩ := h
 exact ⟨a, b, c, by rw [knL_snoc, if_neg h2]; exact d, by rw [knL_snoc, if_neg h3]; exact e, f⟩
theorem KnI.put2 {T : TM} {w wr : World} {pre : List T.toTr.Id} {x : T.toTr.Id} {o : Obj} (h : KnI T w pre wr) (h2 : T.kind x.1.1 x.1.2 = 2)
    (hm : MapAt (wr.putObj (w.heap.size + 1 + 1) o) (w.heap.size + 1 + 1) (knL T.toTr 2 pre ++ [(T.msg x.1.1 x.1.2, evI x.1)])) : KnI T w (pre ++ [x]) (wr.putObj (w.heap.size + 1 + 1) o) := by
 obtain ⟨a, b, c, d, e, f⟩ := h
 refine ⟨a.putObj _ _ (by omega), b.putObj _ _ (by omega), c.putObj _ _ (by omega), by rw [knL_snoc, if_pos h2]; exact hm, ?_, ?_⟩
 ·rw [knL_snoc, if_neg (by rw [h2]; decide)]; exact e.same (World.putObj_heap_other (by omega))
 ·exact Below.trans f ⟨rfl, rfl, rfl, by simp, fun k hk => World.putObj_heap_other (by omega)⟩
theorem KnI.put3 {T : TM} {w wr : World} {pre : List T.toTr.Id} {x : T.toTr.Id} {o : Obj} (h : KnI T w pre wr) (h3 : T.kind x.1.1 x.1.2 = 3)
    (hm : MapAt (wr.putObj (w.heap.size + 1 + 1 + 1) o) (w.heap.size + 1 + 1 + 1) (knL T.toTr 3 pre ++ [(T.msg x.1.1 x.1.2, evI x.1)])) : KnI T w (pre ++ [x]) (wr.putObj (w.heap.size + 1 + 1 + 1) o) := by
 obtain ⟨a, b, c, d, e, f⟩ := h
 refine ⟨a.putObj _ _ (by omega), b.putObj _ _ (by omega), c.putObj _ _ (by omega), ?_, by rw [knL_snoc, if_pos h3]; exact hm, ?_⟩
 ·rw [knL_snoc, if_neg (by rw [h3]; decide)]; exact d.same (World.putObj_heap_other (by omega))
 ·exact Below.trans f ⟨rfl, rfl, rfl, by simp, fun k hk => World.putObj_heap_other (by omega)⟩
theorem KnI.start {T : TM} {w : World} {t1 t2 t3 : TypeId} {G : World → Prop} (h : ∀ w1, KnI T w [] w1 → G w1) :
    G (((((w.alloc (.cells #[.slice (some ⟨T.b, T.off, none⟩) T.n T.cap] t1)).alloc (.cells #[.slice none 0 0, .map none, .map none] t2)).alloc (.map #[] 0)).alloc (.map #[] 0)).alloc (.cells #[.slice (some ⟨T.b, T.off, none⟩) T.n T.cap, .map (some (w.heap.size + 1 + 1)), .map (some (w.heap.size + 1 + 1 + 1))] t3)) := by
 obtain ⟨wa, hwa⟩ : ∃ x, x = w.alloc (.cells #[.slice (some ⟨T.b, T.off, none⟩) T.n T.cap] t1) := ⟨_, rfl⟩
 have sa : wa.heap.size = w.heap.size + 1 := by rw [hwa]; simp
 have a0 : Hold wa w.heap.size #[.slice (some ⟨T.b, T.off, none⟩) T.n T.cap] := by rw [hwa]; exact Hold.new _ _ _
 have xa : Ext w wa := by rw [hwa]; exact Ext.alloc _ _
 rw [← hwa]; clear hwa
 obtain ⟨wb, hwb⟩ : ∃ x, x = wa.alloc (.cells #[.slice none 0 0, .map none, .map none] t2) := ⟨_, rfl⟩
 have sb : wb.heap.size = w.heap.size + 1 + 1 := by rw [hwb]; simp [sa]
 have b0 : Hold wb (w.heap.size + 1) #[.slice none 0 0, .map none, .map none] := by rw [hwb, ← sa]; exact Hold.new _ _ _
 have xb : Ext wa wb := by rw [hwb]; exact Ext.alloc _ _
 rw [← hwb]; clear hwb
 obtain ⟨wc, hwc⟩ : ∃ x, x = wb.alloc (.map #[] 0) := ⟨_, rfl⟩
 have sc : wc.heap.size = w.heap.size + 1 + 1 + 1 := by rw [hwc]; simp [sb]
 have c0 : MapAt wc (w.heap.size + 1 + 1) [] := by rw [hwc, ← sb]; exact MapAt.new _
 have xc : Ext wb wc := by rw [hwc]; exact Ext.alloc _ _
 rw [← hwc]; clear hwc
 obtain ⟨wd, hwd⟩ : ∃ x, x = wc.alloc (.map #[] 0) := ⟨_, rfl⟩
 have sd : wd.heap.size = w.heap.size + 1 + 1 + 1 + 1 := by rw [hwd]; simp [sc]
 have d0 : MapAt wd (w.heap.size + 1 + 1 + 1) [] := by rw [hwd, ← sc]; exact MapAt.new _
 have xd : Ext wc wd := by rw [hwd]; exact Ext.alloc _ _
 rw [← hwd]; clear hwd
 refine h _ ⟨a0.ext (xb.trans (xc.trans (xd.alloc' _))), b0.ext (xc.trans (xd.alloc' _)), ?_, c0.ext (xd.alloc' _), d0.ext (Ext.alloc _ _), xa.trans (xb.trans (xc.trans (xd.alloc' _)))⟩
 rw [← sd]; exact Hold.new _ _ _
def KnowPost (T : TM) (w : World) (e : Ending) (w' : World) : Prop := Ext w w' ∧ ∃ bs br, e = .returned (T.kn bs br) ∧ KnAt T bs br w'
theorem knows_results (tmps : Array Value) (W : World) (b : Nat) (x y z : Value) (t2 : tmps[2]? = some (.pointer (some ⟨b, 0, none⟩))) (c : W.cell? ⟨b, 0, none⟩ = some x) (c' : W.cell? ⟨b, 1, none⟩ = some y) (c'' : W.cell? ⟨b, 2, none⟩ = some z) :
    (results Tryz.f48 tmps).run Tryz.prog W = .ok (.agg #[x, y, z]) W := by
 simp [results, go_sem, t2, c, c', c'']
set_option maxRecDepth 100000 in
set_option maxHeartbeats 1000000 in
theorem knows_any (w : World) (T : TM) (hT : T.At w) (hV : T.toTr.Valid) :
    Calls Tryz.prog 48 #[T.val] w (KnowPost T w) := by
 have hn1 := hV.n1
 have hn8 := hV.n8
 have pa := hT.P.pa (by omega)
 have pb := hT.P.pb (by omega)
 have p0 := hT.P.p0
 have p1 := hT.P.p1
 have p2 := hT.P.p2
 have e0 := hT.E.e0
 have e1 := hT.E.e1
 have e2 := hT.E.e2
 have e3 := hT.E.e3
 have e4 := hT.E.e4
 have HT := Lib.hid hT
 have HV := Lib.hid hV
 clear hT hV
 have hmm := @run_makeMap Tryz.prog
 go_enter Tryz.func48, Tryz.ntmps48
 go_upto_region 2 with fail
 refine KnI.start (w := w) (T := T) (G := fun x => Code.wp _ _ _ _ x) ?_
 intro w1 hI1
 clear hmm
 have hx1 := hI1.bl
 have hx11 : Ext w1 w1 := Ext.refl _
 obtain ⟨l0, c0, _, _⟩ := hI1.h0.box
 have HI1 := Lib.hid hI1
 clear hI1
 go_wp2_with fail
 go_loopg [16] T.n (fun gg v wr => ∃ k : Nat, k ≤ T.n ∧ gg = T.n - k ∧ v = .int .i64 k ∧ KnI T w (T.toTr.evsTo k 0) wr)
 case atStart => exact ⟨0, by omega, rfl, rfl, HI1.out⟩
 case round =>
  obtain ⟨k, hk, rfl, rfl, hI⟩ := hrel
  have hxr := hI.bl
  have hrr : Ext wr wr := Ext.refl _
  obtain ⟨l4, c4, _, _⟩ := hI.h4.box
  obtain ⟨l1, c1, f1, _⟩ := hI.h1.box
  have HI := Lib.hid hI
  clear hI
  by_cases hlt : k < T.n
  ·have hlt' : (k : Int) < (T.n : Int) := by omega
   obtain ⟨ea, hea⟩ : ∃ a, a = T.ea k := ⟨_, rfl⟩
   have p2k : ∀ w', Ext w w' → w'.cell? ⟨T.b, T.off + k * 3 + 2, none⟩ = some (.slice ea (T.en k) (T.ec k)) := fun w' h => by rw [hea]; exact p2 w' h k hlt
   have hen := HT.out.E.he k hlt
   have HEA := Lib.hid hea
   clear p2 hea l4 c4 l1 c1 f1
   go_upto_region 5 with fail
   refine boxed1 (w := wr) (G := fun x => Code.wp _ _ _ _ x) ?_
   intro w3 hx3 hs3 ⟨l3, c3, _, _⟩
   have hx33 : Ext w3 w3 := Ext.refl _
   have HI3 := Lib.hid (HI.out.ext hx3)
   have hb3 := Lib.hid (show wr.heap.size < w3.heap.size by omega)
   clear hs3
   go_wp2_with fail
   go_loopg [24] (T.en k) (fun gg v wi => ∃ i : Nat, i ≤ T.en k ∧ gg = T.en k - i ∧ v = .int .i64 i ∧ KnI T w (T.toTr.evsTo k i) wi)
   case atStart => exact ⟨0, by omega, rfl, rfl, HI3.out⟩
   case round =>
    obtain ⟨i, hi, rfl, rfl, hI⟩ := hrel
    have hxi := hI.bl
    have hii : Ext wr wr := Ext.refl _
    have HI := Lib.hid hI
    clear hI
    by_cases hli : i < T.en k
    ·have hli' : (i : Int) < (T.en k : Int) := by omega
     obtain rfl : ea = some ⟨T.eb k, T.eo k, none⟩ := by rw [HEA.out]; exact HT.out.E.ea k hlt (by omega)
     have eb := HT.out.E.eb k hlt (by omega)
     go_upto_region 8 with fail
     refine boxed1 (w := wr) (G := fun x => Code.wp _ _ _ _ x) ?_
     intro w4 hx4 hs4 ⟨l4, c4, _, _⟩
     have hx44 : Ext w4 w4 := Ext.refl _
     clear hs4
     go_upto_region 9 with fail
     refine boxed1 (w := w4) (G := fun x => Code.wp _ _ _ _ x) ?_
     intro w5 hx5 hs5 ⟨l5, c5, _, _⟩
     have hx55 : Ext w5 w5 := Ext.refl _
     clear hs5
     have HI5 := Lib.hid (HI.out.ext (hx4.trans hx5))
     obtain ⟨b4, d4, _, _⟩ := HI5.out.h4.box
     clear e0 e1 e2 e3 e4 p0 p1 p2k eb
     by_cases hk2 : T.kind k i = 2
     ·obtain ⟨o, hup, hset⟩ := run_update_int HI5.out.m1 (T.msg k i) (evI (k, i)) (knL_new2 HV.out hlt hli hk2)
      have HS := Lib.hid (HI5.out.put2 (x := ⟨(k, i), hlt, hli⟩) hk2 hset)
      simp only [evV] at hup
      clear hset
      go_wp2_with fail
      go_roundg (T.en k - (i + 1))
      case rel => exact ⟨i + 1, by omega, rfl, by go_num, by rw [Tr.evsTo_succ _ k i hlt hli]; exact HS.out⟩
      case measure => omega
     ·have hk2b : (T.kind k i == 2) = false := by simpa using hk2
      by_cases hk3 : T.kind k i = 3
      ·obtain ⟨o, hup, hset⟩ := run_update_int HI5.out.m2 (T.msg k i) (evI (k, i)) (knL_new3 HV.out hlt hli hk3)
       have HS := Lib.hid (HI5.out.put3 (x := ⟨(k, i), hlt, hli⟩) hk3 hset)
       simp only [evV] at hup
       clear hset
       go_wp2_with fail
       go_roundg (T.en k - (i + 1))
       case rel => exact ⟨i + 1, by omega, rfl, by go_num, by rw [Tr.evsTo_succ _ k i hlt hli]; exact HS.out⟩
       case measure => omega
      ·have hk3b : (T.kind k i == 3) = false := by simpa using hk3
       have HS := Lib.hid (HI5.out.skip (x := ⟨(k, i), hlt, hli⟩) hk2 hk3)
       go_wp2_with fail
       go_roundg (T.en k - (i + 1))
       case rel => exact ⟨i + 1, by omega, rfl, by go_num, by rw [Tr.evsTo_succ _ k i hlt hli]; exact HS.out⟩
       case measure => omega
    ·have hie : i = T.en k := by omega
     subst hie
     go_wp2_with fail
     go_roundg (T.n - (k + 1))
     case rel => exact ⟨k + 1, by omega, rfl, by go_num, by rw [← Tr.evsTo_next]; exact HI.out⟩
     case measure => omega
  ·have hke : k = T.n := by omega
   subst hke
   have HP := Lib.hid (fun (w' : World) (ho : Only (w.heap.size + 1) wr w') => (show KnowPost T w (.returned (T.kn (w.heap.size + 1 + 1) (w.heap.size + 1 + 1 + 1))) w' from
    ⟨Below.trans HI.out.bl (ho.below (by omega)), _, _, rfl, HI.out.m1.same (ho.block _ (by omega)), HI.out.m2.same (ho.block _ (by omega))⟩))
   have G4 := Lib.hid (((HI.out.h1.set 0 (.slice (some ⟨T.b, T.off, none⟩) T.n T.cap)).set 1 (.map (some (w.heap.size + 1 + 1)))).set 2 (.map (some (w.heap.size + 1 + 1 + 1))))
   go_wp2_with fail
   try simp only [Exit.inBlock, Exit.then]
   refine bodyPost_ret (knows_results _ _ _ _ _ _ rfl (G4.out.cell0 0) (G4.out.cell0 1) (G4.out.cell0 2)) rfl ?_
   rw [← pa]
   exact HP.out _ (((Only.set _ _ _ _).trans (Only.set _ _ _ _)).trans (Only.set _ _ _ _))
end Go.Proofs.YtmhapcnlpoilpaaGreatDoor

namespace Go.Proofs.YtmhapcnlpoilpaaGreatDoor
open Go.RowKit Go.Shelf
theorem event_results (tmps : Array Value) (W : World) (b : Nat) (x0 x1 x2 x3 x4 : Value) (t4 : tmps[4]? = some (.pointer (some ⟨b, 0, none⟩))) (c0 : W.cell? ⟨b, 0, none⟩ = some x0) (c1 : W.cell? ⟨b, 1, none⟩ = some x1) (c2 : W.cell? ⟨b, 2, none⟩ = some x2) (c3 : W.cell? ⟨b, 3, none⟩ = some x3) (c4 : W.cell? ⟨b, 4, none⟩ = some x4) :
    (results Tryz.f190 tmps).run Tryz.prog W = .ok (.agg #[x0, x1, x2, x3, x4]) W := by
 simp [results, go_sem, t4, c0, c1, c2, c3, c4]
set_option maxRecDepth 100000 in
set_option maxHeartbeats 1000000 in
theorem event_any (w : World) (T : TM) (hT : T.At w) (p i : Nat) (hp : p < T.n) (hi : i < T.en p) (bs br : Nat) :
    Calls Tryz.prog 190 #[T.kn bs br, .agg #[.int .i64 p, .int .i64 (i + 1)]] w fun e w' => e = .returned (T.ev p i) ∧ Ext w w' := by
 have pa := hT.P.pa (by omega)
 have pb := hT.P.pb (by omega)
 have p2 := hT.P.p2
 have e0 := hT.E.e0
 have e1 := hT.E.e1
 have e2 := hT.E.e2
 have e3 := hT.E.e3
 have e4 := hT.E.e4
 have ea := hT.E.ea p hp (by omega)
 have eb := hT.E.eb p hp (by omega)
 have hn := hT.P.hn
 have hen := hT.E.he p hp
 have hp' : (p : Int) < (T.n : Int) := by omega
 have hi' : (i : Int) < (T.en p : Int) := by omega
 have hw1 : IntKind.i64.wrap (i : Int) = (i : Int) := IntWalk.i64_in _ (by omega)
 clear hT
 go_enter Tryz.func190, Tryz.ntmps190
 go_upto_region 1 with fail
 refine boxed3 (w := w) (G := fun x => Code.wp _ _ _ _ x) ?_
 intro w1 hx1 hs1 ⟨l0, c0, _, _⟩ ⟨l1, c1, _, _⟩ ⟨l2, c2, f2, k2⟩
 have hx11 : Ext w1 w1 := Ext.refl _
 clear hs1
 refine wp_region_reads 13 (by kernel_rfl) (by kernel_rfl) ?_
 simp only [List.take_succ_cons, List.take_zero]
 repeat still_step
 refine wpStill_nil ?_
 refine wpAny_ready (rs := [13]) (by kernel_rfl) (by simp) ?_
 refine AllReady.cons rfl (fun K hK => ?_) AllReady.nil
 go_simp
 refine hK _ _ ?_; clear hK K
 refine wpAny_done (by kernel_rfl) ?_ _
 have g4 := ((((Hold.set (show Hold w1 (w.heap.size + 1 + 1) _ from k2) 0 (.int .i64 (T.kind p i))).set 1 (.int .i64 (T.peer p i))).set 2 (.int .i64 (T.msg p i))).set 3 (.int .i64 (T.time p i))).set 4 (.slice (T.aa p i) (T.an p i) (T.ac p i))
 have G4 := Lib.hid g4.drew
 clear g4 k2 c0 c1 c2 l0 l1 l2 f2 e0 e1 e2 e3 e4 p2 pb eb
 go_wp2_with fail
 try simp only [Exit.inBlock, Exit.then]
 refine bodyPost_ret (event_results _ _ _ _ _ _ _ _ rfl (G4.out.cell0 0) (G4.out.cell0 1) (G4.out.cell0 2) (G4.out.cell0 3) (G4.out.cell0 4)) rfl ?_
 refine ⟨rfl, ?_⟩
 have hb : w.heap.size ≤ w.heap.size + 1 + 1 := by omega
 exact (Ext.setCell (Ext.setCell (Ext.setCell (Ext.setCell (Ext.setCell hx1 hb _) hb _) hb _) hb _) hb _).drew
noncomputable def Tr.bk (T : Tr) (x : NN) : List NN := (if 0 < x.2 then [(x.1, x.2 - 1)] else []) ++ (if T.kind x.1 x.2 = 3 then [T.sndN x] else [])
def BackPost (w : World) (l : List (Int × Int)) (e : Ending) (w' : World) : Prop := ∃ v, e = .returned v ∧ EvOwn w' w.heap.size v l ∧ Ext w w'
set_option maxRecDepth 100000 in
set_option maxHeartbeats 1000000 in
theorem back_any (w : World) (T : TM) (hT : T.At w) (hV : T.toTr.Valid) (p i : Nat) (hp : p < T.n) (hi : i < T.en p) (bs br : Nat) (hK : KnAt T bs br w) :
    Calls Tryz.prog 146 #[T.kn bs br, .agg #[.int .i64 p, .int .i64 (i + 1)]] w (BackPost w ((T.toTr.bk (p, i)).map evI)) := by
 obtain ⟨i0, hi0, hz0, hz1, hz2⟩ := info_parts infoEv
 have pa := hT.P.pa (by omega)
 have hen := hT.E.he p hp
 have hE := fun W (hx : Ext w W) => event_any W T (hT.ext hx) p i hp hi bs br
 have hL := fun (h3 : T.kind p i = 3) W (hx : Ext w W) => (hK.ext hx).look hV ⟨(p, i), hp, hi⟩ h3
 simp only [TM.kn, pa] at hE
 have HE := Lib.hid hE
 have HL := Lib.hid hL
 clear hT hV hK hE hL
 go_enter Tryz.func146, Tryz.ntmps146
 go_upto_region 1 with fail
 refine boxed2 (w := w) (G := fun x => Code.wp _ _ _ _ x) ?_
 intro w1 hx1 hs1 ⟨l0, c0, _, _⟩ ⟨l1, c1, _, _⟩
 have hx11 : Ext w1 w1 := Ext.refl _
 clear hs1
 by_cases h0 : 0 < i
 ·have d0 : decide ((1 : Int) < (i : Int) + 1) = true := decide_eq_true (by omega)
  go_upto_region 4 with (at_builtin; refine wpList_append_own _ rfl _ _ 77 rfl w1.heap.size 47 i0 (.agg #[.int .i64 0, .int .i64 0]) 2 16 Tryz.underlying77 hi0 hz0 hz1 hz2 rfl (by decide) (.slice none 0 0) 0 [] rfl (World.ownsRow_nil _ _ _ _) ⟨w1.heap.size, 0, none⟩ 1 1 [.int .i64 p, .int .i64 i] rfl rfl (by exact news_ok w1 [_, _] _) (by intro u hu; simp at hu; rcases hu with rfl | rfl <;> rfl) (by unfold maxLen; omega) (by omega) (by simp) ?_; rintro v3 w3 hown3 hg3 -)
  have hx3 : Ext w1 w3 := ((Below.refl _ w1).alloc (Nat.le_refl _) _).grown hg3 (by simp) (fun k e => by cases e)
  have HO3 := Lib.hid (EvOwn.snoc (l := []) hown3)
  have hx13 := hx1.trans hx3
  clear hown3 hg3
  have HB := Lib.hid (show (if 0 < i then [(p, i - 1)] else ([] : List NN)).map evI = [((p : Int), (i : Int))] by rw [if_pos h0]; simp [evI]; omega)
  go_upto_region 5 with (go_at_call 190; refine (HE.out _ hx13).mono ?_; rintro e w4 ⟨rfl, hx4⟩)
  refine boxed1 (w := w4) (G := fun x => Code.wp _ _ _ _ x) ?_
  intro w5 hx5 hs5 ⟨l5, c5, _, _⟩
  have hx55 : Ext w5 w5 := Ext.refl _
  clear hs5
  have hx15 : Ext w1 w5 := hx3.trans (hx4.trans hx5)
  have hx05 : Ext w w5 := hx13.trans (hx4.trans hx5)
  have HO5 := Lib.hid (HO3.out.kept (hx4.trans hx5))
  by_cases hk3 : T.kind p i = 3
  ·have hlk := HL.out hk3 w5 hx05
   obtain ⟨⟨sp, si⟩, hsn⟩ : ∃ s, s = (T.toTr.snd ⟨(p, i), hp, hi⟩).1 := ⟨_, rfl⟩
   rw [← hsn] at hlk
   simp only [evV] at hlk
   have HS := Lib.hid (show (if T.kind p i = 3 then [T.toTr.sndN (p, i)] else ([] : List NN)).map evI = [((sp : Int), (si : Int) + 1)] by
    rw [if_pos hk3, show T.toTr.sndN (p, i) = (sp, si) from (Tr.sndN_eq _ ⟨(p, i), hp, hi⟩).trans hsn.symm]; rfl)
   clear hsn
   go_wp2_with (at_builtin; refine wpList_append_own _ rfl _ _ 77 rfl w1.heap.size 47 i0 (.agg #[.int .i64 0, .int .i64 0]) 2 16 Tryz.underlying77 hi0 hz0 hz1 hz2 rfl (by decide) v3 1 (evCells [((p : Int), (i : Int))]) rfl (by exact HO5.out.alloc _) ⟨w5.heap.size, 0, none⟩ 1 1 [.int .i64 sp, .int .i64 (si + 1)] rfl rfl (by exact news_ok w5 [_, _] _) (by intro u hu; simp at hu; rcases hu with rfl | rfl <;> rfl) (by unfold maxLen; omega) (by omega) (by have := hx15.le; simp; omega) ?_; rintro v6 w6 hown6 hg6 -)
   go_ret
   refine ⟨_, rfl, ?_, ?_⟩
   ·unfold Tr.bk
    rw [List.map_append, HB.out, HS.out]
    exact World.ownsRow.mono (EvOwn.snoc (l := [((p : Int), (i : Int))]) hown6) hx1.le
   ·exact hx1.trans (((Below.mono hx15 (Nat.le_refl _)).alloc hx15.le _).grown hg6 (by have := hx15.le; simp; omega) HO5.out.block)
  ·have hk3b : (T.kind p i == 3) = false := by simpa using hk3
   have HS := Lib.hid (show (if T.kind p i = 3 then [T.toTr.sndN (p, i)] else ([] : List NN)).map evI = [] by rw [if_neg hk3]; rfl)
   go_wp2_with fail
   go_ret
   refine ⟨_, rfl, ?_, hx05⟩
   unfold Tr.bk
   rw [List.map_append, HB.out, HS.out, List.append_nil]
   exact World.ownsRow.mono HO5.out hx1.le
 ·have d0 : decide ((1 : Int) < (i : Int) + 1) = false := decide_eq_false (by omega)
  have HO3 := Lib.hid (EvOwn.nil w1 w1.heap.size)
  have HB := Lib.hid (show (if 0 < i then [(p, i - 1)] else ([] : List NN)).map evI = [] by rw [if_neg h0]; rfl)
  go_upto_region 5 with (go_at_call 190; refine (HE.out _ hx1).mono ?_; rintro e w4 ⟨rfl, hx4⟩)
  refine boxed1 (w := w4) (G := fun x => Code.wp _ _ _ _ x) ?_
  intro w5 hx5 hs5 ⟨l5, c5, _, _⟩
  have hx55 : Ext w5 w5 := Ext.refl _
  clear hs5
  have hx15 : Ext w1 w5 := hx11.trans (hx4.trans hx5)
  have hx05 : Ext w w5 := hx1.trans (hx4.trans hx5)
  have HO5 := Lib.hid (HO3.out.kept (hx4.trans hx5))
  by_cases hk3 : T.kind p i = 3
  ·have hlk := HL.out hk3 w5 hx05
   obtain ⟨⟨sp, si⟩, hsn⟩ : ∃ s, s = (T.toTr.snd ⟨(p, i), hp, hi⟩).1 := ⟨_, rfl⟩
   rw [← hsn] at hlk
   simp only [evV] at hlk
   have HS := Lib.hid (show (if T.kind p i = 3 then [T.toTr.sndN (p, i)] else ([] : List NN)).map evI = [((sp : Int), (si : Int) + 1)] by
    rw [if_pos hk3, show T.toTr.sndN (p, i) = (sp, si) from (Tr.sndN_eq _ ⟨(p, i), hp, hi⟩).trans hsn.symm]; rfl)
   clear hsn
   go_wp2_with (at_builtin; refine wpList_append_own _ rfl _ _ 77 rfl w1.heap.size 47 i0 (.agg #[.int .i64 0, .int .i64 0]) 2 16 Tryz.underlying77 hi0 hz0 hz1 hz2 rfl (by decide) (.slice none 0 0) 0 (evCells ([] : List (Int × Int))) rfl (by exact HO5.out.alloc _) ⟨w5.heap.size, 0, none⟩ 1 1 [.int .i64 sp, .int .i64 (si + 1)] rfl rfl (by exact news_ok w5 [_, _] _) (by intro u hu; simp at hu; rcases hu with rfl | rfl <;> rfl) (by unfold maxLen; omega) (by omega) (by have := hx15.le; simp; omega) ?_; rintro v6 w6 hown6 hg6 -)
   go_ret
   refine ⟨_, rfl, ?_, ?_⟩
   ·unfold Tr.bk
    rw [List.map_append, HB.out, HS.out]
    exact World.ownsRow.mono (EvOwn.snoc (l := ([] : List (Int × Int))) hown6) hx1.le
   ·exact hx1.trans (((Below.mono hx15 (Nat.le_refl _)).alloc hx15.le _).grown hg6 (by have := hx15.le; simp; omega) HO5.out.block)
  ·have hk3b : (T.kind p i == 3) = false := by simpa using hk3
   have HS := Lib.hid (show (if T.kind p i = 3 then [T.toTr.sndN (p, i)] else ([] : List NN)).map evI = [] by rw [if_neg hk3]; rfl)
   go_wp2_with fail
   go_ret
   refine ⟨_, rfl, ?_, hx05⟩
   unfold Tr.bk
   rw [List.map_append, HB.out, HS.out, List.append_nil]
   exact World.ownsRow.mono HO5.out hx1.le
end Go.Proofs.YtmhapcnlpoilpaaGreatDoor

namespace Go.Proofs.YtmhapcnlpoilpaaGreatDoor
inductive Tr.Past (T : Tr) (x : NN) : NN → Prop
 | self : Tr.Past T x x
 | step {y z : NN} : Tr.Past T x y → T.Dir z y → Tr.Past T x z
theorem Tr.mem_bk {T : Tr} {y z : NN} : z ∈ T.bk y ↔ T.Dir z y := by
 unfold Tr.bk Tr.Dir
 rw [List.mem_append]
 constructor
 ·rintro (h | h)
  ·split at h
   ·simp at h; subst h; left; exact ⟨rfl, by show y.2 = y.2 - 1 + 1; omega⟩
   ·cases h
  ·split at h
   ·next hk => simp at h; exact .inr ⟨hk, h⟩
   ·cases h
 ·rintro (⟨h1, h2⟩ | ⟨h1, h2⟩)
  ·left; rw [if_pos (by omega)]; simp; exact Prod.ext h1.symm (by show z.2 = y.2 - 1; omega)
  ·right; rw [if_pos h1]; simp [h2]
theorem Tr.bk_len (T : Tr) (y : NN) : (T.bk y).length ≤ 2 := by
 unfold Tr.bk; rw [List.length_append]; split <;> split <;> simp
theorem Tr.Past.V {T : Tr} {x y : NN} (hx : T.V x) (h : T.Past x y) : T.V y := by
 induction h with
 | self => exact hx
 | step _ d ih => exact Tr.Dir.V ih d
theorem Tr.Past.down {T : Tr} {x : NN} {p : Nat} : ∀ (d i : Nat), T.Past x (p, i + d) → T.Past x (p, i)
 | 0, _, h => h
 | d + 1, i, h => Tr.Past.down d i (.step h (.inl ⟨rfl, by show i + (d + 1) = i + d + 1; omega⟩))
theorem Tr.Past.le {T : Tr} {x : NN} {p i j : Nat} (h : T.Past x (p, j)) (hij : i ≤ j) : T.Past x (p, i) := by
 obtain ⟨d, rfl⟩ := Nat.exists_eq_add_of_le hij
 exact Tr.Past.down d i h
noncomputable def Tr.bkTo (T : Tr) (p hi : Nat) : Nat → List NN
 | 0 => []
 | d + 1 => T.bkTo p hi d ++ T.bk (p, hi - d)
theorem Tr.bkTo_len (T : Tr) (p hi : Nat) : ∀ d, (T.bkTo p hi d).length ≤ 2 * d
 | 0 => by simp [Tr.bkTo]
 | d + 1 => by
  have h1 := Tr.bkTo_len T p hi d
  have h2 := T.bk_len (p, hi - d)
  rw [Tr.bkTo, List.length_append]; omega
theorem Tr.bkTo_mem {T : Tr} {p hi : Nat} {z : NN} : ∀ {d}, z ∈ T.bkTo p hi d ↔ ∃ e, e < d ∧ z ∈ T.bk (p, hi - e)
 | 0 => by simp [Tr.bkTo]
 | d + 1 => by
  rw [Tr.bkTo, List.mem_append, Tr.bkTo_mem (d := d)]
  constructor
  ·rintro (⟨e, h1, h2⟩ | h)
   ·exact ⟨e, by omega, h2⟩
   ·exact ⟨d, by omega, h⟩
  ·rintro ⟨e, h1, h2⟩
   by_cases he : e = d
   ·subst he; exact .inr h2
   ·exact .inl ⟨e, by omega, h2⟩
def updC (c : Nat → Nat) (p v : Nat) : Nat → Nat := fun k => if k = p then v else c k
structure Tr.PaI (T : Tr) (x : NN) (c : Nat → Nat) (q : List NN) : Prop where
 hx : T.V x
 le : ∀ p, p < T.n → c p ≤ T.en p
 v : ∀ y, y ∈ q → T.Past x y
 p1 : ∀ p i, p < T.n → i < c p → T.Past x (p, i)
 cl : ∀ p i, p < T.n → i < c p → ∀ z, T.Dir z (p, i) → z.2 < c z.1 ∨ z ∈ q
 xx : x.2 < c x.1 ∨ x ∈ q
theorem Tr.PaI.start {T : Tr} {x : NN} (hx : T.V x) : T.PaI x (fun _ => 0) [x] :=
 ⟨hx, fun _ _ => Nat.zero_le _, fun y hy => by simp at hy; subst hy; exact .self, fun _ _ _ h => absurd h (Nat.not_lt_zero _), fun _ _ _ h => absurd h (Nat.not_lt_zero _), .inr (by simp)⟩
theorem Tr.PaI.skip {T : Tr} {x y : NN} {c : Nat → Nat} {q : List NN} (h : T.PaI x c (y :: q)) (hy : y.2 < c y.1) : T.PaI x c q := by
 refine ⟨h.hx, h.le, fun z hz => h.v z (by simp [hz]), h.p1, fun p i hp hi z hz => ?_, ?_⟩
 ·rcases h.cl p i hp hi z hz with h | h
  ·exact .inl h
  ·rcases List.mem_cons.1 h with rfl | h
   ·exact .inl hy
   ·exact .inr h
 ·rcases h.xx with h | h
  ·exact .inl h
  ·rcases List.mem_cons.1 h with rfl | h
   ·exact .inl hy
   ·exact .inr h
theorem Tr.PaI.take {T : Tr} {x y : NN} {c : Nat → Nat} {q : List NN} (h : T.PaI x c (y :: q)) (hy : c y.1 ≤ y.2) : T.PaI x (updC c y.1 (y.2 + 1)) (q ++ T.bkTo y.1 y.2 (y.2 + 1 - c y.1)) := by
 have hpy := h.v y (by simp)
 have hVy := hpy.V h.hx
 have hge : ∀ k, c k ≤ updC c y.1 (y.2 + 1) k := fun k => by
  unfold updC
  by_cases e : k = y.1
  ·rw [if_pos e, e]; omega
  ·rw [if_neg e]; omega
 refine ⟨h.hx, fun p hp => ?_, fun z hz => ?_, fun p i hp hi => ?_, fun p i hp hi z hz => ?_, ?_⟩
 ·unfold updC; split
  ·next e => subst e; exact hVy.2
  ·exact h.le p hp
 ·rcases List.mem_append.1 hz with hz | hz
  ·exact h.v z (by simp [hz])
  ·obtain ⟨e, he, hb⟩ := Tr.bkTo_mem.1 hz
   exact .step (Tr.Past.le (j := y.2) hpy (Nat.sub_le _ _)) (Tr.mem_bk.1 hb)
 ·unfold updC at hi; split at hi
  ·next e => subst e; exact Tr.Past.le (j := y.2) hpy (by omega)
  ·exact h.p1 p i hp hi
 ·by_cases hold : i < c p
  ·rcases h.cl p i hp hold z hz with h | h
   ·exact .inl (Nat.lt_of_lt_of_le h (hge _))
   ·rcases List.mem_cons.1 h with rfl | h
    ·left; unfold updC; rw [if_pos rfl]; omega
    ·exact .inr (by simp [h])
  ·unfold updC at hi; split at hi
   ·next e =>
    subst e
    right
    refine List.mem_append.2 (.inr (Tr.bkTo_mem.2 ⟨y.2 - i, by omega, ?_⟩))
    rw [show y.2 - (y.2 - i) = i by omega]; exact Tr.mem_bk.2 hz
   ·exact absurd hi hold
 ·rcases h.xx with h | h
  ·exact .inl (Nat.lt_of_lt_of_le h (hge _))
  ·rcases List.mem_cons.1 h with rfl | h
   ·left; unfold updC; rw [if_pos rfl]; omega
   ·exact .inr (by simp [h])
def Tr.PastC (T : Tr) (x : NN) (c : Nat → Nat) : Prop := (∀ p, p < T.n → c p ≤ T.en p) ∧ ∀ p i, p < T.n → (i < c p ↔ T.Past x (p, i))
theorem Tr.PaI.done {T : Tr} {x : NN} {c : Nat → Nat} (h : T.PaI x c []) : T.PastC x c := by
 refine ⟨h.le, fun p i hp => ⟨fun hi => h.p1 p i hp hi, fun hP => ?_⟩⟩
 have key : ∀ y, T.Past x y → y.2 < c y.1 := by
  intro y hy
  induction hy with
  | self =>
   rcases h.xx with h | h
   ·exact h
   ·cases h
  | @step y z hy d ih =>
   have hV := hy.V h.hx
   rcases h.cl y.1 y.2 hV.1 ih z d with h | h
   ·exact h
   ·cases h
 exact key (p, i) hP
def Tr.paM (T : Tr) (c : Nat → Nat) (q : List NN) : Nat := q.length + 3 * (tot T.en T.n - tot c T.n)
theorem tot_add {f g : Nat → Nat} {p d : Nat} : ∀ {n : Nat}, p < n → (∀ k, k ≠ p → f k = g k) → f p = g p + d → tot f n = tot g n + d
 | 0, h, _, _ => by omega
 | n + 1, h, ho, hp => by
  unfold tot
  by_cases e : p = n
  ·subst e
   rw [tot_congr (f := f) (g := g) fun k hk => ho k (by omega), hp]; omega
  ·rw [tot_add (f := f) (g := g) (n := n) (by omega) ho hp, ho n (fun h => e h.symm)]; omega
theorem Tr.PaI.less {T : Tr} {x y : NN} {c : Nat → Nat} {q : List NN} (h : T.PaI x c (y :: q)) (hy : c y.1 ≤ y.2) : T.paM (updC c y.1 (y.2 + 1)) (q ++ T.bkTo y.1 y.2 (y.2 + 1 - c y.1)) < T.paM c (y :: q) := by
 have hVy := (h.v y (by simp)).V h.hx
 have h2 := h.take hy
 have ht := tot_add (f := updC c y.1 (y.2 + 1)) (g := c) (p := y.1) (d := y.2 + 1 - c y.1) (n := T.n) hVy.1 (fun k hk => by unfold updC; rw [if_neg hk]) (by unfold updC; rw [if_pos rfl]; omega)
 have hle := tot_le (n := T.n) h2.le
 have hb := T.bkTo_len y.1 y.2 (y.2 + 1 - c y.1)
 unfold Tr.paM
 rw [List.length_append, List.length_cons]
 omega
end Go.Proofs.YtmhapcnlpoilpaaGreatDoor

namespace Go.Proofs.YtmhapcnlpoilpaaGreatDoor
open Go.RowKit Go.Shelf
structure CRow (w : World) (g n : Nat) (c : Nat → Nat) : Prop where
 c : ∀ k, k < n → w.cell? ⟨g, k, none⟩ = some (.int .i64 (c k))
 fr : ∀ o, w.frozen? ⟨g, o, none⟩ = false
 lt : g < w.heap.size
theorem CRow.block {w w' : World} {g n : Nat} {c : Nat → Nat} (h : CRow w g n c) (hs : w.heap.size ≤ w'.heap.size) (x : w'.heap[g]? = w.heap[g]?) : CRow w' g n c :=
 ⟨fun k hk => (World.cell?_of_block (w := w) (a := ⟨g, k, none⟩) x).trans (h.c k hk), fun o => (World.frozen?_of_block (w := w) (a := ⟨g, o, none⟩) x).trans (h.fr o), Nat.lt_of_lt_of_le h.lt hs⟩
theorem CRow.ext {w w' : World} {g n : Nat} {c : Nat → Nat} (h : CRow w g n c) (x : Ext w w') : CRow w' g n c := h.block x.le (x.block g h.lt)
theorem CRow.made {w : World} {base g n : Nat} (h : w.ownsRow base 3 1 (.slice (some ⟨g, 0, none⟩) n n) n (madeCells (Value.int .i64 0).cells (n * 1)).toList) : CRow w g n (fun _ => 0) := by
 obtain ⟨h1, ⟨hv, _⟩ | ⟨g', cap, cur, hv, hg, hh, hc, hm, hs, ht⟩⟩ := h
 ·cases hv
 ·simp only [Value.slice.injEq, Option.some.injEq, Addr.mk.injEq] at hv
  obtain ⟨⟨rfl, _⟩, _, rfl⟩ := hv
  have hb := Box.of hh
  have hz : (Value.int .i64 0).cells = #[.int .i64 0] := rfl
  rw [hz, toList_madeCells_one] at ht
  refine ⟨fun k hk => ?_, fun o => hb.frozen w (Ext.refl _) o, hb.lt w (Ext.refl _)⟩
  rw [hb.cell w (Ext.refl _)]
  have : cur[k]? = (List.replicate (n * 1) (Value.int .i64 0))[k]? := by rw [← ht, List.getElem?_take_of_lt (by omega)]; simp
  rw [this, List.getElem?_replicate, if_pos (by omega)]; rfl
theorem CRow.set {w : World} {g n : Nat} {c : Nat → Nat} (h : CRow w g n c) (q v : Nat) (hq : q < n) : CRow (w.setCell ⟨g, q, none⟩ (.int .i64 v)) g n (updC c q v) := by
 refine ⟨fun k hk => ?_, fun o => ?_, by rw [World.size_setCell]; exact h.lt⟩
 ·unfold updC
  by_cases e : k = q
  ·subst e
   rw [if_pos rfl]; exact World.cell?_setCell_same _ _ _ (h.c k hk)
  ·rw [if_neg e]; refine Eq.trans ?_ (h.c k hk); apply World.cell?_setCell_other; intro h9; simp only [Addr.mk.injEq] at h9; exact e h9.2.1.symm
 ·rw [frozen_set]; exact h.fr o
theorem evCells_append (a b : List (Int × Int)) : evCells (a ++ b) = evCells a ++ evCells b := by simp [evCells]
theorem evCells_one (l : List (Int × Int)) : ∀ u ∈ evCells l, u.oneCell' = true := by
 intro u hu
 simp only [evCells, List.mem_flatMap] at hu
 obtain ⟨x, _, hx⟩ := hu
 simp at hx
 rcases hx with rfl | rfl <;> rfl
structure PaW (T : TM) (bs br : Nat) (w : World) (c : Nat → Nat) (q : List NN) (v : Value) (wr : World) : Prop where
 h0 : Hold wr w.heap.size #[.slice (some ⟨T.b, T.off, none⟩) T.n T.cap, .map (some bs), .map (some br)]
 cn : CRow wr (w.heap.size + 1 + 1) T.n c
 qu : Que wr (w.heap.size + 1 + 1 + 1) 2 v q.length (evCells (q.map evI))
 bl : Ext w wr
theorem PaW.ext {T : TM} {bs br : Nat} {w wr w' : World} {c : Nat → Nat} {q : List NN} {v : Value} (h : PaW T bs br w c q v wr) (x : Ext wr w') : PaW T bs br w c q v w' :=
 ⟨h.h0.ext x, h.cn.ext x, h.qu.ext x, h.bl.trans x⟩
theorem PaW.grow {T : TM} {bs br : Nat} {w wr w4 w5 : World} {c : Nat → Nat} {q l : List NN} {v v' : Value} (h : PaW T bs br w c q v wr) (x : Ext wr w4)
    (hq : Que w5 (w.heap.size + 1 + 1 + 1) 2 v' (q.length + l.length) (evCells (q.map evI) ++ evCells (l.map evI))) (hg : w4.grownBy w5 v.ownBlock) : PaW T bs br w c (q ++ l) v' w5 := by
 have h4 := h.ext x
 have hb := h4.qu.block
 have hsz : w.heap.size + 1 + 1 < w4.heap.size := h4.cn.lt
 have hbl : ∀ k, k < w.heap.size + 1 + 1 + 1 → w5.heap[k]? = w4.heap[k]? := fun k hk => hg.block k (by omega) (fun e => by have := hb k e.symm; omega)
 refine ⟨?_, h4.cn.block hg.size (hbl _ (by omega)), ?_, ?_⟩
 ·obtain ⟨t, h0⟩ := h4.h0
  exact ⟨t, (hbl _ (by omega)).trans h0⟩
 ·rw [List.length_append, List.map_append, evCells_append]; exact hq
 ·exact Below.trans h4.bl ⟨hg.os, hg.tape, hg.output, hg.size, fun k hk => hbl k (by omega)⟩
theorem PaW.set {T : TM} {bs br : Nat} {w wr : World} {c : Nat → Nat} {q : List NN} {v : Value} (h : PaW T bs br w c q v wr) {p : Nat} (hp : p < T.n) (y : Nat) : PaW T bs br w (updC c p y) q v (wr.setCell ⟨w.heap.size + 1 + 1, p, none⟩ (.int .i64 y)) :=
 ⟨h.h0.other _ _ (by show _ ≠ w.heap.size + 1 + 1; omega), h.cn.set p y hp, h.qu.same (by rw [World.size_setCell]; exact Nat.le_refl _) (fun g hg _ => Below.heap_setCell _ _ _ _ (by show g ≠ w.heap.size + 1 + 1; omega)), h.bl.setCell (by show _ ≤ w.heap.size + 1 + 1; omega) _⟩
def PastPost (T : TM) (x : NN) (w : World) (e : Ending) (w' : World) : Prop := Ext w w' ∧ ∃ g c, e = .returned (.slice (some ⟨g, 0, none⟩) T.n T.n) ∧ w.heap.size ≤ g ∧ CRow w' g T.n c ∧ T.toTr.PastC x c
set_option maxRecDepth 100000 in
set_option maxHeartbeats 2000000 in
theorem past_any (w : World) (T : TM) (hT : T.At w) (hV : T.toTr.Valid) (x : NN) (hx : T.toTr.V x) (bs br : Nat) (hK : KnAt T bs br w) :
    Calls Tryz.prog 98 #[T.kn bs br, .agg #[.int .i64 x.1, .int .i64 (x.2 + 1)]] w (PastPost T x w) := by
 obtain ⟨i0, hi0, hz0, hz1, hz2⟩ := info_parts infoEv
 obtain ⟨j0, hj0, hy0, hy1, hy2⟩ := info_parts infoInt
 have hn1 := hV.n1
 have hn8 := hV.n8
 have hE8 : ∀ k, k < T.n → T.en k ≤ 64 := fun k hk => (hV.pr k hk).2.2.2.2
 have pa := hT.P.pa (by omega)
 have hB := fun W (hx : Ext w W) p i hp hi => back_any W T (hT.ext hx) hV p i hp hi bs br (hK.ext hx)
 simp only [TM.kn, pa] at hB
 have HB := Lib.hid hB
 clear hT hV hK hB
 go_enter Tryz.func98, Tryz.ntmps98
 go_upto_region 1 with fail
 refine boxed2 (w := w) (G := fun x => Code.wp _ _ _ _ x) ?_
 intro w1 hx1 hs1 ⟨l0, c0, _, k0⟩ ⟨l1, c1, _, _⟩
 have hx11 : Ext w1 w1 := Ext.refl _
 go_upto_region 2 with (at_make; refine wpList_make_full _ rfl _ _ 25 rfl w1.heap.size 3 j0 (.int .i64 0) 1 Tryz.underlying25 hj0 hy0 hy1 .i64 .i64 _ _ T.n rfl rfl rfl rfl (by rw [hy2]; omega) (by unfold maxLen; omega) (Nat.le_refl _) ?_; intro w3 hown3 hg3)
 have hx3 : Ext w1 w3 := (Below.refl _ _).grown hg3 (Nat.le_refl _) (by simp)
 rw [hs1] at hown3
 have hC3 := CRow.made hown3
 have hle3 := hC3.lt
 clear hown3 hg3
 go_upto_region 3 with fail
 refine boxed1t (w := w3) (G := fun x => Code.wp _ _ _ _ x) ?_
 intro w4 hx4 hs4 k4
 obtain ⟨p, i⟩ := x
 dsimp only at hx k4 c1 ⊢
 have HI0 := Lib.hid (PaW.mk (T := T) (bs := bs) (br := br) (w := w) (c := fun _ => 0) (q := [(p, i)]) (v := .slice (some ⟨w3.heap.size, 0, none⟩) 1 1) (wr := w4) (Hold.ext k0 (hx3.trans hx4)) (hC3.ext hx4) (Que.own (evOwn_one k4 hle3)) (hx1.trans (hx3.trans hx4)))
 have HP0 := Lib.hid (Tr.PaI.start (T := T.toTr) (x := (p, i)) hx)
 have HM0 := Lib.hid (show T.toTr.paM (fun _ => 0) [(p, i)] ≤ 2000 by
  have h := tot_small hE8
  have h3 : T.n * 64 ≤ 512 := by omega
  unfold Tr.paM; simp; omega)
 clear k0 k4 hC3 hle3 hs4 hs1 c0 c1 l0 l1 hx11 hx3 hx4 hx1
 generalize Value.slice (some (⟨w3.heap.size, 0, none⟩ : Addr)) 1 1 = v0 at HI0 ⊢
 go_wp2_with fail
 go_loopg [6] (T.toTr.paM (fun _ => 0) [(p, i)]) (fun gg v wr => ∃ (c : Nat → Nat) (q : List NN), gg = T.toTr.paM c q ∧ gg ≤ 2000 ∧ PaW T bs br w c q v wr ∧ T.toTr.PaI (p, i) c q)
 case atStart => exact ⟨_, _, rfl, HM0.out, HI0.out, HP0.out⟩
 case round =>
  obtain ⟨c, q, rfl, hgm, hI, hP⟩ := hrel
  have hxr := hI.bl
  have hrr : Ext wr wr := Ext.refl _
  have HP := Lib.hid hP
  have HI := Lib.hid hI
  have HG := Lib.hid hgm
  cases q with
  | nil =>
   obtain ⟨ao, cp, hv⟩ : ∃ ao cp, u6 = .slice ao 0 cp := by
    rcases hI.qu.val with ⟨ao, h, _⟩ | ⟨g, off, cap, h, _⟩
    ·exact ⟨_, _, h⟩
    ·exact ⟨_, _, h⟩
   subst hv
   clear hI hP hgm
   go_wp2_with fail
   go_ret
   exact ⟨hxr, _, c, rfl, by omega, HI.out.cn, HP.out.done⟩
  | cons y q =>
   obtain ⟨yp, yi⟩ := y
   obtain ⟨hyp, hyi⟩ : T.toTr.V (yp, yi) := (hP.v _ (by simp)).V hP.hx
   dsimp only at hyp hyi
   have hey := hE8 yp hyp
   obtain ⟨g, off, cap, hv, hgb, hgl, hcp, hcm, hcell, htail⟩ := Que.tail (n := q.length) hI.qu
   subst hv
   have q0 : ∀ w', Ext wr w' → w'.cell? ⟨g, off, none⟩ = some (.int .i64 yp) := fun w' h => h.cell ((hcell 0 (by omega)).trans rfl)
   have q1 : ∀ w', Ext wr w' → w'.cell? ⟨g, off + 1, none⟩ = some (.int .i64 (yi + 1)) := fun w' h => h.cell ((hcell 1 (by omega)).trans rfl)
   have hgl' : ∀ w', Ext wr w' → g < w'.heap.size := fun w' h => Nat.lt_of_lt_of_le hgl h.le
   have hcp' : 1 ≤ cap := by omega
   have HT := Lib.hid htail
   clear hI hP hgm htail hcell
   go_upto_region 6 with fail
   refine boxed1 (w := wr) (G := fun x => Code.wp _ _ _ _ x) ?_
   intro w5 hx5 hs5 ⟨l5, c5, _, k5⟩
   have hx55 : Ext w5 w5 := Ext.refl _
   have hyb := Lib.hid (show (Value.slice (if cap = 1 then some (⟨g, off, none⟩ : Addr) else some ⟨g, off + 2, none⟩) q.length (cap - 1)).ownBlock ≠ some wr.heap.size by
    by_cases h1 : cap = 1
    ·rw [if_pos h1]; intro e; simp [Value.ownBlock] at e; omega
    ·rw [if_neg h1]; intro e; simp [Value.ownBlock] at e; omega)
   generalize Value.slice (if cap = 1 then some (⟨g, off, none⟩ : Addr) else some ⟨g, off + 2, none⟩) q.length (cap - 1) = v1 at HT hyb ⊢
   have HI5 := Lib.hid (show PaW T bs br w c q v1 w5 from ⟨(HI.out.ext hx5).h0, (HI.out.ext hx5).cn, HT.out.ext hx5, (HI.out.ext hx5).bl⟩)
   have K5 := Lib.hid (show Hold w5 wr.heap.size _ from k5)
   have hcn : ∀ w', Ext w5 w' → w'.cell? ⟨w.heap.size + 1 + 1, yp, none⟩ = some (.int .i64 (c yp)) := fun w' h => h.cell (HI5.out.cn.c yp hyp)
   have hcl : ∀ w', Ext w5 w' → w.heap.size + 1 + 1 < w'.heap.size := fun w' h => Nat.lt_of_lt_of_le HI5.out.cn.lt h.le
   have hyp' : (yp : Int) < (T.n : Int) := by omega
   clear q0 q1 hgl' HT hgb hgl hcp hcm hcp' k5
   by_cases hc : yi + 1 ≤ c yp
   ·have dc : decide ((yi : Int) + 1 ≤ (c yp : Int)) = true := decide_eq_true (by omega)
    go_quiet (fail)
    go_wp2_with fail
    go_roundg (T.toTr.paM c q)
    case rel => exact ⟨c, q, rfl, by have := HG.out; unfold Tr.paM at this ⊢; simp at this; omega, HI5.out.ext (hx55.drewN _), HP.out.skip (by show yi < c yp; omega)⟩
    case measure => unfold Tr.paM; simp
   ·have dc : decide ((yi : Int) + 1 ≤ (c yp : Int)) = false := decide_eq_false (by omega)
    go_quiet (fail)
    go_wp2_with fail
    have hs5' : wr.heap.size < w5.heap.size := by omega
    generalize wr.heap.size = yb at hyb K5 l5 c5 hs5' ⊢
    have HL := Lib.hid (show q.length ≤ 2000 by have := HG.out; unfold Tr.paM at this; simp at this; omega)
    clear hcn hcl l5 c5 hs5 hx5
    go_loopg [6, 8] (yi + 1 - c yp) (fun gg v6 v8 wi => ∃ m : Nat, c yp ≤ m ∧ m ≤ yi + 1 ∧ gg = m - c yp ∧ v8 = .int .i64 m ∧ PaW T bs br w c (q ++ T.toTr.bkTo yp yi (yi + 1 - m)) v6 wi ∧ Hold wi yb #[.int .i64 yp, .int .i64 (yi + 1)] ∧ v6.ownBlock ≠ some yb)
    case atStart => exact ⟨yi + 1, by omega, Nat.le_refl _, rfl, by go_num, by rw [Nat.sub_self, Tr.bkTo, List.append_nil]; exact HI5.out.ext (hx55.drewN _), K5.out.drewN _, hyb.out⟩
    case round =>
     obtain ⟨m, hm1, hm2, rfl, rfl, hI, hk, hne⟩ := hrel
     have hxi := hI.bl
     have hii : Ext wr wr := Ext.refl _
     obtain ⟨l5, c5, _, _⟩ := hk.box
     obtain ⟨l0, c0, _, _⟩ := hI.h0.box
     have hcn : ∀ w', Ext wr w' → w'.cell? ⟨w.heap.size + 1 + 1, yp, none⟩ = some (.int .i64 (c yp)) := fun w' h => h.cell (hI.cn.c yp hyp)
     have hcl : ∀ w', Ext wr w' → w.heap.size + 1 + 1 < w'.heap.size := fun w' h => Nat.lt_of_lt_of_le hI.cn.lt h.le
     have hcf := hI.cn.fr
     have HI2 := Lib.hid hI
     have HK := Lib.hid hk
     have HNE := Lib.hid hne
     clear hI hk hne
     by_cases hlt : c yp < m
     ·obtain ⟨e, rfl⟩ : ∃ e, m = e + 1 := ⟨m - 1, by omega⟩
      have dm : decide ((c yp : Int) < (e : Int) + 1) = true := decide_eq_true (by omega)
      have hBk := HB.out wr hxi yp e hyp (by omega)
      go_wp2_with (first | (go_at_call 146; refine hBk.mono ?_; rintro r w6 ⟨v2, rfl, hown6, hx6⟩; have HQ6 := Lib.hid (Que.own hown6); clear hown6) | (at_builtin; refine wpList_append_que _ rfl _ _ 77 77 rfl (base := w.heap.size + 1 + 1 + 1) (e := 47) (size := 2) i0 (.agg #[.int .i64 0, .int .i64 0]) 16 Tryz.underlying77 hi0 hz0 hz1 hz2 rfl rfl (HI2.out.ext hx6).qu (by have := (HI2.out.ext hx6).cn.lt; omega) v2 _ _ rfl (HQ6.out.src Tryz.underlying77 (evCells_one _)) (by have h1 := HL.out; have h2 := T.toTr.bkTo_len yp yi (yi + 1 - (e + 1)); have h3 := T.toTr.bk_len (yp, e); simp only [List.length_append, List.length_map]; unfold maxLen; omega) (by have h1 := HL.out; have h2 := T.toTr.bkTo_len yp yi (yi + 1 - (e + 1)); have h3 := T.toTr.bk_len (yp, e); simp only [List.length_append, List.length_map]; omega) ?_; rintro v7 w7 hq7 hg7 hat7; have H7 := Lib.hid (And.intro hq7 (And.intro hg7 hat7)); clear hq7 hg7 hat7))
      go_roundg (e - c yp)
      case rel =>
       have h7 := H7.out
       rw [List.length_map] at h7
       have hk6 := HK.out.ext hx6
       have hlt6 := hk6.lt
       refine ⟨e, by omega, by omega, rfl, rfl, ?_, ?_, ?_⟩
       ·rw [show yi + 1 - e = (yi + 1 - (e + 1)) + 1 by omega, Tr.bkTo, ← List.append_assoc, show yi - (yi + 1 - (e + 1)) = e by omega]
        exact HI2.out.grow hx6 h7.1 h7.2.1
       ·obtain ⟨t, hk6⟩ := hk6
        exact ⟨t, (h7.2.1.block yb hlt6 (fun h => HNE.out h.symm)).trans hk6⟩
       ·intro h
        rcases h7.2.2 with h8 | h8
        ·exact HNE.out (h8 ▸ h)
        ·rw [h8] at h; cases h; omega
      case measure => omega
     ·have hme : m = c yp := by omega
      subst hme
      have dm : decide ((c yp : Int) < (c yp : Int)) = false := decide_eq_false (by omega)
      go_wp2_with fail
      go_roundg (T.toTr.paM (updC c yp (yi + 1)) (q ++ T.toTr.bkTo yp yi (yi + 1 - c yp)))
      case rel => exact ⟨_, _, rfl, Nat.le_trans (Nat.le_of_lt (HP.out.less (by show c yp ≤ yi; omega))) HG.out, by have := HI2.out.set hyp (yi + 1); rw [Int.natCast_add] at this; exact this, HP.out.take (by show c yp ≤ yi; omega)⟩
      case measure => exact HP.out.less (by show c yp ≤ yi; omega)
end Go.Proofs.YtmhapcnlpoilpaaGreatDoor

namespace Go.Proofs.YtmhapcnlpoilpaaGreatDoor
open Go.RowKit Go.Shelf
end Go.Proofs.YtmhapcnlpoilpaaGreatDoor

namespace Go.Proofs.YtmhapcnlpoilpaaGreatDoor
open Go.RowKit Go.Shelf
def Tr.Is (T : Tr) (p i : Int) : Prop := 0 ≤ p ∧ p < T.n ∧ 1 ≤ i ∧ i ≤ T.en p.toNat
set_option maxRecDepth 100000 in
set_option maxHeartbeats 1000000 in
theorem exists_any (w : World) (T : TM) (hT : T.At w) (p i : Int) (b : Bool) (hb : b = true ↔ T.toTr.Is p i) :
    Calls Tryz.prog 97 #[T.val, .agg #[.int .i64 p, .int .i64 i]] w fun e w' => e = .returned (.bool b) ∧ Ext w w' := by
 have hn := hT.P.hn
 have hen := hT.E.he
 have HT := Lib.hid hT
 clear hT
 by_cases h1 : 0 ≤ p
 ·have d1 : decide (0 ≤ p) = true := decide_eq_true h1
  by_cases h2 : p < (T.n : Int)
  ·have d2 : decide (p < (T.n : Int)) = true := decide_eq_true h2
   have pa := HT.out.P.pa (by omega)
   have pb := HT.out.P.pb (by omega)
   have p2 := HT.out.P.p2
   by_cases h3 : 1 ≤ i
   ·have d3 : decide (1 ≤ i) = true := decide_eq_true h3
    obtain ⟨k, rfl⟩ := Int.eq_ofNat_of_zero_le h1
    have hk : k < T.n := by omega
    have hek := hen k hk
    by_cases h4 : i ≤ (T.en k : Int)
    ·have d4 : decide (i ≤ (T.en k : Int)) = true := decide_eq_true h4
     obtain rfl : b = true := hb.2 ⟨h1, h2, h3, by simpa using h4⟩
     clear hb
     go_enter Tryz.func97, Tryz.ntmps97
     go_upto_region 1 with fail
     refine boxed2 (w := w) (G := fun x => Code.wp _ _ _ _ x) ?_
     intro w1 hx1 hs1 ⟨l0, c0, _, _⟩ ⟨l1, c1, _, _⟩
     have hx11 : Ext w1 w1 := Ext.refl _
     clear hs1
     go_quiet (fail)
     go_wp2_with fail
     go_ret
     exact ⟨rfl, hx1.drewN _⟩
    ·have d4 : decide (i ≤ (T.en k : Int)) = false := decide_eq_false h4
     obtain rfl : b = false := Bool.eq_false_iff.2 fun h => h4 (by simpa using (hb.1 h).2.2.2)
     clear hb
     go_enter Tryz.func97, Tryz.ntmps97
     go_upto_region 1 with fail
     refine boxed2 (w := w) (G := fun x => Code.wp _ _ _ _ x) ?_
     intro w1 hx1 hs1 ⟨l0, c0, _, _⟩ ⟨l1, c1, _, _⟩
     have hx11 : Ext w1 w1 := Ext.refl _
     clear hs1
     go_quiet (fail)
     go_wp2_with fail
     go_ret
     exact ⟨rfl, hx1.drewN _⟩
   ·have d3 : decide (1 ≤ i) = false := decide_eq_false h3
    obtain rfl : b = false := Bool.eq_false_iff.2 fun h => h3 (hb.1 h).2.2.1
    clear hb
    go_enter Tryz.func97, Tryz.ntmps97
    go_upto_region 1 with fail
    refine boxed2 (w := w) (G := fun x => Code.wp _ _ _ _ x) ?_
    intro w1 hx1 hs1 ⟨l0, c0, _, _⟩ ⟨l1, c1, _, _⟩
    have hx11 : Ext w1 w1 := Ext.refl _
    clear hs1
    go_quiet (fail)
    go_wp2_with fail
    go_ret
    exact ⟨rfl, hx1.drewN _⟩
  ·have d2 : decide (p < (T.n : Int)) = false := decide_eq_false h2
   obtain rfl : b = false := Bool.eq_false_iff.2 fun h => h2 (hb.1 h).2.1
   clear hb
   go_enter Tryz.func97, Tryz.ntmps97
   go_upto_region 1 with fail
   refine boxed2 (w := w) (G := fun x => Code.wp _ _ _ _ x) ?_
   intro w1 hx1 hs1 ⟨l0, c0, _, _⟩ ⟨l1, c1, _, _⟩
   have hx11 : Ext w1 w1 := Ext.refl _
   clear hs1
   go_quiet (fail)
   go_wp2_with fail
   go_ret
   exact ⟨rfl, hx1.drewN _⟩
 ·have d1 : decide (0 ≤ p) = false := decide_eq_false h1
  obtain rfl : b = false := Bool.eq_false_iff.2 fun h => h1 (hb.1 h).1
  clear hb
  go_enter Tryz.func97, Tryz.ntmps97
  go_upto_region 1 with fail
  refine boxed2 (w := w) (G := fun x => Code.wp _ _ _ _ x) ?_
  intro w1 hx1 hs1 ⟨l0, c0, _, _⟩ ⟨l1, c1, _, _⟩
  have hx11 : Ext w1 w1 := Ext.refl _
  clear hs1
  go_quiet (fail)
  go_wp2_with fail
  go_ret
  exact ⟨rfl, hx1.drewN _⟩
set_option maxRecDepth 100000 in
set_option maxHeartbeats 1000000 in
theorem check_two (w : World) (T : TM) (hT : T.At w) (hV : T.toTr.Valid) (g : Nat) (x y : NN) (hx : T.toTr.V x) (hy : T.toTr.V y) (hg : Hold w g #[.int .i64 x.1, .int .i64 (x.2 + 1), .int .i64 y.1, .int .i64 (y.2 + 1)]) :
    Calls Tryz.prog 46 #[T.val, .slice (some ⟨g, 0, none⟩) 2 2] w fun e w' => e = .returned (.int .i64 0) ∧ Ext w w' := by
 have pa := hT.P.pa (by have := hx.1; omega)
 have hE := fun (z : NN) (hz : T.toTr.V z) W (h : Ext w W) => exists_any W T (hT.ext h) z.1 (z.2 + 1) true ⟨fun _ => ⟨by omega, by have := hz.1; omega, by omega, by have := hz.2; simp; omega⟩, fun _ => rfl⟩
 have HE1 := Lib.hid (hE x hx)
 have HE2 := Lib.hid (hE y hy)
 clear hE
 obtain ⟨xp, xi⟩ := x
 obtain ⟨yp, yi⟩ := y
 dsimp only at hg
 go_enter Tryz.func46, Tryz.ntmps46
 go_upto_region 1 with fail
 refine boxed1 (w := w) (G := fun x => Code.wp _ _ _ _ x) ?_
 intro w1 hx1 hs1 ⟨l0, c0, _, _⟩
 have hx11 : Ext w1 w1 := Ext.refl _
 have hF := valid_any w1 T (hT.ext hx1)
 simp only [TM.val, pa] at hF
 obtain ⟨lg, cg, _, _⟩ := hg.box
 have h1 := HE1.out
 have h2 := HE2.out
 simp only [TM.val, pa] at h1 h2
 have HE1 := Lib.hid h1
 have HE2 := Lib.hid h2
 clear hs1 hT hx hy hg h1 h2
 go_wp2_with (go_at_call 35; refine hF.mono ?_; rintro e w2 ⟨b, rfl, hb, hx2⟩; obtain rfl : b = true := hb.2 hV; clear hb)
 clear hF
 have hx12 := hx1.trans hx2
 go_loopg [12] 2 (fun gg v wr => ((gg = 2 ∧ v = .int .i64 0) ∨ (gg = 1 ∧ v = .int .i64 1) ∨ (gg = 0 ∧ v = .int .i64 2)) ∧ Ext w1 wr)
 case atStart => exact ⟨.inl ⟨rfl, rfl⟩, hx2⟩
 case round =>
  obtain ⟨h, hxr⟩ := hrel
  have hxw := hx1.trans hxr
  rcases h with ⟨rfl, rfl⟩ | ⟨rfl, rfl⟩ | ⟨rfl, rfl⟩
  ·go_upto_region 6 with fail
   refine boxed1 (w := wr) (G := fun x => Code.wp _ _ _ _ x) ?_
   intro w3 hx3 hs3 ⟨l3, c3, _, _⟩
   have hx33 : Ext w3 w3 := Ext.refl _
   clear hs3
   have hx13 := hxr.trans hx3
   go_wp2_with (go_at_call 97; refine (HE1.out _ (hxw.trans hx3)).mono ?_; rintro e w4 ⟨rfl, hx4⟩)
   go_roundg 1
   case rel => exact ⟨.inr (.inl ⟨rfl, rfl⟩), hxr.trans (hx3.trans hx4)⟩
   case measure => omega
  ·go_upto_region 6 with fail
   refine boxed1 (w := wr) (G := fun x => Code.wp _ _ _ _ x) ?_
   intro w3 hx3 hs3 ⟨l3, c3, _, _⟩
   have hx33 : Ext w3 w3 := Ext.refl _
   clear hs3
   have hx13 := hxr.trans hx3
   go_wp2_with (go_at_call 97; refine (HE2.out _ (hxw.trans hx3)).mono ?_; rintro e w4 ⟨rfl, hx4⟩)
   go_roundg 0
   case rel => exact ⟨.inr (.inr ⟨rfl, rfl⟩), hxr.trans (hx3.trans hx4)⟩
   case measure => omega
  ·go_wp2_with fail
   go_ret
   exact ⟨rfl, hxw⟩
end Go.Proofs.YtmhapcnlpoilpaaGreatDoor

namespace Go.Proofs.YtmhapcnlpoilpaaGreatDoor
open Go.RowKit Go.Shelf
def Tr.evN (T : Tr) (k : Nat) : NN := (T.evs.map (·.1)).getD k (0, 0)
theorem Tr.evN_get (T : Tr) (k : Nat) (h : k < T.evs.length) : T.evN k = (T.evs[k]).1 := by
 unfold Tr.evN; rw [List.getD_eq_getElem?_getD, List.getElem?_eq_getElem (by simpa using h)]; simp
def Tr.bef (T : Tr) (i j : Nat) : Prop := T.evN i ≠ T.evN j ∧ T.Past (T.evN j) (T.evN i)
open Classical in
noncomputable def Tr.lat (T : Tr) (j i : Nat) : List Int := ((List.range j).filter fun k => decide (T.bef i k)).map fun (k : Nat) => (k : Int)
theorem StS.congr {base bS n : Nat} {r r' : Nat → List Int} {vs : Nat → Value} {w : World} (h : StS base bS n r vs w) (he : ∀ k, k < n → r k = r' k) : StS base bS n r' vs w :=
 ⟨h.hn, h.cell, h.froz, fun k hk => by rw [← he k hk]; exact h.own k hk, h.apart, h.off, fun k hk => by rw [← he k hk]; exact h.len k hk⟩
theorem Hold.at {w w' : World} {b : Nat} {c : Array Value} (h : Hold w b c) (e : w'.heap[b]? = w.heap[b]?) : Hold w' b c := by
 obtain ⟨t, h⟩ := h; exact ⟨t, e.trans h⟩
end Go.Proofs.YtmhapcnlpoilpaaGreatDoor

namespace Go.Proofs.YtmhapcnlpoilpaaGreatDoor
open Go.RowKit Go.Shelf
theorem drewd {w : World} {n : Nat} {G : World → Prop} (h : ∀ w', Ext w w' → G w') : G (w.drewN n) := h _ ((Ext.refl _).drewN _)
end Go.Proofs.YtmhapcnlpoilpaaGreatDoor

namespace Go.Proofs.YtmhapcnlpoilpaaGreatDoor
open Go.RowKit Go.Shelf
end Go.Proofs.YtmhapcnlpoilpaaGreatDoor

namespace Go.Proofs.YtmhapcnlpoilpaaGreatDoor
open Go.RowKit Go.Shelf
open Classical in
noncomputable def Tr.sk (T : Tr) (rows : Nat → List Int) (x y : Nat) : Nat := if stOf rows (T.evN x) < stOf rows (T.evN y) ∧ ¬ T.bef x y then 1 else 0
noncomputable def Tr.skipN (T : Tr) (rows : Nat → List Int) : Nat := tot (fun x => tot (T.sk rows x) T.evs.length) T.evs.length
theorem Tr.sk_no {T : Tr} {rows : Nat → List Int} {x y : Nat} (h : ¬ (stOf rows (T.evN x) < stOf rows (T.evN y) ∧ ¬ T.bef x y)) : T.sk rows x y = 0 := by unfold Tr.sk; rw [if_neg h]
end Go.Proofs.YtmhapcnlpoilpaaGreatDoor

namespace Go.Proofs.YtmhapcnlpoilpaaGreatDoor
open Go.RowKit Go.Shelf
structure IntAt (w : World) (a : Option Addr) (b off n : Nat) (l : Nat → Int) : Prop where
 hn : n ≤ 140737488355328
 pa : 0 < n → a = some ⟨b, off, none⟩
 pb : 0 < n → ∀ w', Ext w w' → b < w'.heap.size
 p0 : ∀ w', Ext w w' → ∀ k, k < n → w'.cell? ⟨b, off + k, none⟩ = some (.int .i64 (l k))
theorem IntAt.ext {w w' : World} {a : Option Addr} {b off n : Nat} {l : Nat → Int} (h : IntAt w a b off n l) (x : Ext w w') : IntAt w' a b off n l :=
 ⟨h.hn, h.pa, fun h0 w2 y => h.pb h0 w2 (x.trans y), fun w2 y => h.p0 w2 (x.trans y)⟩
theorem MM.At.row {M : MM} {w : World} (h : M.At w) {k : Nat} (hk : k < M.n) : IntAt w (M.ra k) (M.rb k) (M.ro k) (M.rn k) (M.val k) :=
 ⟨h.hr k hk, h.ra k hk, h.rb k hk, fun w' x i hi => h.r0 w' x k i hk hi⟩
end Go.Proofs.YtmhapcnlpoilpaaGreatDoor

namespace Go.Proofs.YtmhapcnlpoilpaaGreatDoor
def exTr : Tr where
 n := 2
 name k := if k = 0 then ⟨#[97]⟩ else ⟨#[98]⟩
 vn _ := 0
 vname _ _ := ⟨#[]⟩
 vinit _ _ := 0
 en k := if k = 0 then 1 else 2
 kind k i := if k = 0 then 2 else if i = 0 then 1 else 3
 peer k _ := if k = 0 then 1 else 0
 msg k i := if k = 0 then 5 else if i = 0 then 0 else 5
 time _ _ := 0
 an _ _ := 0
 avar _ _ _ := 0
 aval _ _ _ := 0
theorem two_cases {k : Nat} (h : k < 2) : k = 0 ∨ k = 1 := by omega
def ex0 : exTr.Id := ⟨(0, 0), by decide, by decide⟩
def ex1 : exTr.Id := ⟨(1, 0), by decide, by decide⟩
def ex2 : exTr.Id := ⟨(1, 1), by decide, by decide⟩
theorem ex_evs : exTr.evs = [ex0, ex1, ex2] := by rfl
theorem ex_ind {P : exTr.Id → Prop} (h0 : P ex0) (h1 : P ex1) (h2 : P ex2) : ∀ x, P x := by
 intro x
 have h := evs_all x
 rw [ex_evs] at h
 simp at h
 rcases h with rfl | rfl | rfl
 ·exact h0
 ·exact h1
 ·exact h2
theorem ex_valid : exTr.Valid := by
 refine ⟨by decide, by decide, fun k hk => ?_, fun k i hk hi => ?_, ?_, ?_⟩
 ·rcases two_cases hk with rfl | rfl
  ·exact ⟨by decide, by decide, by decide, fun i hi => absurd hi (Nat.not_lt_zero _), by decide⟩
  ·exact ⟨by decide, by kernel_rfl, by decide, fun i hi => absurd hi (Nat.not_lt_zero _), by decide⟩
 ·have hh := ex_ind (P := fun x => exTr.EvOk x.1.1 x.1.2) ⟨by unfold FormedP; decide, by decide, by decide, by decide, fun j hj => absurd hj (Nat.not_lt_zero _)⟩ ⟨by unfold FormedP; decide, by decide, by decide, by decide, fun j hj => absurd hj (Nat.not_lt_zero _)⟩ ⟨by unfold FormedP; decide, by decide, by decide, by decide, fun j hj => absurd hj (Nat.not_lt_zero _)⟩
  exact hh ⟨(k, i), hk, hi⟩
 ·rw [ex_evs]
  intro pre x ⟨t, ht⟩
  match pre, ht with
  | [], ht =>
   simp at ht; obtain ⟨rfl, _⟩ := ht
   exact ⟨fun _ => by decide, fun h => by revert h; decide⟩
  | [a], ht =>
   simp at ht; obtain ⟨rfl, rfl, _⟩ := ht
   exact ⟨fun h => by revert h; decide, fun h => by revert h; decide⟩
  | [a, b], ht =>
   simp at ht; obtain ⟨rfl, rfl, rfl, _⟩ := ht
   exact ⟨fun h => by revert h; decide, fun _ => ⟨by decide, by decide⟩⟩
  | a :: b :: c :: r, ht =>
   have := congrArg List.length ht
   simp at this
 ·rintro ⟨x, hp⟩
  have h := path_rank (V := exTr.V) (fun z => z.1 + z.2) ?_ x.2 hp
  ·exact absurd h.2 (Nat.lt_irrefl _)
  ·intro a b ha hb
   have hh := ex_ind (P := fun x => ∀ b, b ∈ exTr.succ (Ltr.of exTr exTr.evs) x.1 → exTr.V b ∧ x.1.1 + x.1.2 < b.1 + b.2) ?_ ?_ ?_ ⟨a, ha⟩ b hb
   ·exact hh
   ·intro b hb
    have : exTr.succ (Ltr.of exTr exTr.evs) ex0.1 = [(1, 1)] := by rfl
    rw [this] at hb; simp at hb; subst hb; exact ⟨⟨by decide, by decide⟩, by decide⟩
   ·intro b hb
    have : exTr.succ (Ltr.of exTr exTr.evs) ex1.1 = [(1, 1)] := by rfl
    rw [this] at hb; simp at hb; subst hb; exact ⟨⟨by decide, by decide⟩, by decide⟩
   ·intro b hb
    have : exTr.succ (Ltr.of exTr exTr.evs) ex2.1 = [] := by rfl
    rw [this] at hb; cases hb
theorem ex_snd : exTr.sndN (1, 1) = (0, 0) := by
 have h : exTr.snd ex2 = ex0 := ex_valid.snd_eq ⟨by decide, by decide, by decide⟩
 have := exTr.sndN_eq ex2
 rw [h] at this; exact this
theorem ex_rows {rows : Nat → List Int} (h : exTr.Stamps rows) : rows 0 = [1] ∧ rows 1 = [1, 2] := by
 have l0 := h.len 0 (by decide)
 have l1 := h.len 1 (by decide)
 have e0 := h.eq 0 0 (by decide) (by decide)
 have e1 := h.eq 1 0 (by decide) (by decide)
 have e2 := h.eq 1 1 (by decide) (by decide)
 rw [ex_snd] at e2
 simp [exTr] at e0 e1 e2 l0 l1
 match h0 : rows 0, l0 with
 | [a], _ =>
  match h1 : rows 1, l1 with
  | [b, c], _ =>
   simp [h0] at e0
   simp [h1] at e1
   simp [h0, h1] at e2
   subst e0 e1
   simp at e2
   subst e2
   exact ⟨rfl, rfl⟩
theorem ex_st {rows : Nat → List Int} (h : exTr.Stamps rows) : stOf rows (0, 0) = 1 ∧ stOf rows (1, 0) = 1 ∧ stOf rows (1, 1) = 2 := by
 obtain ⟨h0, h1⟩ := ex_rows h
 unfold stOf
 simp [h0, h1]
theorem ex_prv {rows : Nat → List Int} (h : exTr.Stamps rows) : exTr.prvN rows (1, 1) 0 = (1, 1) ∧ exTr.prvN rows (1, 1) 1 = (1, 0) := by
 obtain ⟨_, h1, h2⟩ := ex_st h
 refine ⟨rfl, ?_⟩
 show exTr.prv rows (1, 1) = _
 unfold Tr.prv
 rw [if_pos ⟨by decide, by rw [h2]; show stOf rows (1, 0) = _; rw [h1]; rfl⟩]
 rfl
theorem ex_skip {rows : Nat → List Int} (h : exTr.Stamps rows) : exTr.skipN rows = 0 := by
 obtain ⟨h0, h1, h2⟩ := ex_st h
 have n0 : exTr.evN 0 = (0, 0) := rfl
 have n1 : exTr.evN 1 = (1, 0) := rfl
 have n2 : exTr.evN 2 = (1, 1) := rfl
 have b1 : exTr.bef 0 2 := ⟨by rw [n0, n2]; decide, by rw [n0, n2]; exact .step .self (.inr ⟨by decide, ex_snd.symm⟩)⟩
 have b2 : exTr.bef 1 2 := ⟨by rw [n1, n2]; decide, by rw [n1, n2]; exact .step .self (.inl ⟨rfl, rfl⟩)⟩
 have key : ∀ x y, x < 3 → y < 3 → exTr.sk rows x y = 0 := by
  intro x y hx hy
  refine Tr.sk_no fun ⟨ha, hb⟩ => ?_
  have hxs : x = 0 ∨ x = 1 ∨ x = 2 := by omega
  have hys : y = 0 ∨ y = 1 ∨ y = 2 := by omega
  rcases hxs with rfl | rfl | rfl <;> rcases hys with rfl | rfl | rfl <;> first | exact hb b1 | exact hb b2 | (simp only [n0, n1, n2, h0, h1, h2] at ha; omega)
 have hl : exTr.evs.length = 3 := rfl
 unfold Tr.skipN
 rw [hl]
 simp only [tot, key 0 0, key 0 1, key 0 2, key 1 0, key 1 1, key 1 2, key 2 0, key 2 1, key 2 2, Nat.lt_add_one, Nat.reduceLT, Nat.add_zero]
end Go.Proofs.YtmhapcnlpoilpaaGreatDoor
