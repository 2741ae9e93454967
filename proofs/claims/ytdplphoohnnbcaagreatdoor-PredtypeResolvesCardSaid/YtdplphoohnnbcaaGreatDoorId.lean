/- Contract: causality.knows (maps from message numbers to events). A law on drawn regions: reads first (walked once), then a call and what waits for it, in whatever order. Nothing of the program. Contracts of antecederef12: Find, At. Contracts: causality's known.event and known.back. The past of an event, by a queue: plain. -/
import Derived.Test.YtdplphoohnnbcaaGreatDoorIb
import Derived.Deep.LoopGhost
import Derived.StillTailTactics
import Derived.Test.YtdplphoohnnbcaaGreatDoorHa
import Derived.Test.YtdplphoohnnbcaaGreatDoorIa
import Derived.Test.YtdplphoohnnbcaaGreatDoorHg
import Derived.Test.YtdplphoohnnbcaaGreatDoorHk
namespace Go.Proofs.YtdplphoohnnbcaaGreatDoor
open Go.RowKit Go.Shelf

/-- the entries L lie in the map of block b, in order -/
def MapAt (w : World) (b : Nat) (L : List (Int × (Int × Int))) : Prop :=
  ∃ es clock, w.heap[b]? = some (.map es clock) ∧ es.toList.map (fun e => (e.key, e.val)) = L.map (fun x => (.int .i64 x.1, evV x.2))
theorem MapAt.ext {w w' : World} {b : Nat} {L : List (Int × (Int × Int))} (h : MapAt w b L) (x : Ext w w') : MapAt w' b L := by
  obtain ⟨es, c, hb, he⟩ := h
  exact ⟨es, c, (x.block b (Array.getElem?_eq_some_iff.1 hb).1).trans hb, he⟩
theorem MapAt.same {w w' : World} {b : Nat} {L : List (Int × (Int × Int))} (h : MapAt w b L) (x : w'.heap[b]? = w.heap[b]?) : MapAt w' b L := by
  obtain ⟨es, c, hb, he⟩ := h
  exact ⟨es, c, x.trans hb, he⟩
theorem MapAt.lt {w : World} {b : Nat} {L : List (Int × (Int × Int))} (h : MapAt w b L) : b < w.heap.size := by
  obtain ⟨es, c, hb, he⟩ := h; exact (Array.getElem?_eq_some_iff.1 hb).1
theorem MapAt.new (w : World) : MapAt (w.alloc (.map #[] 0)) w.heap.size [] := ⟨#[], 0, by show (w.heap.push _)[w.heap.size]? = _; simp, rfl⟩
/-- the place of the first entry of m, from i on -/
def placeM (m : Int) : List (Int × (Int × Int)) → Nat → Option (Nat × Value)
  | [], _ => none
  | x :: L, i => if m = x.1 then some (i, evV x.2) else placeM m L (i + 1)
theorem findNow_int {q : IntKind} {d : TypeDesc} (hd : d = .int q) (m : Int) : ∀ (es : List MapEntry) (L : List (Int × (Int × Int))) (i : Nat), es.map (fun e => (e.key, e.val)) = L.map (fun x => (Value.int .i64 x.1, evV x.2)) →
    Instr.findNow d (.int .i64 m) es i = some (placeM m L i)
  | [], [], i, _ => by simp [Instr.findNow, placeM]
  | [], _ :: _, _, h => by simp at h
  | _ :: _, [], _, h => by simp at h
  | e :: es, x :: L, i, h => by
    simp only [List.map_cons, List.cons.injEq, Prod.mk.injEq] at h
    obtain ⟨⟨h1, h2⟩, h3⟩ := h
    have ih := findNow_int hd m es L (i + 1) h3
    subst hd
    by_cases e' : m = x.1
    · simp [Instr.findNow, Instr.sameNow, placeM, h1, h2, e']
    · have hb : (m == x.1) = false := by simpa using e'
      simp [Instr.findNow, Instr.sameNow, placeM, h1, e', ih, hb]
theorem run_findKey_int (m : Int) (w : World) (es : List MapEntry) (L : List (Int × (Int × Int))) (h : es.map (fun e => (e.key, e.val)) = L.map (fun x => (Value.int .i64 x.1, evV x.2))) :
    (Instr.findKey 3 (.int .i64 m) es).run Tryz.prog w = .ok (placeM m L 0) w := by
  unfold Instr.findKey
  simp [Sem.run_bind, run_underlying Tryz.underlying3, findNow_int rfl m es L 0 h]
theorem run_checkKey_int (b : Bool) (m : Int) (w : World) : (Instr.checkKey b 10000 3 (.int .i64 m)).run Tryz.prog w = .ok () w := by
  show (Instr.checkKey b (9999 + 1) 3 (.int .i64 m)).run Tryz.prog w = _
  rw [Instr.checkKey]; simp [go_sem, run_underlying Tryz.underlying3]
theorem placeM_none {m : Int} : ∀ (L : List (Int × (Int × Int))) (i : Nat), (∀ e ∈ L, e.1 ≠ m) → placeM m L i = none
  | [], _, _ => rfl
  | x :: L, i, h => by
    rw [placeM, if_neg (fun e => h x (by simp) e.symm)]; exact placeM_none L (i + 1) fun e he => h e (by simp [he])
theorem placeM_some {m : Int} {v : Int × Int} : ∀ (L : List (Int × (Int × Int))) (i : Nat), (∀ e ∈ L, e.1 = m → e.2 = v) → (∃ e ∈ L, e.1 = m) → ∃ j, placeM m L i = some (j, evV v)
  | [], _, _, h => by obtain ⟨_, h, _⟩ := h; cases h
  | x :: L, i, hu, h => by
    by_cases e : m = x.1
    · exact ⟨i, by rw [placeM, if_pos e, hu x (by simp) e.symm]⟩
    · have : ∃ e ∈ L, e.1 = m := by
        obtain ⟨y, hy, hm⟩ := h
        rcases List.mem_cons.1 hy with rfl | hy
        · exact absurd hm.symm e
        · exact ⟨y, hy, hm⟩
      obtain ⟨j, hj⟩ := placeM_some L (i + 1) (fun e he => hu e (by simp [he])) this
      exact ⟨j, by rw [placeM, if_neg e]; exact hj⟩

/-- the entries of the events of a kind -/
def knL (T : Tr) (kd : Int) (pre : List T.Id) : List (Int × (Int × Int)) := pre.filterMap fun x => if T.kind x.1.1 x.1.2 = kd then some (T.msg x.1.1 x.1.2, evI x.1) else none
theorem knL_snoc (T : Tr) (kd : Int) (pre : List T.Id) (x : T.Id) : knL T kd (pre ++ [x]) = if T.kind x.1.1 x.1.2 = kd then knL T kd pre ++ [(T.msg x.1.1 x.1.2, evI x.1)] else knL T kd pre := by
  unfold knL
  rw [List.filterMap_append]
  by_cases h : T.kind x.1.1 x.1.2 = kd
  · simp [h]
  · simp [h]
theorem knL_mem {T : Tr} {kd : Int} {pre : List T.Id} {e : Int × (Int × Int)} (h : e ∈ knL T kd pre) : ∃ x ∈ pre, T.kind x.1.1 x.1.2 = kd ∧ e = (T.msg x.1.1 x.1.2, evI x.1) := by
  obtain ⟨x, hx, h⟩ := List.mem_filterMap.1 h
  split at h
  · next hk => cases h; exact ⟨x, hx, hk, rfl⟩
  · cases h
theorem mem_knL {T : Tr} {kd : Int} {pre : List T.Id} {x : T.Id} (hx : x ∈ pre) (hk : T.kind x.1.1 x.1.2 = kd) : (T.msg x.1.1 x.1.2, evI x.1) ∈ knL T kd pre :=
  List.mem_filterMap.2 ⟨x, hx, by rw [if_pos hk]⟩
theorem knL_new2 {T : Tr} (hV : T.Valid) {k i : Nat} (hk : k < T.n) (hi : i < T.en k) (hkd : T.kind k i = 2) : ∀ e ∈ knL T 2 (T.evsTo k i), e.1 ≠ T.msg k i := by
  intro e he hm
  obtain ⟨x, hx, hxk, rfl⟩ := knL_mem he
  have := hV.uniq2 (x := x) (y := ⟨(k, i), hk, hi⟩) hxk hkd hm
  have h2 := Tr.evsTo_mem hx
  rw [this] at h2
  rcases h2 with h | h
  · exact absurd h (Nat.lt_irrefl _)
  · exact absurd h.2 (Nat.lt_irrefl _)
theorem knL_new3 {T : Tr} (hV : T.Valid) {k i : Nat} (hk : k < T.n) (hi : i < T.en k) (hkd : T.kind k i = 3) : ∀ e ∈ knL T 3 (T.evsTo k i), e.1 ≠ T.msg k i := by
  intro e he hm
  obtain ⟨x, hx, hxk, rfl⟩ := knL_mem he
  have := hV.uniq3 (x := x) (y := ⟨(k, i), hk, hi⟩) hxk hkd hm
  have h2 := Tr.evsTo_mem hx
  rw [this] at h2
  rcases h2 with h | h
  · exact absurd h (Nat.lt_irrefl _)
  · exact absurd h.2 (Nat.lt_irrefl _)
/-- what is known of a trace lies in two maps -/
structure KnAt (T : TM) (bs br : Nat) (w : World) : Prop where
  s : MapAt w bs (knL T.toTr 2 T.toTr.evs)
  r : MapAt w br (knL T.toTr 3 T.toTr.evs)
theorem KnAt.ext {T : TM} {bs br : Nat} {w w' : World} (h : KnAt T bs br w) (x : Ext w w') : KnAt T bs br w' := ⟨h.s.ext x, h.r.ext x⟩
abbrev TM.kn (T : TM) (bs br : Nat) : Value := .agg #[.slice T.a T.n T.cap, .map (some bs), .map (some br)]
/-- the state while the events are gone through -/
structure KnI (T : TM) (w : World) (pre : List T.toTr.Id) (wr : World) : Prop where
  h0 : Hold wr w.heap.size #[.slice (some ⟨T.b, T.off, none⟩) T.n T.cap]
  h1 : Hold wr (w.heap.size + 1) #[.slice none 0 0, .map none, .map none]
  h4 : Hold wr (w.heap.size + 1 + 1 + 1 + 1) #[.slice (some ⟨T.b, T.off, none⟩) T.n T.cap, .map (some (w.heap.size + 1 + 1)), .map (some (w.heap.size + 1 + 1 + 1))]
  m1 : MapAt wr (w.heap.size + 1 + 1) (knL T.toTr 2 pre)
  m2 : MapAt wr (w.heap.size + 1 + 1 + 1) (knL T.toTr 3 pre)
  bl : Ext w wr
theorem KnI.ext {T : TM} {w wr w' : World} {pre : List T.toTr.Id} (h : KnI T w pre wr) (x : Ext wr w') : KnI T w pre w' :=
  ⟨h.h0.ext x, h.h1.ext x, h.h4.ext x, h.m1.ext x, h.m2.ext x, h.bl.trans x⟩
theorem KnI.skip {T : TM} {w wr : World} {pre : List T.toTr.Id} {x : T.toTr.Id} (h : KnI T w pre wr) (h2 : T.kind x.1.1 x.1.2 ≠ 2) (h3 : T.kind x.1.1 x.1.2 ≠ 3) : KnI T w (pre ++ [x]) wr := by
  obtain ⟨a, b, c, d, e, f⟩ := h
  exact ⟨a, b, c, by rw [knL_snoc, if_neg h2]; exact d, by rw [knL_snoc, if_neg h3]; exact e, f⟩
theorem KnI.put2 {T : TM} {w wr : World} {pre : List T.toTr.Id} {x : T.toTr.Id} {o : Obj} (h : KnI T w pre wr) (h2 : T.kind x.1.1 x.1.2 = 2)
    (hm : MapAt (wr.putObj (w.heap.size + 1 + 1) o) (w.heap.size + 1 + 1) (knL T.toTr 2 pre ++ [(T.msg x.1.1 x.1.2, evI x.1)])) : KnI T w (pre ++ [x]) (wr.putObj (w.heap.size + 1 + 1) o) := by
  obtain ⟨a, b, c, d, e, f⟩ := h
  refine ⟨a.putObj _ _ (by omega), b.putObj _ _ (by omega), c.putObj _ _ (by omega), by rw [knL_snoc, if_pos h2]; exact hm, ?_, ?_⟩
  · rw [knL_snoc, if_neg (by rw [h2]; decide)]; exact e.same (World.putObj_heap_other (by omega))
  · exact Below.trans f ⟨rfl, rfl, rfl, by simp, fun k hk => World.putObj_heap_other (by omega)⟩
theorem KnI.put3 {T : TM} {w wr : World} {pre : List T.toTr.Id} {x : T.toTr.Id} {o : Obj} (h : KnI T w pre wr) (h3 : T.kind x.1.1 x.1.2 = 3)
    (hm : MapAt (wr.putObj (w.heap.size + 1 + 1 + 1) o) (w.heap.size + 1 + 1 + 1) (knL T.toTr 3 pre ++ [(T.msg x.1.1 x.1.2, evI x.1)])) : KnI T w (pre ++ [x]) (wr.putObj (w.heap.size + 1 + 1 + 1) o) := by
  obtain ⟨a, b, c, d, e, f⟩ := h
  refine ⟨a.putObj _ _ (by omega), b.putObj _ _ (by omega), c.putObj _ _ (by omega), ?_, by rw [knL_snoc, if_pos h3]; exact hm, ?_⟩
  · rw [knL_snoc, if_neg (by rw [h3]; decide)]; exact d.same (World.putObj_heap_other (by omega))
  · exact Below.trans f ⟨rfl, rfl, rfl, by simp, fun k hk => World.putObj_heap_other (by omega)⟩
theorem KnI.start {T : TM} {w : World} {t1 t2 t3 : TypeId} {G : World → Prop} (h : ∀ w1, KnI T w [] w1 → G w1) :
    G (((((w.alloc (.cells #[.slice (some ⟨T.b, T.off, none⟩) T.n T.cap] t1)).alloc (.cells #[.slice none 0 0, .map none, .map none] t2)).alloc (.map #[] 0)).alloc (.map #[] 0)).alloc (.cells #[.slice (some ⟨T.b, T.off, none⟩) T.n T.cap, .map (some (w.heap.size + 1 + 1)), .map (some (w.heap.size + 1 + 1 + 1))] t3)) := by
  obtain ⟨wa, hwa⟩ : ∃ x, x = w.alloc (.cells #[.slice (some ⟨T.b, T.off, none⟩) T.n T.cap] t1) := ⟨_, rfl⟩
  have sa : wa.heap.size = w.heap.size + 1 := by rw [hwa]; simp
  have a0 : Hold wa w.heap.size #[.slice (some ⟨T.b, T.off, none⟩) T.n T.cap] := by rw [hwa]; exact Hold.new _ _ _
  have xa : Ext w wa := by rw [hwa]; exact Ext.alloc _ _
  rw [← hwa]; clear hwa
  obtain ⟨wb, hwb⟩ : ∃ x, x = wa.alloc (.cells #[.slice none 0 0, .map none, .map none] t2) := ⟨_, rfl⟩
  have sb : wb.heap.size = w.heap.size + 1 + 1 := by rw [hwb]; simp [sa]
  have b0 : Hold wb (w.heap.size + 1) #[.slice none 0 0, .map none, .map none] := by rw [hwb, ← sa]; exact Hold.new _ _ _
  have xb : Ext wa wb := by rw [hwb]; exact Ext.alloc _ _
  rw [← hwb]; clear hwb
  obtain ⟨wc, hwc⟩ : ∃ x, x = wb.alloc (.map #[] 0) := ⟨_, rfl⟩
  have sc : wc.heap.size = w.heap.size + 1 + 1 + 1 := by rw [hwc]; simp [sb]
  have c0 : MapAt wc (w.heap.size + 1 + 1) [] := by rw [hwc, ← sb]; exact MapAt.new _
  have xc : Ext wb wc := by rw [hwc]; exact Ext.alloc _ _
  rw [← hwc]; clear hwc
  obtain ⟨wd, hwd⟩ : ∃ x, x = wc.alloc (.map #[] 0) := ⟨_, rfl⟩
  have sd : wd.heap.size = w.heap.size + 1 + 1 + 1 + 1 := by rw [hwd]; simp [sc]
  have d0 : MapAt wd (w.heap.size + 1 + 1 + 1) [] := by rw [hwd, ← sc]; exact MapAt.new _
  have xd : Ext wc wd := by rw [hwd]; exact Ext.alloc _ _
  rw [← hwd]; clear hwd
  refine h _ ⟨a0.ext (xb.trans (xc.trans (xd.alloc' _))), b0.ext (xc.trans (xd.alloc' _)), ?_, c0.ext (xd.alloc' _), d0.ext (Ext.alloc _ _), xa.trans (xb.trans (xc.trans (xd.alloc' _)))⟩
  rw [← sd]; exact Hold.new _ _ _
def KnowPost (T : TM) (w : World) (e : Ending) (w' : World) : Prop := Ext w w' ∧ ∃ bs br, e = .returned (T.kn bs br) ∧ KnAt T bs br w'

end Go.Proofs.YtdplphoohnnbcaaGreatDoor

namespace Go.Proofs.YtdplphoohnnbcaaGreatDoor
open Go.RowKit
section
variable {P : Program} {ops : Array Oper} {md : Region.Mode} {w : World}

/-- behind n everything waits for something at n or behind it -/
def behindB (md : Region.Mode) (ops : Array Oper) (n : Nat) : Bool :=
  (List.range ops.size).all fun t => decide (t ≤ n) || (List.range t).any fun j => decide (n ≤ j) && Region.waitsFor md ops t j
/-- no operation from n on is ready while one ahead of n is not done -/
def Waits (md : Region.Mode) (ops : Array Oper) (n : Nat) : Prop :=
  ∀ listed, HeadInv md ops n listed → ∀ d i, n - i = d → i < n → listed.getD i true = false → ∀ t, n ≤ t → t ∉ Region.ready md ops listed

theorem waits_of {n : Nat} (hs : Region.sinkB md ops n = true) (hc : behindB md ops n = true) : Waits md ops n := by
  intro listed inv d
  induction d using Nat.strongRecOn with
  | _ d ih =>
    intro i hd hi hun t ht hr
    obtain ⟨_, ot, hot, hall⟩ := mem_ready.1 hr
    have htlt : t < ops.size := (Array.getElem?_eq_some_iff.1 hot).1
    have key : ∀ j, Region.waitsFor md ops t j = true → listed.getD j false = false → False := fun j hj hf => by
      obtain ⟨o', ho', e, he, hb, hon⟩ := Region.waitsFor_spec hj
      cases Option.some.inj (ho'.symm.trans hot)
      have h2 := hall e he hb
      rw [hon, hf] at h2; cases h2
    by_cases htn : t = n
    · obtain ⟨j, hj, hj2⟩ := List.any_eq_true.1 (List.all_eq_true.1 hs i (List.mem_range.2 hi))
      simp only [Bool.and_eq_true, decide_eq_true_eq] at hj2
      have hjn := List.mem_range.1 hj
      by_cases hjt : j = t
      · exact key i (hjt ▸ hj2.2) (getD_both hun)
      · cases hl : listed.getD j false with
        | true =>
          obtain ⟨oj, hoj, e, he, hb, hon⟩ := Region.waitsFor_spec hj2.2
          have h2 := inv.closed j oj hoj hl e he hb
          rw [hon, getD_both hun] at h2; cases h2
        | false => exact ih (n - j) (by omega) j rfl (by omega) (getD_in (by rw [inv.size]; omega) hl) t ht hr
    · rcases Bool.or_eq_true_iff.1 (List.all_eq_true.1 hc t (List.mem_range.2 htlt)) with h1 | h1
      · have := of_decide_eq_true h1; omega
      · obtain ⟨j, hj, hj2⟩ := List.any_eq_true.1 h1
        simp only [Bool.and_eq_true, decide_eq_true_eq] at hj2
        have := List.mem_range.1 hj
        exact key j hj2.2 (getD_both (inv.tail j hj2.1 (by omega)))

theorem head_first {n i : Nat} {oi : Oper} {v : Value} {L : Array Bool → Act → Prop} (hi : ops[i]? = some oi) (hsel : ∀ (j : Nat) (o : Oper) cs b, ops[j]? = some o → o.op ≠ .select cs b)
    (hw : Waits md ops n) (hin : i < n) (hdone : ∀ listed a, L listed a → ∀ j ∈ Region.ready md ops listed, n ≤ j) (f : Nat) :
    ∀ (listed : Array Bool) (a : Act), HeadInv md ops n listed →
      (∀ j oj, ops[j]? = some oj → j ≠ i → listed.getD j true = false → (∀ e ∈ oj.after, Region.binds md e = true → e.on ≠ i) → oi.apart ops oj = true) →
      i ∈ Region.ready md ops listed → YieldsAt P ops w oi v a →
      wpAnyL P md ops w n L f (listed.setIfInBounds i true) (a.put oi.dst v) → wpAnyL P md ops w n L (f + 1) listed a := by
  induction f with
  | zero =>
    intro listed a inv _ hr hy H
    refine ⟨fun h => (by rw [h] at hr; cases hr), fun j hj => ?_⟩
    have hjn : j < n := Nat.lt_of_not_le fun h => hw listed inv _ i rfl hin (mem_ready.1 hr).1 j h hj
    refine ⟨hjn, ?_⟩
    by_cases hji : j = i
    · subst hji; exact hy.stOp hi H
    · have := hdone _ _ H j (ready_mono hj hji); omega
  | succ f ih =>
    intro listed a inv hfree hr hy H
    have hun := (mem_ready.1 hr).1
    refine ⟨fun h => (by rw [h] at hr; cases hr), fun j hj => ?_⟩
    have hjn : j < n := Nat.lt_of_not_le fun h => hw listed inv _ i rfl hin hun j h hj
    refine ⟨hjn, ?_⟩
    by_cases hji : j = i
    · subst hji; exact hy.stOp hi H
    · obtain ⟨hjun, oj, hoj, hall⟩ := mem_ready.1 hj
      have hnot : ∀ e ∈ oj.after, Region.binds md e = true → e.on ≠ i := fun e he hb heq => by
        have h1 := hall e he hb
        rw [heq, getD_both hun] at h1; cases h1
      have h2 := stOp_put hoj (hfree j oj hoj hji hjun hnot) (fun cs b => hsel i oi cs b hi) (fun cs b => hsel j oj cs b hoj) hy (H.2 j (ready_mono hj hji)).2
      refine stOp_mono (fun a' h3 => ih (listed.setIfInBounds j true) a' (inv.set hj hjn) (fun k ok hk hki hu hno => hfree k ok hk hki ?_ hno) (ready_mono hr (Ne.symm hji)) h3.1 ?_) h2
      · by_cases hjk : j = k
        · subst hjk; exact hjun
        · rw [getD_set_ne true hjk] at hu; exact hu
      · rw [Array.setIfInBounds_comm _ _ hji]; exact h3.2

/-- the first n done -/
def doneTo (n m : Nat) : Array Bool := Array.replicate n true ++ Array.replicate (m - n) false
def headB (md : Region.Mode) (ops : Array Oper) (n : Nat) : Nat → Nat → Array Bool → Bool
  | 0, _, listed => decide (listed = doneTo n ops.size) && (Region.ready md ops listed).all fun j => decide (n ≤ j)
  | f + 1, k, listed => (Region.ready md ops listed).contains k && Region.free md ops listed k && headB md ops n f (k + 1) (listed.setIfInBounds k true)
def readsB (md : Region.Mode) (ops : Array Oper) (n : Nat) : Bool :=
  Region.noSelect ops && decide (n < ops.size) && Region.sinkB md ops n && behindB md ops n && headB md ops n n 0 (Array.replicate ops.size false)

theorem head_lex {n : Nat} {Lq : Act → Prop} (hsel : Region.noSelect ops = true) (hw : Waits md ops n) :
    ∀ (l : List Oper) (k : Nat) (listed : Array Bool) (a : Act), (∀ j, j < l.length → l[j]? = ops[k + j]?) → k + l.length = n → HeadInv md ops n listed →
    headB md ops n l.length k listed = true → wpStill P ops w Lq l a →
    wpAnyL P md ops w n (fun listed' a' => (listed' = doneTo n ops.size ∧ ∀ j ∈ Region.ready md ops listed', n ≤ j) ∧ Lq a') l.length listed a
  | [], k, listed, a, _, _, _, hB, h => by
    simp only [List.length_nil, headB, Bool.and_eq_true, decide_eq_true_eq, List.all_eq_true] at hB
    exact ⟨hB, h⟩
  | o :: l, k, listed, a, hl, hk, inv, hB, h => by
    have h0 : ops[k]? = some o := by simpa using (hl 0 (by simp)).symm
    simp only [List.length_cons, headB, Bool.and_eq_true] at hB
    have hkn : k < n := by simp only [List.length_cons] at hk; omega
    have hr : k ∈ Region.ready md ops listed := by simpa using hB.1.1
    have hst : stOp P ops w k (wpStill P ops w Lq l) a := by unfold stOp; simp only [h0]; exact h
    obtain ⟨v, hy, hK⟩ := yieldsAt_of_stOp h0 hst
    exact head_first h0 (Region.noSelect_spec hsel) hw hkn (fun _ _ hL => hL.1.2) l.length listed a inv (Region.free_spec h0 hB.1.2) hr hy
      (head_lex hsel hw l (k + 1) _ _ (fun j hj => by have := hl (j + 1) (by simp; omega); simpa [Nat.add_assoc, Nat.add_comm 1 j] using this) (by simp only [List.length_cons] at hk; omega) (inv.set hr hkn) hB.2 hK)

theorem wp_region_reads {id : Nat} {Q : Exit → Act → World → Prop} {a : Act} {w : World} {l : List Oper} (n : Nat) (hm : P.follows .mixedOrders = true) (hB : readsB .any l.toArray n = true)
    (h : wpStill P l.toArray w.drew (fun a' => wpAny P .any l.toArray Q (l.length - n) (doneTo n l.length) a' w.drew) (l.take n) a) : (Code.region id l.toArray true).wp P Q a w := by
  simp only [readsB, Bool.and_eq_true, decide_eq_true_eq] at hB
  obtain ⟨⟨⟨⟨hsel, hn⟩, hs⟩, hc⟩, hlex⟩ := hB
  have hn' : n < l.length := by simpa using hn
  have htl : (l.take n).length = n := by simp; omega
  have inv0 : HeadInv .any l.toArray n (Array.replicate l.toArray.size false) :=
    ⟨by simp, fun j oj _ hl => (by rw [getD_replicate_false] at hl; cases hl), fun t _ ht => getD_in (by simpa using ht) (getD_replicate_false _ _)⟩
  have H := head_lex (md := .any) hsel (waits_of hs hc) (l.take n) 0 _ a (fun j hj => by rw [htl] at hj; simp [hj]) (by simpa using htl) inv0 (by rw [htl]; exact hlex) h
  refine wp_region_any hm ?_
  have := wpAny_of_head (Q' := Q) (g := l.length - n) (fun listed a' hL => by
    rw [hL.1.1]; exact hL.2) _ _ _ H
  rw [htl, show n + (l.length - n) = l.toArray.size by simp; omega] at this
  exact this
end
end Go.Proofs.YtdplphoohnnbcaaGreatDoor

namespace Go.Proofs.YtdplphoohnnbcaaGreatDoor
open Go.RowKit Go.Shelf

/-- the first event of a kind with a number -/
def Tr.firstOf (T : Tr) (kd m : Int) : Option T.Id := T.evs.find? fun x => decide (T.kind x.1.1 x.1.2 = kd ∧ T.msg x.1.1 x.1.2 = m)
def Tr.firstR (T : Tr) (kd m : Int) : Int × Int := match T.firstOf kd m with | some x => evI x.1 | none => (0, 0)
theorem Tr.firstOf_some {T : Tr} {kd m : Int} {k i : Nat} (hk : k < T.n) (hi : i < T.en k) (h1 : T.kind k i = kd) (h2 : T.msg k i = m) (hno : ∀ x ∈ T.evsTo k i, ¬ (T.kind x.1.1 x.1.2 = kd ∧ T.msg x.1.1 x.1.2 = m)) : T.firstOf kd m = some ⟨(k, i), hk, hi⟩ := by
  obtain ⟨r, hr⟩ := T.evsTo_prefix k (i + 1) hk hi
  rw [T.evsTo_succ k i hk hi] at hr
  unfold Tr.firstOf
  rw [← hr, List.find?_append, List.find?_append]
  have : (T.evsTo k i).find? (fun x => decide (T.kind x.1.1 x.1.2 = kd ∧ T.msg x.1.1 x.1.2 = m)) = none := by
    rw [List.find?_eq_none]; intro x hx; simpa using hno x hx
  rw [this]
  simp [h1, h2]
theorem Tr.firstOf_none {T : Tr} {kd m : Int} (hno : ∀ x ∈ T.evs, ¬ (T.kind x.1.1 x.1.2 = kd ∧ T.msg x.1.1 x.1.2 = m)) : T.firstOf kd m = none := by
  unfold Tr.firstOf; rw [List.find?_eq_none]; intro x hx; simpa using hno x hx
theorem rfind_results (tmps : Array Value) (W : World) (b : Nat) (x y : Value) (t6 : tmps[6]? = some (.pointer (some ⟨b, 0, none⟩))) (c : W.cell? ⟨b, 0, none⟩ = some x) (c' : W.cell? ⟨b, 1, none⟩ = some y) :
    (results Tryz.f137 tmps).run Tryz.prog W = .ok (.agg #[x, y]) W := by
  simp [results, go_sem, t6, c, c']
set_option maxRecDepth 100000 in
set_option maxHeartbeats 1000000 in
theorem rfind_any (w : World) (T : TM) (hT : T.At w) (hn0 : 0 < T.n) (kd m : Int) :
    Calls Tryz.prog 137 #[T.val, .int .i64 kd, .int .i64 m] w fun e w' => e = .returned (evV (T.toTr.firstR kd m)) ∧ Ext w w' := by
  have pa := hT.P.pa hn0
  have pb := hT.P.pb hn0
  have p2 := hT.P.p2
  have hn := hT.P.hn
  have e0 := hT.E.e0
  have e1 := hT.E.e1
  have e2 := hT.E.e2
  have e3 := hT.E.e3
  have e4 := hT.E.e4
  have HT := Lib.hid hT
  clear hT
  go_enter Tryz.func137, Tryz.ntmps137
  go_upto_region 1 with fail
  refine boxed2 (w := w) (G := fun x => Code.wp _ _ _ _ x) ?_
  intro w1 hx1 hs1 ⟨l0, c0, _, _⟩ ⟨l1, c1, f1, k1⟩
  have hx11 : Ext w1 w1 := Ext.refl _
  have HK1 := Lib.hid k1
  clear hs1 k1
  go_wp2_with fail
  go_loopg [7] T.n (fun gg v wr => ∃ k : Nat, k ≤ T.n ∧ gg = T.n - k ∧ v = .int .i64 k ∧ Ext w1 wr ∧ ∀ x ∈ T.toTr.evsTo k 0, ¬ (T.kind x.1.1 x.1.2 = kd ∧ T.msg x.1.1 x.1.2 = m))
  case atStart => exact ⟨0, by omega, rfl, rfl, hx11, fun x hx => by cases hx⟩
  case round =>
    obtain ⟨k, hk, rfl, rfl, hxr, hno⟩ := hrel
    have HNO := Lib.hid hno
    clear hno
    have hxw := hx1.trans hxr
    by_cases hlt : k < T.n
    · have hlt' : (k : Int) < (T.n : Int) := by omega
      have hen := HT.out.E.he k hlt
      go_wp2_with fail
      go_loopg [8] (T.en k) (fun gg v wr => ∃ i : Nat, i ≤ T.en k ∧ gg = T.en k - i ∧ v = .int .i64 i ∧ Ext w1 wr ∧ ∀ x ∈ T.toTr.evsTo k i, ¬ (T.kind x.1.1 x.1.2 = kd ∧ T.msg x.1.1 x.1.2 = m))
      case atStart => exact ⟨0, by omega, rfl, rfl, hxr, HNO.out⟩
      case round =>
        obtain ⟨i, hi, rfl, rfl, hxr, hno⟩ := hrel
        have HNI := Lib.hid hno
        clear hno
        have hxw := hx1.trans hxr
        by_cases hli : i < T.en k
        · have hli' : (i : Int) < (T.en k : Int) := by omega
          have ea := HT.out.E.ea k hlt (by omega)
          have eb := HT.out.E.eb k hlt (by omega)
          have HSTEP := Lib.hid (show ¬ (T.kind k i = kd ∧ T.msg k i = m) → ∀ x ∈ T.toTr.evsTo k (i + 1), ¬ (T.kind x.1.1 x.1.2 = kd ∧ T.msg x.1.1 x.1.2 = m) from fun h x hx => by
            rw [T.toTr.evsTo_succ k i hlt hli] at hx
            rcases List.mem_append.1 hx with hx | hx
            · exact HNI.out x hx
            · simp at hx; subst hx; exact h)
          go_upto_region 8 with fail
          refine boxed1 (w := wr) (G := fun x => Code.wp _ _ _ _ x) ?_
          intro w4 hx4 hs4 ⟨l4, c4, _, _⟩
          have hx44 : Ext w4 w4 := Ext.refl _
          have hx14 := hxr.trans hx4
          clear hs4 e0 e1 e2 e3 e4
          by_cases hkd : T.kind k i = kd
          · by_cases hm : T.msg k i = m
            · have HF := Lib.hid (T.toTr.firstOf_some hlt hli hkd hm HNI.out)
              have hh := Hold.ext HK1.out hx14
              obtain ⟨l9, c9, f9, _⟩ := hh.box
              have G4 := Lib.hid ((hh.set 0 (.int .i64 k)).set 1 (.int .i64 (i + 1)))
              clear hh l1 c1 f1
              go_wp2_with fail
              try simp only [Exit.inBlock, Exit.then]
              refine bodyPost_ret (rfind_results _ _ _ _ _ rfl (G4.out.cell0 0) (G4.out.cell0 1)) rfl ?_
              have hb : w.heap.size ≤ w.heap.size + 1 := by omega
              exact ⟨ret_eq (by unfold Tr.firstR; rw [HF.out]; rfl), Ext.setCell (Ext.setCell (hx1.trans hx14) hb _) hb _⟩
            · have hmb : (T.msg k i == m) = false := by simpa using hm
              go_wp2_with fail
              go_roundg (T.en k - (i + 1))
              case rel => exact ⟨i + 1, by omega, rfl, by go_num, hx14, HSTEP.out fun h => hm h.2⟩
              case measure => omega
          · have hkb : (T.kind k i == kd) = false := by simpa using hkd
            go_wp2_with fail
            go_roundg (T.en k - (i + 1))
            case rel => exact ⟨i + 1, by omega, rfl, by go_num, hx14, HSTEP.out fun h => hkd h.1⟩
            case measure => omega
        · have hie : i = T.en k := by omega
          subst hie
          go_wp2_with fail
          go_roundg (T.n - (k + 1))
          case rel => exact ⟨k + 1, by omega, rfl, by go_num, hxr, by rw [← Tr.evsTo_next]; exact HNI.out⟩
          case measure => omega
    · have hke : k = T.n := by omega
      subst hke
      have HF := Lib.hid (T.toTr.firstOf_none HNO.out)
      have hrr : Ext wr wr := Ext.refl _
      have hh := Hold.ext HK1.out hxr
      obtain ⟨l9, c9, f9, _⟩ := hh.box
      have G4 := Lib.hid ((hh.set 0 (.int .i64 0)).set 1 (.int .i64 0))
      clear hh l1 c1 f1
      go_wp2_with fail
      try simp only [Exit.inBlock, Exit.then]
      refine bodyPost_ret (rfind_results _ _ _ _ _ rfl (G4.out.cell0 0) (G4.out.cell0 1)) rfl ?_
      have hb : w.heap.size ≤ w.heap.size + 1 := by omega
      exact ⟨ret_eq (by unfold Tr.firstR; rw [HF.out]; rfl), Ext.setCell (Ext.setCell (hx1.trans hxr) hb _) hb _⟩
theorem at_results (tmps : Array Value) (W : World) (b : Nat) (x0 x1 x2 x3 x4 : Value) (t4 : tmps[4]? = some (.pointer (some ⟨b, 0, none⟩))) (c0 : W.cell? ⟨b, 0, none⟩ = some x0) (c1 : W.cell? ⟨b, 1, none⟩ = some x1) (c2 : W.cell? ⟨b, 2, none⟩ = some x2) (c3 : W.cell? ⟨b, 3, none⟩ = some x3) (c4 : W.cell? ⟨b, 4, none⟩ = some x4) :
    (results Tryz.f136 tmps).run Tryz.prog W = .ok (.agg #[x0, x1, x2, x3, x4]) W := by
  simp [results, go_sem, t4, c0, c1, c2, c3, c4]
set_option maxRecDepth 100000 in
set_option maxHeartbeats 1000000 in
theorem rat_any (w : World) (T : TM) (hT : T.At w) (p i : Nat) (hp : p < T.n) (hi : i < T.en p) :
    Calls Tryz.prog 136 #[T.val, .agg #[.int .i64 p, .int .i64 (i + 1)]] w fun e w' => e = .returned (T.ev p i) ∧ Ext w w' := by
  have pa := hT.P.pa (by omega)
  have pb := hT.P.pb (by omega)
  have p2 := hT.P.p2
  have e0 := hT.E.e0
  have e1 := hT.E.e1
  have e2 := hT.E.e2
  have e3 := hT.E.e3
  have e4 := hT.E.e4
  have ea := hT.E.ea p hp (by omega)
  have eb := hT.E.eb p hp (by omega)
  have hn := hT.P.hn
  have hen := hT.E.he p hp
  have hp' : (p : Int) < (T.n : Int) := by omega
  have hi' : (i : Int) < (T.en p : Int) := by omega
  have hw1 : IntKind.i64.wrap (i : Int) = (i : Int) := IntWalk.i64_in _ (by omega)
  clear hT
  go_enter Tryz.func136, Tryz.ntmps136
  go_upto_region 1 with fail
  refine boxed3 (w := w) (G := fun x => Code.wp _ _ _ _ x) ?_
  intro w1 hx1 hs1 ⟨l0, c0, _, _⟩ ⟨l1, c1, _, _⟩ ⟨l2, c2, f2, k2⟩
  have hx11 : Ext w1 w1 := Ext.refl _
  clear hs1
  refine wp_region_reads 12 (by kernel_rfl) (by kernel_rfl) ?_
  simp only [List.take_succ_cons, List.take_zero]
  repeat still_step
  refine wpStill_nil ?_
  refine wpAny_ready (rs := [12]) (by kernel_rfl) (by simp) ?_
  refine AllReady.cons rfl (fun K hK => ?_) AllReady.nil
  go_simp
  refine hK _ _ ?_; clear hK K
  refine wpAny_done (by kernel_rfl) ?_ _
  have g4 := ((((Hold.set (show Hold w1 (w.heap.size + 1 + 1) _ from k2) 0 (.int .i64 (T.kind p i))).set 1 (.int .i64 (T.peer p i))).set 2 (.int .i64 (T.msg p i))).set 3 (.int .i64 (T.time p i))).set 4 (.slice (T.aa p i) (T.an p i) (T.ac p i))
  have G4 := Lib.hid g4.drew
  clear g4 k2 c0 c1 c2 l0 l1 l2 f2 e0 e1 e2 e3 e4 p2 pb eb
  go_wp2_with fail
  try simp only [Exit.inBlock, Exit.then]
  refine bodyPost_ret (at_results _ _ _ _ _ _ _ _ rfl (G4.out.cell0 0) (G4.out.cell0 1) (G4.out.cell0 2) (G4.out.cell0 3) (G4.out.cell0 4)) rfl ?_
  refine ⟨rfl, ?_⟩
  have hb : w.heap.size ≤ w.heap.size + 1 + 1 := by omega
  exact (Ext.setCell (Ext.setCell (Ext.setCell (Ext.setCell (Ext.setCell hx1 hb _) hb _) hb _) hb _) hb _).drew

end Go.Proofs.YtdplphoohnnbcaaGreatDoor

namespace Go.Proofs.YtdplphoohnnbcaaGreatDoor
open Go.RowKit Go.Shelf


/-- the events directly before an event -/
noncomputable def Tr.bk (T : Tr) (x : NN) : List NN := (if 0 < x.2 then [(x.1, x.2 - 1)] else []) ++ (if T.kind x.1 x.2 = 3 then [T.sndN x] else [])
def BackPost (w : World) (l : List (Int × Int)) (e : Ending) (w' : World) : Prop := ∃ v, e = .returned v ∧ EvOwn w' w.heap.size v l ∧ Ext w w'

end Go.Proofs.YtdplphoohnnbcaaGreatDoor

namespace Go.Proofs.YtdplphoohnnbcaaGreatDoor

/-- y happened before x, or is it -/
inductive Tr.Past (T : Tr) (x : NN) : NN → Prop
  | self : Tr.Past T x x
  | step {y z : NN} : Tr.Past T x y → T.Dir z y → Tr.Past T x z
theorem Tr.mem_bk {T : Tr} {y z : NN} : z ∈ T.bk y ↔ T.Dir z y := by
  unfold Tr.bk Tr.Dir
  rw [List.mem_append]
  constructor
  · rintro (h | h)
    · split at h
      · simp at h; subst h; left; exact ⟨rfl, by show y.2 = y.2 - 1 + 1; omega⟩
      · cases h
    · split at h
      · next hk => simp at h; exact .inr ⟨hk, h⟩
      · cases h
  · rintro (⟨h1, h2⟩ | ⟨h1, h2⟩)
    · left; rw [if_pos (by omega)]; simp; exact Prod.ext h1.symm (by show z.2 = y.2 - 1; omega)
    · right; rw [if_pos h1]; simp [h2]
theorem Tr.bk_len (T : Tr) (y : NN) : (T.bk y).length ≤ 2 := by
  unfold Tr.bk; rw [List.length_append]; split <;> split <;> simp
theorem Tr.Past.V {T : Tr} {x y : NN} (hx : T.V x) (h : T.Past x y) : T.V y := by
  induction h with
  | self => exact hx
  | step _ d ih => exact Tr.Dir.V ih d
theorem Tr.Past.down {T : Tr} {x : NN} {p : Nat} : ∀ (d i : Nat), T.Past x (p, i + d) → T.Past x (p, i)
  | 0, _, h => h
  | d + 1, i, h => Tr.Past.down d i (.step h (.inl ⟨rfl, by show i + (d + 1) = i + d + 1; omega⟩))
theorem Tr.Past.le {T : Tr} {x : NN} {p i j : Nat} (h : T.Past x (p, j)) (hij : i ≤ j) : T.Past x (p, i) := by
  obtain ⟨d, rfl⟩ := Nat.exists_eq_add_of_le hij
  exact Tr.Past.down d i h
/-- the events before the events hi, hi - 1, .. of p: d of them -/
noncomputable def Tr.bkTo (T : Tr) (p hi : Nat) : Nat → List NN
  | 0 => []
  | d + 1 => T.bkTo p hi d ++ T.bk (p, hi - d)
theorem Tr.bkTo_len (T : Tr) (p hi : Nat) : ∀ d, (T.bkTo p hi d).length ≤ 2 * d
  | 0 => by simp [Tr.bkTo]
  | d + 1 => by
    have h1 := Tr.bkTo_len T p hi d
    have h2 := T.bk_len (p, hi - d)
    rw [Tr.bkTo, List.length_append]; omega
theorem Tr.bkTo_mem {T : Tr} {p hi : Nat} {z : NN} : ∀ {d}, z ∈ T.bkTo p hi d ↔ ∃ e, e < d ∧ z ∈ T.bk (p, hi - e)
  | 0 => by simp [Tr.bkTo]
  | d + 1 => by
    rw [Tr.bkTo, List.mem_append, Tr.bkTo_mem (d := d)]
    constructor
    · rintro (⟨e, h1, h2⟩ | h)
      · exact ⟨e, by omega, h2⟩
      · exact ⟨d, by omega, h⟩
    · rintro ⟨e, h1, h2⟩
      by_cases he : e = d
      · subst he; exact .inr h2
      · exact .inl ⟨e, by omega, h2⟩
def updC (c : Nat → Nat) (p v : Nat) : Nat → Nat := fun k => if k = p then v else c k
/-- the search for the past of x: c: how many of each process are found; q: the queue -/
structure Tr.PaI (T : Tr) (x : NN) (c : Nat → Nat) (q : List NN) : Prop where
  hx : T.V x
  le : ∀ p, p < T.n → c p ≤ T.en p
  v : ∀ y, y ∈ q → T.Past x y
  p1 : ∀ p i, p < T.n → i < c p → T.Past x (p, i)
  cl : ∀ p i, p < T.n → i < c p → ∀ z, T.Dir z (p, i) → z.2 < c z.1 ∨ z ∈ q
  xx : x.2 < c x.1 ∨ x ∈ q
theorem Tr.PaI.start {T : Tr} {x : NN} (hx : T.V x) : T.PaI x (fun _ => 0) [x] :=
  ⟨hx, fun _ _ => Nat.zero_le _, fun y hy => by simp at hy; subst hy; exact .self, fun _ _ _ h => absurd h (Nat.not_lt_zero _), fun _ _ _ h => absurd h (Nat.not_lt_zero _), .inr (by simp)⟩
theorem Tr.PaI.skip {T : Tr} {x y : NN} {c : Nat → Nat} {q : List NN} (h : T.PaI x c (y :: q)) (hy : y.2 < c y.1) : T.PaI x c q := by
  refine ⟨h.hx, h.le, fun z hz => h.v z (by simp [hz]), h.p1, fun p i hp hi z hz => ?_, ?_⟩
  · rcases h.cl p i hp hi z hz with h | h
    · exact .inl h
    · rcases List.mem_cons.1 h with rfl | h
      · exact .inl hy
      · exact .inr h
  · rcases h.xx with h | h
    · exact .inl h
    · rcases List.mem_cons.1 h with rfl | h
      · exact .inl hy
      · exact .inr h
theorem Tr.PaI.take {T : Tr} {x y : NN} {c : Nat → Nat} {q : List NN} (h : T.PaI x c (y :: q)) (hy : c y.1 ≤ y.2) : T.PaI x (updC c y.1 (y.2 + 1)) (q ++ T.bkTo y.1 y.2 (y.2 + 1 - c y.1)) := by
  have hpy := h.v y (by simp)
  have hVy := hpy.V h.hx
  have hge : ∀ k, c k ≤ updC c y.1 (y.2 + 1) k := fun k => by
    unfold updC
    by_cases e : k = y.1
    · rw [if_pos e, e]; omega
    · rw [if_neg e]; omega
  refine ⟨h.hx, fun p hp => ?_, fun z hz => ?_, fun p i hp hi => ?_, fun p i hp hi z hz => ?_, ?_⟩
  · unfold updC; split
    · next e => subst e; exact hVy.2
    · exact h.le p hp
  · rcases List.mem_append.1 hz with hz | hz
    · exact h.v z (by simp [hz])
    · obtain ⟨e, he, hb⟩ := Tr.bkTo_mem.1 hz
      exact .step (Tr.Past.le (j := y.2) hpy (Nat.sub_le _ _)) (Tr.mem_bk.1 hb)
  · unfold updC at hi; split at hi
    · next e => subst e; exact Tr.Past.le (j := y.2) hpy (by omega)
    · exact h.p1 p i hp hi
  · by_cases hold : i < c p
    · rcases h.cl p i hp hold z hz with h | h
      · exact .inl (Nat.lt_of_lt_of_le h (hge _))
      · rcases List.mem_cons.1 h with rfl | h
        · left; unfold updC; rw [if_pos rfl]; omega
        · exact .inr (by simp [h])
    · unfold updC at hi; split at hi
      · next e =>
        subst e
        right
        refine List.mem_append.2 (.inr (Tr.bkTo_mem.2 ⟨y.2 - i, by omega, ?_⟩))
        rw [show y.2 - (y.2 - i) = i by omega]; exact Tr.mem_bk.2 hz
      · exact absurd hi hold
  · rcases h.xx with h | h
    · exact .inl (Nat.lt_of_lt_of_le h (hge _))
    · rcases List.mem_cons.1 h with rfl | h
      · left; unfold updC; rw [if_pos rfl]; omega
      · exact .inr (by simp [h])
/-- c counts the past of x -/
def Tr.PastC (T : Tr) (x : NN) (c : Nat → Nat) : Prop := (∀ p, p < T.n → c p ≤ T.en p) ∧ ∀ p i, p < T.n → (i < c p ↔ T.Past x (p, i))
theorem Tr.PaI.done {T : Tr} {x : NN} {c : Nat → Nat} (h : T.PaI x c []) : T.PastC x c := by
  refine ⟨h.le, fun p i hp => ⟨fun hi => h.p1 p i hp hi, fun hP => ?_⟩⟩
  have key : ∀ y, T.Past x y → y.2 < c y.1 := by
    intro y hy
    induction hy with
    | self =>
      rcases h.xx with h | h
      · exact h
      · cases h
    | @step y z hy d ih =>
      have hV := hy.V h.hx
      rcases h.cl y.1 y.2 hV.1 ih z d with h | h
      · exact h
      · cases h
  exact key (p, i) hP
/-- what is left to be done -/
def Tr.paM (T : Tr) (c : Nat → Nat) (q : List NN) : Nat := q.length + 3 * (tot T.en T.n - tot c T.n)
theorem tot_add {f g : Nat → Nat} {p d : Nat} : ∀ {n : Nat}, p < n → (∀ k, k ≠ p → f k = g k) → f p = g p + d → tot f n = tot g n + d
  | 0, h, _, _ => by omega
  | n + 1, h, ho, hp => by
    unfold tot
    by_cases e : p = n
    · subst e
      rw [tot_congr (f := f) (g := g) fun k hk => ho k (by omega), hp]; omega
    · rw [tot_add (f := f) (g := g) (n := n) (by omega) ho hp, ho n (fun h => e h.symm)]; omega
theorem Tr.PaI.less {T : Tr} {x y : NN} {c : Nat → Nat} {q : List NN} (h : T.PaI x c (y :: q)) (hy : c y.1 ≤ y.2) : T.paM (updC c y.1 (y.2 + 1)) (q ++ T.bkTo y.1 y.2 (y.2 + 1 - c y.1)) < T.paM c (y :: q) := by
  have hVy := (h.v y (by simp)).V h.hx
  have h2 := h.take hy
  have ht := tot_add (f := updC c y.1 (y.2 + 1)) (g := c) (p := y.1) (d := y.2 + 1 - c y.1) (n := T.n) hVy.1 (fun k hk => by unfold updC; rw [if_neg hk]) (by unfold updC; rw [if_pos rfl]; omega)
  have hle := tot_le (n := T.n) h2.le
  have hb := T.bkTo_len y.1 y.2 (y.2 + 1 - c y.1)
  unfold Tr.paM
  rw [List.length_append, List.length_cons]
  omega

end Go.Proofs.YtdplphoohnnbcaaGreatDoor
