/- Contract: causality.knows (maps from message numbers to events). Contracts: causality's known.event and known.back. The past of an event, by a queue: plain. Contract: causality's known.past. Contracts: causality.events, check, exists. Contracts: causality.exists, check, before, Before. -/
import Derived.Test.YtnknkkmdbnaglaaGreatKg
import Derived.Deep.LoopGhost
import Derived.Test.YtnknkkmdbnaglaaGreatKa
import Derived.Test.YtnknkkmdbnaglaaGreatKh
namespace Go.Proofs.YtnknkkmdbnaglaaGreat
open Go.RowKit Go.Shelf

/-- the entries L lie in the map of block b, in order -/
def MapAt (w : World) (b : Nat) (L : List (Int × (Int × Int))) : Prop :=
  ∃ es clock, w.heap[b]? = some (.map es clock) ∧ es.toList.map (fun e => (e.key, e.val)) = L.map (fun x => (.int .i64 x.1, evV x.2))
theorem MapAt.ext {w w' : World} {b : Nat} {L : List (Int × (Int × Int))} (h : MapAt w b L) (x : Ext w w') : MapAt w' b L := by
  obtain ⟨es, c, hb, he⟩ := h
  exact ⟨es, c, (x.block b (Array.getElem?_eq_some_iff.1 hb).1).trans hb, he⟩
theorem MapAt.same {w w' : World} {b : Nat} {L : List (Int × (Int × Int))} (h : MapAt w b L) (x : w'.heap[b]? = w.heap[b]?) : MapAt w' b L := by
  obtain ⟨es, c, hb, he⟩ := h
  exact ⟨es, c, x.trans hb, he⟩
theorem MapAt.lt {w : World} {b : Nat} {L : List (Int × (Int × Int))} (h : MapAt w b L) : b < w.heap.size := by
  obtain ⟨es, c, hb, he⟩ := h; exact (Array.getElem?_eq_some_iff.1 hb).1
theorem MapAt.new (w : World) : MapAt (w.alloc (.map #[] 0)) w.heap.size [] := ⟨#[], 0, by show (w.heap.push _)[w.heap.size]? = _; simp, rfl⟩
/-- the place of the first entry of m, from i on -/
def placeM (m : Int) : List (Int × (Int × Int)) → Nat → Option (Nat × Value)
  | [], _ => none
  | x :: L, i => if m = x.1 then some (i, evV x.2) else placeM m L (i + 1)
theorem findNow_int {q : IntKind} {d : TypeDesc} (hd : d = .int q) (m : Int) : ∀ (es : List MapEntry) (L : List (Int × (Int × Int))) (i : Nat), es.map (fun e => (e.key, e.val)) = L.map (fun x => (Value.int .i64 x.1, evV x.2)) →
    Instr.findNow d (.int .i64 m) es i = some (placeM m L i)
  | [], [], i, _ => by simp [Instr.findNow, placeM]
  | [], _ :: _, _, h => by simp at h
  | _ :: _, [], _, h => by simp at h
  | e :: es, x :: L, i, h => by
    simp only [List.map_cons, List.cons.injEq, Prod.mk.injEq] at h
    obtain ⟨⟨h1, h2⟩, h3⟩ := h
    have ih := findNow_int hd m es L (i + 1) h3
    subst hd
    by_cases e' : m = x.1
    · simp [Instr.findNow, Instr.sameNow, placeM, h1, h2, e']
    · have hb : (m == x.1) = false := by simpa using e'
      simp [Instr.findNow, Instr.sameNow, placeM, h1, e', ih, hb]
theorem run_findKey_int (m : Int) (w : World) (es : List MapEntry) (L : List (Int × (Int × Int))) (h : es.map (fun e => (e.key, e.val)) = L.map (fun x => (Value.int .i64 x.1, evV x.2))) :
    (Instr.findKey 3 (.int .i64 m) es).run Tryz.prog w = .ok (placeM m L 0) w := by
  unfold Instr.findKey
  simp [Sem.run_bind, run_underlying Tryz.underlying3, findNow_int rfl m es L 0 h]
theorem run_checkKey_int (b : Bool) (m : Int) (w : World) : (Instr.checkKey b 10000 3 (.int .i64 m)).run Tryz.prog w = .ok () w := by
  show (Instr.checkKey b (9999 + 1) 3 (.int .i64 m)).run Tryz.prog w = _
  rw [Instr.checkKey]; simp [go_sem, run_underlying Tryz.underlying3]
theorem placeM_none {m : Int} : ∀ (L : List (Int × (Int × Int))) (i : Nat), (∀ e ∈ L, e.1 ≠ m) → placeM m L i = none
  | [], _, _ => rfl
  | x :: L, i, h => by
    rw [placeM, if_neg (fun e => h x (by simp) e.symm)]; exact placeM_none L (i + 1) fun e he => h e (by simp [he])
theorem placeM_some {m : Int} {v : Int × Int} : ∀ (L : List (Int × (Int × Int))) (i : Nat), (∀ e ∈ L, e.1 = m → e.2 = v) → (∃ e ∈ L, e.1 = m) → ∃ j, placeM m L i = some (j, evV v)
  | [], _, _, h => by obtain ⟨_, h, _⟩ := h; cases h
  | x :: L, i, hu, h => by
    by_cases e : m = x.1
    · exact ⟨i, by rw [placeM, if_pos e, hu x (by simp) e.symm]⟩
    · have : ∃ e ∈ L, e.1 = m := by
        obtain ⟨y, hy, hm⟩ := h
        rcases List.mem_cons.1 hy with rfl | hy
        · exact absurd hm.symm e
        · exact ⟨y, hy, hm⟩
      obtain ⟨j, hj⟩ := placeM_some L (i + 1) (fun e he => hu e (by simp [he])) this
      exact ⟨j, by rw [placeM, if_neg e]; exact hj⟩

/-- the entries of the events of a kind -/
def knL (T : Tr) (kd : Int) (pre : List T.Id) : List (Int × (Int × Int)) := pre.filterMap fun x => if T.kind x.1.1 x.1.2 = kd then some (T.msg x.1.1 x.1.2, evI x.1) else none
theorem knL_snoc (T : Tr) (kd : Int) (pre : List T.Id) (x : T.Id) : knL T kd (pre ++ [x]) = if T.kind x.1.1 x.1.2 = kd then knL T kd pre ++ [(T.msg x.1.1 x.1.2, evI x.1)] else knL T kd pre := by
  unfold knL
  rw [List.filterMap_append]
  by_cases h : T.kind x.1.1 x.1.2 = kd
  · simp [h]
  · simp [h]
theorem knL_mem {T : Tr} {kd : Int} {pre : List T.Id} {e : Int × (Int × Int)} (h : e ∈ knL T kd pre) : ∃ x ∈ pre, T.kind x.1.1 x.1.2 = kd ∧ e = (T.msg x.1.1 x.1.2, evI x.1) := by
  obtain ⟨x, hx, h⟩ := List.mem_filterMap.1 h
  split at h
  · next hk => cases h; exact ⟨x, hx, hk, rfl⟩
  · cases h
theorem mem_knL {T : Tr} {kd : Int} {pre : List T.Id} {x : T.Id} (hx : x ∈ pre) (hk : T.kind x.1.1 x.1.2 = kd) : (T.msg x.1.1 x.1.2, evI x.1) ∈ knL T kd pre :=
  List.mem_filterMap.2 ⟨x, hx, by rw [if_pos hk]⟩
theorem knL_new2 {T : Tr} (hV : T.Valid) {k i : Nat} (hk : k < T.n) (hi : i < T.en k) (hkd : T.kind k i = 2) : ∀ e ∈ knL T 2 (T.evsTo k i), e.1 ≠ T.msg k i := by
  intro e he hm
  obtain ⟨x, hx, hxk, rfl⟩ := knL_mem he
  have := hV.uniq2 (x := x) (y := ⟨(k, i), hk, hi⟩) hxk hkd hm
  have h2 := Tr.evsTo_mem hx
  rw [this] at h2
  rcases h2 with h | h
  · exact absurd h (Nat.lt_irrefl _)
  · exact absurd h.2 (Nat.lt_irrefl _)
theorem knL_new3 {T : Tr} (hV : T.Valid) {k i : Nat} (hk : k < T.n) (hi : i < T.en k) (hkd : T.kind k i = 3) : ∀ e ∈ knL T 3 (T.evsTo k i), e.1 ≠ T.msg k i := by
  intro e he hm
  obtain ⟨x, hx, hxk, rfl⟩ := knL_mem he
  have := hV.uniq3 (x := x) (y := ⟨(k, i), hk, hi⟩) hxk hkd hm
  have h2 := Tr.evsTo_mem hx
  rw [this] at h2
  rcases h2 with h | h
  · exact absurd h (Nat.lt_irrefl _)
  · exact absurd h.2 (Nat.lt_irrefl _)
/-- what is known of a trace lies in two maps -/
structure KnAt (T : TM) (bs br : Nat) (w : World) : Prop where
  s : MapAt w bs (knL T.toTr 2 T.toTr.evs)
  r : MapAt w br (knL T.toTr 3 T.toTr.evs)
theorem KnAt.ext {T : TM} {bs br : Nat} {w w' : World} (h : KnAt T bs br w) (x : Ext w w') : KnAt T bs br w' := ⟨h.s.ext x, h.r.ext x⟩
abbrev TM.kn (T : TM) (bs br : Nat) : Value := .agg #[.slice T.a T.n T.cap, .map (some bs), .map (some br)]
/-- the state while the events are gone through -/
structure KnI (T : TM) (w : World) (pre : List T.toTr.Id) (wr : World) : Prop where
  h0 : Hold wr w.heap.size #[.slice (some ⟨T.b, T.off, none⟩) T.n T.cap]
  h1 : Hold wr (w.heap.size + 1) #[.slice none 0 0, .map none, .map none]
  h4 : Hold wr (w.heap.size + 1 + 1 + 1 + 1) #[.slice (some ⟨T.b, T.off, none⟩) T.n T.cap, .map (some (w.heap.size + 1 + 1)), .map (some (w.heap.size + 1 + 1 + 1))]
  m1 : MapAt wr (w.heap.size + 1 + 1) (knL T.toTr 2 pre)
  m2 : MapAt wr (w.heap.size + 1 + 1 + 1) (knL T.toTr 3 pre)
  bl : Ext w wr
theorem KnI.ext {T : TM} {w wr w' : World} {pre : List T.toTr.Id} (h : KnI T w pre wr) (x : Ext wr w') : KnI T w pre w' :=
  ⟨h.h0.ext x, h.h1.ext x, h.h4.ext x, h.m1.ext x, h.m2.ext x, h.bl.trans x⟩
theorem KnI.skip {T : TM} {w wr : World} {pre : List T.toTr.Id} {x : T.toTr.Id} (h : KnI T w pre wr) (h2 : T.kind x.1.1 x.1.2 ≠ 2) (h3 : T.kind x.1.1 x.1.2 ≠ 3) : KnI T w (pre ++ [x]) wr := by
  obtain ⟨a, b, c, d, e, f⟩ := h
  exact ⟨a, b, c, by rw [knL_snoc, if_neg h2]; exact d, by rw [knL_snoc, if_neg h3]; exact e, f⟩
theorem KnI.put2 {T : TM} {w wr : World} {pre : List T.toTr.Id} {x : T.toTr.Id} {o : Obj} (h : KnI T w pre wr) (h2 : T.kind x.1.1 x.1.2 = 2)
    (hm : MapAt (wr.putObj (w.heap.size + 1 + 1) o) (w.heap.size + 1 + 1) (knL T.toTr 2 pre ++ [(T.msg x.1.1 x.1.2, evI x.1)])) : KnI T w (pre ++ [x]) (wr.putObj (w.heap.size + 1 + 1) o) := by
  obtain ⟨a, b, c, d, e, f⟩ := h
  refine ⟨a.putObj _ _ (by omega), b.putObj _ _ (by omega), c.putObj _ _ (by omega), by rw [knL_snoc, if_pos h2]; exact hm, ?_, ?_⟩
  · rw [knL_snoc, if_neg (by rw [h2]; decide)]; exact e.same (World.putObj_heap_other (by omega))
  · exact Below.trans f ⟨rfl, rfl, rfl, by simp, fun k hk => World.putObj_heap_other (by omega)⟩
theorem KnI.put3 {T : TM} {w wr : World} {pre : List T.toTr.Id} {x : T.toTr.Id} {o : Obj} (h : KnI T w pre wr) (h3 : T.kind x.1.1 x.1.2 = 3)
    (hm : MapAt (wr.putObj (w.heap.size + 1 + 1 + 1) o) (w.heap.size + 1 + 1 + 1) (knL T.toTr 3 pre ++ [(T.msg x.1.1 x.1.2, evI x.1)])) : KnI T w (pre ++ [x]) (wr.putObj (w.heap.size + 1 + 1 + 1) o) := by
  obtain ⟨a, b, c, d, e, f⟩ := h
  refine ⟨a.putObj _ _ (by omega), b.putObj _ _ (by omega), c.putObj _ _ (by omega), ?_, by rw [knL_snoc, if_pos h3]; exact hm, ?_⟩
  · rw [knL_snoc, if_neg (by rw [h3]; decide)]; exact d.same (World.putObj_heap_other (by omega))
  · exact Below.trans f ⟨rfl, rfl, rfl, by simp, fun k hk => World.putObj_heap_other (by omega)⟩
theorem KnI.start {T : TM} {w : World} {t1 t2 t3 : TypeId} {G : World → Prop} (h : ∀ w1, KnI T w [] w1 → G w1) :
    G (((((w.alloc (.cells #[.slice (some ⟨T.b, T.off, none⟩) T.n T.cap] t1)).alloc (.cells #[.slice none 0 0, .map none, .map none] t2)).alloc (.map #[] 0)).alloc (.map #[] 0)).alloc (.cells #[.slice (some ⟨T.b, T.off, none⟩) T.n T.cap, .map (some (w.heap.size + 1 + 1)), .map (some (w.heap.size + 1 + 1 + 1))] t3)) := by
  obtain ⟨wa, hwa⟩ : ∃ x, x = w.alloc (.cells #[.slice (some ⟨T.b, T.off, none⟩) T.n T.cap] t1) := ⟨_, rfl⟩
  have sa : wa.heap.size = w.heap.size + 1 := by rw [hwa]; simp
  have a0 : Hold wa w.heap.size #[.slice (some ⟨T.b, T.off, none⟩) T.n T.cap] := by rw [hwa]; exact Hold.new _ _ _
  have xa : Ext w wa := by rw [hwa]; exact Ext.alloc _ _
  rw [← hwa]; clear hwa
  obtain ⟨wb, hwb⟩ : ∃ x, x = wa.alloc (.cells #[.slice none 0 0, .map none, .map none] t2) := ⟨_, rfl⟩
  have sb : wb.heap.size = w.heap.size + 1 + 1 := by rw [hwb]; simp [sa]
  have b0 : Hold wb (w.heap.size + 1) #[.slice none 0 0, .map none, .map none] := by rw [hwb, ← sa]; exact Hold.new _ _ _
  have xb : Ext wa wb := by rw [hwb]; exact Ext.alloc _ _
  rw [← hwb]; clear hwb
  obtain ⟨wc, hwc⟩ : ∃ x, x = wb.alloc (.map #[] 0) := ⟨_, rfl⟩
  have sc : wc.heap.size = w.heap.size + 1 + 1 + 1 := by rw [hwc]; simp [sb]
  have c0 : MapAt wc (w.heap.size + 1 + 1) [] := by rw [hwc, ← sb]; exact MapAt.new _
  have xc : Ext wb wc := by rw [hwc]; exact Ext.alloc _ _
  rw [← hwc]; clear hwc
  obtain ⟨wd, hwd⟩ : ∃ x, x = wc.alloc (.map #[] 0) := ⟨_, rfl⟩
  have sd : wd.heap.size = w.heap.size + 1 + 1 + 1 + 1 := by rw [hwd]; simp [sc]
  have d0 : MapAt wd (w.heap.size + 1 + 1 + 1) [] := by rw [hwd, ← sc]; exact MapAt.new _
  have xd : Ext wc wd := by rw [hwd]; exact Ext.alloc _ _
  rw [← hwd]; clear hwd
  refine h _ ⟨a0.ext (xb.trans (xc.trans (xd.alloc' _))), b0.ext (xc.trans (xd.alloc' _)), ?_, c0.ext (xd.alloc' _), d0.ext (Ext.alloc _ _), xa.trans (xb.trans (xc.trans (xd.alloc' _)))⟩
  rw [← sd]; exact Hold.new _ _ _
def KnowPost (T : TM) (w : World) (e : Ending) (w' : World) : Prop := Ext w w' ∧ ∃ bs br, e = .returned (T.kn bs br) ∧ KnAt T bs br w'

end Go.Proofs.YtnknkkmdbnaglaaGreat

namespace Go.Proofs.YtnknkkmdbnaglaaGreat
open Go.RowKit Go.Shelf


/-- the events directly before an event -/
noncomputable def Tr.bk (T : Tr) (x : NN) : List NN := (if 0 < x.2 then [(x.1, x.2 - 1)] else []) ++ (if T.kind x.1 x.2 = 3 then [T.sndN x] else [])
def BackPost (w : World) (l : List (Int × Int)) (e : Ending) (w' : World) : Prop := ∃ v, e = .returned v ∧ EvOwn w' w.heap.size v l ∧ Ext w w'

end Go.Proofs.YtnknkkmdbnaglaaGreat

namespace Go.Proofs.YtnknkkmdbnaglaaGreat

/-- y happened before x, or is it -/
inductive Tr.Past (T : Tr) (x : NN) : NN → Prop
  | self : Tr.Past T x x
  | step {y z : NN} : Tr.Past T x y → T.Dir z y → Tr.Past T x z
theorem Tr.mem_bk {T : Tr} {y z : NN} : z ∈ T.bk y ↔ T.Dir z y := by
  unfold Tr.bk Tr.Dir
  rw [List.mem_append]
  constructor
  · rintro (h | h)
    · split at h
      · simp at h; subst h; left; exact ⟨rfl, by show y.2 = y.2 - 1 + 1; omega⟩
      · cases h
    · split at h
      · next hk => simp at h; exact .inr ⟨hk, h⟩
      · cases h
  · rintro (⟨h1, h2⟩ | ⟨h1, h2⟩)
    · left; rw [if_pos (by omega)]; simp; exact Prod.ext h1.symm (by show z.2 = y.2 - 1; omega)
    · right; rw [if_pos h1]; simp [h2]
theorem Tr.bk_len (T : Tr) (y : NN) : (T.bk y).length ≤ 2 := by
  unfold Tr.bk; rw [List.length_append]; split <;> split <;> simp
theorem Tr.Past.V {T : Tr} {x y : NN} (hx : T.V x) (h : T.Past x y) : T.V y := by
  induction h with
  | self => exact hx
  | step _ d ih => exact Tr.Dir.V ih d
theorem Tr.Past.down {T : Tr} {x : NN} {p : Nat} : ∀ (d i : Nat), T.Past x (p, i + d) → T.Past x (p, i)
  | 0, _, h => h
  | d + 1, i, h => Tr.Past.down d i (.step h (.inl ⟨rfl, by show i + (d + 1) = i + d + 1; omega⟩))
theorem Tr.Past.le {T : Tr} {x : NN} {p i j : Nat} (h : T.Past x (p, j)) (hij : i ≤ j) : T.Past x (p, i) := by
  obtain ⟨d, rfl⟩ := Nat.exists_eq_add_of_le hij
  exact Tr.Past.down d i h
/-- the events before the events hi, hi - 1, .. of p: d of them -/
noncomputable def Tr.bkTo (T : Tr) (p hi : Nat) : Nat → List NN
  | 0 => []
  | d + 1 => T.bkTo p hi d ++ T.bk (p, hi - d)
theorem Tr.bkTo_len (T : Tr) (p hi : Nat) : ∀ d, (T.bkTo p hi d).length ≤ 2 * d
  | 0 => by simp [Tr.bkTo]
  | d + 1 => by
    have h1 := Tr.bkTo_len T p hi d
    have h2 := T.bk_len (p, hi - d)
    rw [Tr.bkTo, List.length_append]; omega
theorem Tr.bkTo_mem {T : Tr} {p hi : Nat} {z : NN} : ∀ {d}, z ∈ T.bkTo p hi d ↔ ∃ e, e < d ∧ z ∈ T.bk (p, hi - e)
  | 0 => by simp [Tr.bkTo]
  | d + 1 => by
    rw [Tr.bkTo, List.mem_append, Tr.bkTo_mem (d := d)]
    constructor
    · rintro (⟨e, h1, h2⟩ | h)
      · exact ⟨e, by omega, h2⟩
      · exact ⟨d, by omega, h⟩
    · rintro ⟨e, h1, h2⟩
      by_cases he : e = d
      · subst he; exact .inr h2
      · exact .inl ⟨e, by omega, h2⟩
def updC (c : Nat → Nat) (p v : Nat) : Nat → Nat := fun k => if k = p then v else c k
/-- the search for the past of x: c: how many of each process are found; q: the queue -/
structure Tr.PaI (T : Tr) (x : NN) (c : Nat → Nat) (q : List NN) : Prop where
  hx : T.V x
  le : ∀ p, p < T.n → c p ≤ T.en p
  v : ∀ y, y ∈ q → T.Past x y
  p1 : ∀ p i, p < T.n → i < c p → T.Past x (p, i)
  cl : ∀ p i, p < T.n → i < c p → ∀ z, T.Dir z (p, i) → z.2 < c z.1 ∨ z ∈ q
  xx : x.2 < c x.1 ∨ x ∈ q
theorem Tr.PaI.start {T : Tr} {x : NN} (hx : T.V x) : T.PaI x (fun _ => 0) [x] :=
  ⟨hx, fun _ _ => Nat.zero_le _, fun y hy => by simp at hy; subst hy; exact .self, fun _ _ _ h => absurd h (Nat.not_lt_zero _), fun _ _ _ h => absurd h (Nat.not_lt_zero _), .inr (by simp)⟩
theorem Tr.PaI.skip {T : Tr} {x y : NN} {c : Nat → Nat} {q : List NN} (h : T.PaI x c (y :: q)) (hy : y.2 < c y.1) : T.PaI x c q := by
  refine ⟨h.hx, h.le, fun z hz => h.v z (by simp [hz]), h.p1, fun p i hp hi z hz => ?_, ?_⟩
  · rcases h.cl p i hp hi z hz with h | h
    · exact .inl h
    · rcases List.mem_cons.1 h with rfl | h
      · exact .inl hy
      · exact .inr h
  · rcases h.xx with h | h
    · exact .inl h
    · rcases List.mem_cons.1 h with rfl | h
      · exact .inl hy
      · exact .inr h
theorem Tr.PaI.take {T : Tr} {x y : NN} {c : Nat → Nat} {q : List NN} (h : T.PaI x c (y :: q)) (hy : c y.1 ≤ y.2) : T.PaI x (updC c y.1 (y.2 + 1)) (q ++ T.bkTo y.1 y.2 (y.2 + 1 - c y.1)) := by
  have hpy := h.v y (by simp)
  have hVy := hpy.V h.hx
  have hge : ∀ k, c k ≤ updC c y.1 (y.2 + 1) k := fun k => by
    unfold updC
    by_cases e : k = y.1
    · rw [if_pos e, e]; omega
    · rw [if_neg e]; omega
  refine ⟨h.hx, fun p hp => ?_, fun z hz => ?_, fun p i hp hi => ?_, fun p i hp hi z hz => ?_, ?_⟩
  · unfold updC; split
    · next e => subst e; exact hVy.2
    · exact h.le p hp
  · rcases List.mem_append.1 hz with hz | hz
    · exact h.v z (by simp [hz])
    · obtain ⟨e, he, hb⟩ := Tr.bkTo_mem.1 hz
      exact .step (Tr.Past.le (j := y.2) hpy (Nat.sub_le _ _)) (Tr.mem_bk.1 hb)
  · unfold updC at hi; split at hi
    · next e => subst e; exact Tr.Past.le (j := y.2) hpy (by omega)
    · exact h.p1 p i hp hi
  · by_cases hold : i < c p
    · rcases h.cl p i hp hold z hz with h | h
      · exact .inl (Nat.lt_of_lt_of_le h (hge _))
      · rcases List.mem_cons.1 h with rfl | h
        · left; unfold updC; rw [if_pos rfl]; omega
        · exact .inr (by simp [h])
    · unfold updC at hi; split at hi
      · next e =>
        subst e
        right
        refine List.mem_append.2 (.inr (Tr.bkTo_mem.2 ⟨y.2 - i, by omega, ?_⟩))
        rw [show y.2 - (y.2 - i) = i by omega]; exact Tr.mem_bk.2 hz
      · exact absurd hi hold
  · rcases h.xx with h | h
    · exact .inl (Nat.lt_of_lt_of_le h (hge _))
    · rcases List.mem_cons.1 h with rfl | h
      · left; unfold updC; rw [if_pos rfl]; omega
      · exact .inr (by simp [h])
/-- c counts the past of x -/
def Tr.PastC (T : Tr) (x : NN) (c : Nat → Nat) : Prop := (∀ p, p < T.n → c p ≤ T.en p) ∧ ∀ p i, p < T.n → (i < c p ↔ T.Past x (p, i))
theorem Tr.PaI.done {T : Tr} {x : NN} {c : Nat → Nat} (h : T.PaI x c []) : T.PastC x c := by
  refine ⟨h.le, fun p i hp => ⟨fun hi => h.p1 p i hp hi, fun hP => ?_⟩⟩
  have key : ∀ y, T.Past x y → y.2 < c y.1 := by
    intro y hy
    induction hy with
    | self =>
      rcases h.xx with h | h
      · exact h
      · cases h
    | @step y z hy d ih =>
      have hV := hy.V h.hx
      rcases h.cl y.1 y.2 hV.1 ih z d with h | h
      · exact h
      · cases h
  exact key (p, i) hP
/-- what is left to be done -/
def Tr.paM (T : Tr) (c : Nat → Nat) (q : List NN) : Nat := q.length + 3 * (tot T.en T.n - tot c T.n)
theorem tot_add {f g : Nat → Nat} {p d : Nat} : ∀ {n : Nat}, p < n → (∀ k, k ≠ p → f k = g k) → f p = g p + d → tot f n = tot g n + d
  | 0, h, _, _ => by omega
  | n + 1, h, ho, hp => by
    unfold tot
    by_cases e : p = n
    · subst e
      rw [tot_congr (f := f) (g := g) fun k hk => ho k (by omega), hp]; omega
    · rw [tot_add (f := f) (g := g) (n := n) (by omega) ho hp, ho n (fun h => e h.symm)]; omega
theorem Tr.PaI.less {T : Tr} {x y : NN} {c : Nat → Nat} {q : List NN} (h : T.PaI x c (y :: q)) (hy : c y.1 ≤ y.2) : T.paM (updC c y.1 (y.2 + 1)) (q ++ T.bkTo y.1 y.2 (y.2 + 1 - c y.1)) < T.paM c (y :: q) := by
  have hVy := (h.v y (by simp)).V h.hx
  have h2 := h.take hy
  have ht := tot_add (f := updC c y.1 (y.2 + 1)) (g := c) (p := y.1) (d := y.2 + 1 - c y.1) (n := T.n) hVy.1 (fun k hk => by unfold updC; rw [if_neg hk]) (by unfold updC; rw [if_pos rfl]; omega)
  have hle := tot_le (n := T.n) h2.le
  have hb := T.bkTo_len y.1 y.2 (y.2 + 1 - c y.1)
  unfold Tr.paM
  rw [List.length_append, List.length_cons]
  omega

end Go.Proofs.YtnknkkmdbnaglaaGreat

namespace Go.Proofs.YtnknkkmdbnaglaaGreat
open Go.RowKit Go.Shelf

/-- n counts lie in block g -/
structure CRow (w : World) (g n : Nat) (c : Nat → Nat) : Prop where
  c : ∀ k, k < n → w.cell? ⟨g, k, none⟩ = some (.int .i64 (c k))
  fr : ∀ o, w.frozen? ⟨g, o, none⟩ = false
  lt : g < w.heap.size
theorem CRow.block {w w' : World} {g n : Nat} {c : Nat → Nat} (h : CRow w g n c) (hs : w.heap.size ≤ w'.heap.size) (x : w'.heap[g]? = w.heap[g]?) : CRow w' g n c :=
  ⟨fun k hk => (World.cell?_of_block (w := w) (a := ⟨g, k, none⟩) x).trans (h.c k hk), fun o => (World.frozen?_of_block (w := w) (a := ⟨g, o, none⟩) x).trans (h.fr o), Nat.lt_of_lt_of_le h.lt hs⟩
theorem CRow.ext {w w' : World} {g n : Nat} {c : Nat → Nat} (h : CRow w g n c) (x : Ext w w') : CRow w' g n c := h.block x.le (x.block g h.lt)
theorem CRow.made {w : World} {base g n : Nat} (h : w.ownsRow base 3 1 (.slice (some ⟨g, 0, none⟩) n n) n (madeCells (Value.int .i64 0).cells (n * 1)).toList) : CRow w g n (fun _ => 0) := by
  obtain ⟨h1, ⟨hv, _⟩ | ⟨g', cap, cur, hv, hg, hh, hc, hm, hs, ht⟩⟩ := h
  · cases hv
  · simp only [Value.slice.injEq, Option.some.injEq, Addr.mk.injEq] at hv
    obtain ⟨⟨rfl, _⟩, _, rfl⟩ := hv
    have hb := Box.of hh
    have hz : (Value.int .i64 0).cells = #[.int .i64 0] := rfl
    rw [hz, toList_madeCells_one] at ht
    refine ⟨fun k hk => ?_, fun o => hb.frozen w (Ext.refl _) o, hb.lt w (Ext.refl _)⟩
    rw [hb.cell w (Ext.refl _)]
    have : cur[k]? = (List.replicate (n * 1) (Value.int .i64 0))[k]? := by rw [← ht, List.getElem?_take_of_lt (by omega)]; simp
    rw [this, List.getElem?_replicate, if_pos (by omega)]; rfl
theorem CRow.set {w : World} {g n : Nat} {c : Nat → Nat} (h : CRow w g n c) (q v : Nat) (hq : q < n) : CRow (w.setCell ⟨g, q, none⟩ (.int .i64 v)) g n (updC c q v) := by
  refine ⟨fun k hk => ?_, fun o => ?_, by rw [World.size_setCell]; exact h.lt⟩
  · unfold updC
    by_cases e : k = q
    · subst e
      rw [if_pos rfl]; exact World.cell?_setCell_same _ _ _ (h.c k hk)
    · rw [if_neg e]; refine Eq.trans ?_ (h.c k hk); apply World.cell?_setCell_other; intro h9; simp only [Addr.mk.injEq] at h9; exact e h9.2.1.symm
  · rw [frozen_set]; exact h.fr o
theorem evCells_append (a b : List (Int × Int)) : evCells (a ++ b) = evCells a ++ evCells b := by simp [evCells]
theorem evCells_one (l : List (Int × Int)) : ∀ u ∈ evCells l, u.oneCell' = true := by
  intro u hu
  simp only [evCells, List.mem_flatMap] at hu
  obtain ⟨x, _, hx⟩ := hu
  simp at hx
  rcases hx with rfl | rfl <;> rfl
/-- the search in memory: counts in block w.heap.size + 2, the queue behind it -/
structure PaW (T : TM) (bs br : Nat) (w : World) (c : Nat → Nat) (q : List NN) (v : Value) (wr : World) : Prop where
  h0 : Hold wr w.heap.size #[.slice (some ⟨T.b, T.off, none⟩) T.n T.cap, .map (some bs), .map (some br)]
  cn : CRow wr (w.heap.size + 1 + 1) T.n c
  qu : Que wr (w.heap.size + 1 + 1 + 1) 2 v q.length (evCells (q.map evI))
  bl : Ext w wr
theorem PaW.ext {T : TM} {bs br : Nat} {w wr w' : World} {c : Nat → Nat} {q : List NN} {v : Value} (h : PaW T bs br w c q v wr) (x : Ext wr w') : PaW T bs br w c q v w' :=
  ⟨h.h0.ext x, h.cn.ext x, h.qu.ext x, h.bl.trans x⟩
/-- the queue has grown -/
theorem PaW.grow {T : TM} {bs br : Nat} {w wr w4 w5 : World} {c : Nat → Nat} {q l : List NN} {v v' : Value} (h : PaW T bs br w c q v wr) (x : Ext wr w4)
    (hq : Que w5 (w.heap.size + 1 + 1 + 1) 2 v' (q.length + l.length) (evCells (q.map evI) ++ evCells (l.map evI))) (hg : w4.grownBy w5 v.ownBlock) : PaW T bs br w c (q ++ l) v' w5 := by
  have h4 := h.ext x
  have hb := h4.qu.block
  have hsz : w.heap.size + 1 + 1 < w4.heap.size := h4.cn.lt
  have hbl : ∀ k, k < w.heap.size + 1 + 1 + 1 → w5.heap[k]? = w4.heap[k]? := fun k hk => hg.block k (by omega) (fun e => by have := hb k e.symm; omega)
  refine ⟨?_, h4.cn.block hg.size (hbl _ (by omega)), ?_, ?_⟩
  · obtain ⟨t, h0⟩ := h4.h0
    exact ⟨t, (hbl _ (by omega)).trans h0⟩
  · rw [List.length_append, List.map_append, evCells_append]; exact hq
  · exact Below.trans h4.bl ⟨hg.os, hg.tape, hg.output, hg.size, fun k hk => hbl k (by omega)⟩
/-- a count was set -/
theorem PaW.set {T : TM} {bs br : Nat} {w wr : World} {c : Nat → Nat} {q : List NN} {v : Value} (h : PaW T bs br w c q v wr) {p : Nat} (hp : p < T.n) (y : Nat) : PaW T bs br w (updC c p y) q v (wr.setCell ⟨w.heap.size + 1 + 1, p, none⟩ (.int .i64 y)) :=
  ⟨h.h0.other _ _ (by show _ ≠ w.heap.size + 1 + 1; omega), h.cn.set p y hp, h.qu.same (by rw [World.size_setCell]; exact Nat.le_refl _) (fun g hg _ => Below.heap_setCell _ _ _ _ (by show g ≠ w.heap.size + 1 + 1; omega)), h.bl.setCell (by show _ ≤ w.heap.size + 1 + 1; omega) _⟩
def PastPost (T : TM) (x : NN) (w : World) (e : Ending) (w' : World) : Prop := Ext w w' ∧ ∃ g c, e = .returned (.slice (some ⟨g, 0, none⟩) T.n T.n) ∧ w.heap.size ≤ g ∧ CRow w' g T.n c ∧ T.toTr.PastC x c

end Go.Proofs.YtnknkkmdbnaglaaGreat

namespace Go.Proofs.YtnknkkmdbnaglaaGreat
open Go.RowKit Go.Shelf

/-- all events up to a place, as pairs -/
def Tr.evL (T : Tr) (k i : Nat) : List (Int × Int) := (T.evsTo k i).map fun x => evI x.1
theorem Tr.evL_succ (T : Tr) (k i : Nat) (hk : k < T.n) (hi : i < T.en k) : T.evL k (i + 1) = T.evL k i ++ [((k : Int), (i : Int) + 1)] := by
  unfold Tr.evL; rw [Tr.evsTo_succ _ _ _ hk hi, List.map_append]; rfl
structure EvsI (T : TM) (w : World) (k i : Nat) (v : Value) (wr : World) : Prop where
  h0 : Hold wr w.heap.size #[.slice (some ⟨T.b, T.off, none⟩) T.n T.cap]
  own : EvOwn wr (w.heap.size + 1) v (T.toTr.evL k i)
  bl : Ext w wr
theorem EvsI.ext {T : TM} {w wr w' : World} {k i : Nat} {v : Value} (h : EvsI T w k i v wr) (x : Ext wr w') : EvsI T w k i v w' := ⟨h.h0.ext x, h.own.kept x, h.bl.trans x⟩
def EvsPost (T : TM) (w : World) (e : Ending) (w' : World) : Prop := Ext w w' ∧ ∃ v, e = .returned v ∧ EvOwn w' w.heap.size v (T.toTr.evs.map fun x => evI x.1)

end Go.Proofs.YtnknkkmdbnaglaaGreat

namespace Go.Proofs.YtnknkkmdbnaglaaGreat
open Go.RowKit Go.Shelf

/-- there is such an event -/
def Tr.Is (T : Tr) (p i : Int) : Prop := 0 ≤ p ∧ p < T.n ∧ 1 ≤ i ∧ i ≤ T.en p.toNat

end Go.Proofs.YtnknkkmdbnaglaaGreat
