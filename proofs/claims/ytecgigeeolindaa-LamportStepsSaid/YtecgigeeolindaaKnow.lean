/- Contract: causality.knows (maps from message numbers to events). -/
import Derived.Test.YtecgigeeolindaaLng
import Derived.Deep.LoopGhost
namespace Go.Proofs.Ytecgigeeolindaa
open Go.RowKit Go.Shelf

/-- the entries L lie in the map of block b, in order -/
def MapAt (w : World) (b : Nat) (L : List (Int × (Int × Int))) : Prop :=
  ∃ es clock, w.heap[b]? = some (.map es clock) ∧ es.toList.map (fun e => (e.key, e.val)) = L.map (fun x => (.int .i64 x.1, evV x.2))
theorem MapAt.ext {w w' : World} {b : Nat} {L : List (Int × (Int × Int))} (h : MapAt w b L) (x : Ext w w') : MapAt w' b L := by
  obtain ⟨es, c, hb, he⟩ := h
  exact ⟨es, c, (x.block b (Array.getElem?_eq_some_iff.1 hb).1).trans hb, he⟩
theorem MapAt.same {w w' : World} {b : Nat} {L : List (Int × (Int × Int))} (h : MapAt w b L) (x : w'.heap[b]? = w.heap[b]?) : MapAt w' b L := by
  obtain ⟨es, c, hb, he⟩ := h
  exact ⟨es, c, x.trans hb, he⟩
theorem MapAt.lt {w : World} {b : Nat} {L : List (Int × (Int × Int))} (h : MapAt w b L) : b < w.heap.size := by
  obtain ⟨es, c, hb, he⟩ := h; exact (Array.getElem?_eq_some_iff.1 hb).1
theorem MapAt.new (w : World) : MapAt (w.alloc (.map #[] 0)) w.heap.size [] := ⟨#[], 0, by show (w.heap.push _)[w.heap.size]? = _; simp, rfl⟩
/-- the place of the first entry of m, from i on -/
def placeM (m : Int) : List (Int × (Int × Int)) → Nat → Option (Nat × Value)
  | [], _ => none
  | x :: L, i => if m = x.1 then some (i, evV x.2) else placeM m L (i + 1)
theorem findNow_int {q : IntKind} {d : TypeDesc} (hd : d = .int q) (m : Int) : ∀ (es : List MapEntry) (L : List (Int × (Int × Int))) (i : Nat), es.map (fun e => (e.key, e.val)) = L.map (fun x => (Value.int .i64 x.1, evV x.2)) →
    Instr.findNow d (.int .i64 m) es i = some (placeM m L i)
  | [], [], i, _ => by simp [Instr.findNow, placeM]
  | [], _ :: _, _, h => by simp at h
  | _ :: _, [], _, h => by simp at h
  | e :: es, x :: L, i, h => by
    simp only [List.map_cons, List.cons.injEq, Prod.mk.injEq] at h
    obtain ⟨⟨h1, h2⟩, h3⟩ := h
    have ih := findNow_int hd m es L (i + 1) h3
    subst hd
    by_cases e' : m = x.1
    · simp [Instr.findNow, Instr.sameNow, placeM, h1, h2, e']
    · have hb : (m == x.1) = false := by simpa using e'
      simp [Instr.findNow, Instr.sameNow, placeM, h1, e', ih, hb]
theorem run_findKey_int (m : Int) (w : World) (es : List MapEntry) (L : List (Int × (Int × Int))) (h : es.map (fun e => (e.key, e.val)) = L.map (fun x => (Value.int .i64 x.1, evV x.2))) :
    (Instr.findKey 3 (.int .i64 m) es).run Try.prog w = .ok (placeM m L 0) w := by
  unfold Instr.findKey
  simp [Sem.run_bind, run_underlying Try.underlying3, findNow_int rfl m es L 0 h]
theorem run_checkKey_int (b : Bool) (m : Int) (w : World) : (Instr.checkKey b 10000 3 (.int .i64 m)).run Try.prog w = .ok () w := by
  show (Instr.checkKey b (9999 + 1) 3 (.int .i64 m)).run Try.prog w = _
  rw [Instr.checkKey]; simp [go_sem, run_underlying Try.underlying3]
theorem placeM_none {m : Int} : ∀ (L : List (Int × (Int × Int))) (i : Nat), (∀ e ∈ L, e.1 ≠ m) → placeM m L i = none
  | [], _, _ => rfl
  | x :: L, i, h => by
    rw [placeM, if_neg (fun e => h x (by simp) e.symm)]; exact placeM_none L (i + 1) fun e he => h e (by simp [he])
theorem placeM_some {m : Int} {v : Int × Int} : ∀ (L : List (Int × (Int × Int))) (i : Nat), (∀ e ∈ L, e.1 = m → e.2 = v) → (∃ e ∈ L, e.1 = m) → ∃ j, placeM m L i = some (j, evV v)
  | [], _, _, h => by obtain ⟨_, h, _⟩ := h; cases h
  | x :: L, i, hu, h => by
    by_cases e : m = x.1
    · exact ⟨i, by rw [placeM, if_pos e, hu x (by simp) e.symm]⟩
    · have : ∃ e ∈ L, e.1 = m := by
        obtain ⟨y, hy, hm⟩ := h
        rcases List.mem_cons.1 hy with rfl | hy
        · exact absurd hm.symm e
        · exact ⟨y, hy, hm⟩
      obtain ⟨j, hj⟩ := placeM_some L (i + 1) (fun e he => hu e (by simp [he])) this
      exact ⟨j, by rw [placeM, if_neg e]; exact hj⟩
/-- 'm[k]', k being there -/
theorem run_lookup_int {w : World} {b : Nat} {L : List (Int × (Int × Int))} (h : MapAt w b L) {m : Int} {v : Int × Int} (hu : ∀ e ∈ L, e.1 = m → e.2 = v) (hm : ∃ e ∈ L, e.1 = m) :
    (Instr.lookup 76 (.map (some b)) (.int .i64 m) false).run Try.prog w = .ok (evV v) w := by
  obtain ⟨es, clock, hb, he⟩ := h
  have hk := fun c => run_checkKey_int c m w
  have hf := run_findKey_int m w es.toList L he
  obtain ⟨j, hj⟩ := placeM_some L 0 hu hm
  rw [hj] at hf
  simp [Instr.lookup, Sem.run_bind, run_underlying Try.underlying76, getObj, Sem.run, hb, hk, hf]
/-- 'm[k] = v', k being new -/
theorem run_update_int {w : World} {b : Nat} {L : List (Int × (Int × Int))} (h : MapAt w b L) (m : Int) (v : Int × Int) (hy : ∀ e ∈ L, e.1 ≠ m) :
    ∃ o, (Instr.mapUpdate 76 (.map (some b)) (.int .i64 m) (evV v)).run Try.prog w = .ok () (w.putObj b o) ∧ MapAt (w.putObj b o) b (L ++ [(m, v)]) := by
  obtain ⟨es, clock, hb, he⟩ := h
  have hk := fun c => run_checkKey_int c m w
  have hf := run_findKey_int m w es.toList L he
  rw [placeM_none L 0 hy] at hf
  refine ⟨.map (es.push { key := .int .i64 m, val := evV v, born := clock }) (clock + 1), ?_, es.push { key := .int .i64 m, val := evV v, born := clock }, clock + 1, ?_, by simp [he]⟩
  · simp [Instr.mapUpdate, Sem.run_bind, run_underlying Try.underlying76, getObj, setObj, Sem.run, hb, hk, hf, World.putObj]
  · have hlt := (Array.getElem?_eq_some_iff.1 hb).1
    simp [World.putObj, hlt]

theorem Tr.evsTo_mem {T : Tr} {k i : Nat} {x : T.Id} (h : x ∈ T.evsTo k i) : x.1.1 < k ∨ (x.1.1 = k ∧ x.1.2 < i) := by
  unfold Tr.evsTo at h
  rcases List.mem_append.1 h with h | h
  · obtain ⟨p, hp, h⟩ := List.mem_flatMap.1 h
    obtain ⟨j, hj, h⟩ := List.mem_filterMap.1 h
    unfold Tr.mk? at h
    split at h
    · cases h; exact .inl (List.mem_range.1 hp)
    · cases h
  · obtain ⟨j, hj, h⟩ := List.mem_filterMap.1 h
    unfold Tr.mk? at h
    split at h
    · cases h; exact .inr ⟨rfl, List.mem_range.1 hj⟩
    · cases h
/-- the entries of the events of a kind -/
def knL (T : Tr) (kd : Int) (pre : List T.Id) : List (Int × (Int × Int)) := pre.filterMap fun x => if T.kind x.1.1 x.1.2 = kd then some (T.msg x.1.1 x.1.2, evI x.1) else none
theorem knL_snoc (T : Tr) (kd : Int) (pre : List T.Id) (x : T.Id) : knL T kd (pre ++ [x]) = if T.kind x.1.1 x.1.2 = kd then knL T kd pre ++ [(T.msg x.1.1 x.1.2, evI x.1)] else knL T kd pre := by
  unfold knL
  rw [List.filterMap_append]
  by_cases h : T.kind x.1.1 x.1.2 = kd
  · simp [h]
  · simp [h]
theorem knL_mem {T : Tr} {kd : Int} {pre : List T.Id} {e : Int × (Int × Int)} (h : e ∈ knL T kd pre) : ∃ x ∈ pre, T.kind x.1.1 x.1.2 = kd ∧ e = (T.msg x.1.1 x.1.2, evI x.1) := by
  obtain ⟨x, hx, h⟩ := List.mem_filterMap.1 h
  split at h
  · next hk => cases h; exact ⟨x, hx, hk, rfl⟩
  · cases h
theorem mem_knL {T : Tr} {kd : Int} {pre : List T.Id} {x : T.Id} (hx : x ∈ pre) (hk : T.kind x.1.1 x.1.2 = kd) : (T.msg x.1.1 x.1.2, evI x.1) ∈ knL T kd pre :=
  List.mem_filterMap.2 ⟨x, hx, by rw [if_pos hk]⟩
theorem knL_new2 {T : Tr} (hV : T.Valid) {k i : Nat} (hk : k < T.n) (hi : i < T.en k) (hkd : T.kind k i = 2) : ∀ e ∈ knL T 2 (T.evsTo k i), e.1 ≠ T.msg k i := by
  intro e he hm
  obtain ⟨x, hx, hxk, rfl⟩ := knL_mem he
  have := hV.uniq2 (x := x) (y := ⟨(k, i), hk, hi⟩) hxk hkd hm
  have h2 := Tr.evsTo_mem hx
  rw [this] at h2
  rcases h2 with h | h
  · exact absurd h (Nat.lt_irrefl _)
  · exact absurd h.2 (Nat.lt_irrefl _)
theorem knL_new3 {T : Tr} (hV : T.Valid) {k i : Nat} (hk : k < T.n) (hi : i < T.en k) (hkd : T.kind k i = 3) : ∀ e ∈ knL T 3 (T.evsTo k i), e.1 ≠ T.msg k i := by
  intro e he hm
  obtain ⟨x, hx, hxk, rfl⟩ := knL_mem he
  have := hV.uniq3 (x := x) (y := ⟨(k, i), hk, hi⟩) hxk hkd hm
  have h2 := Tr.evsTo_mem hx
  rw [this] at h2
  rcases h2 with h | h
  · exact absurd h (Nat.lt_irrefl _)
  · exact absurd h.2 (Nat.lt_irrefl _)
/-- what is known of a trace lies in two maps -/
structure KnAt (T : TM) (bs br : Nat) (w : World) : Prop where
  s : MapAt w bs (knL T.toTr 2 T.toTr.evs)
  r : MapAt w br (knL T.toTr 3 T.toTr.evs)
theorem KnAt.ext {T : TM} {bs br : Nat} {w w' : World} (h : KnAt T bs br w) (x : Ext w w') : KnAt T bs br w' := ⟨h.s.ext x, h.r.ext x⟩
abbrev TM.kn (T : TM) (bs br : Nat) : Value := .agg #[.slice T.a T.n T.cap, .map (some bs), .map (some br)]
/-- who sends what x receives, looked up -/
theorem KnAt.look {T : TM} {bs br : Nat} {w : World} (h : KnAt T bs br w) (hV : T.toTr.Valid) (x : T.toTr.Id) (hx : T.kind x.1.1 x.1.2 = 3) :
    (Instr.lookup 76 (.map (some bs)) (.int .i64 (T.msg x.1.1 x.1.2)) false).run Try.prog w = .ok (evV (evI (T.toTr.snd x).1)) w := by
  have hs := hV.snd x hx
  refine run_lookup_int h.s ?_ ⟨_, mem_knL (evs_all (T.toTr.snd x)) hs.2.1, hs.2.2⟩
  intro e he hm
  obtain ⟨y, hy, hyk, rfl⟩ := knL_mem he
  rw [hV.uniq2 hyk hs.2.1 (hm.trans hs.2.2.symm)]
/-- the state while the events are gone through -/
structure KnI (T : TM) (w : World) (pre : List T.toTr.Id) (wr : World) : Prop where
  h0 : Hold wr w.heap.size #[.slice (some ⟨T.b, T.off, none⟩) T.n T.cap]
  h1 : Hold wr (w.heap.size + 1) #[.slice none 0 0, .map none, .map none]
  h4 : Hold wr (w.heap.size + 1 + 1 + 1 + 1) #[.slice (some ⟨T.b, T.off, none⟩) T.n T.cap, .map (some (w.heap.size + 1 + 1)), .map (some (w.heap.size + 1 + 1 + 1))]
  m1 : MapAt wr (w.heap.size + 1 + 1) (knL T.toTr 2 pre)
  m2 : MapAt wr (w.heap.size + 1 + 1 + 1) (knL T.toTr 3 pre)
  bl : Ext w wr
theorem KnI.ext {T : TM} {w wr w' : World} {pre : List T.toTr.Id} (h : KnI T w pre wr) (x : Ext wr w') : KnI T w pre w' :=
  ⟨h.h0.ext x, h.h1.ext x, h.h4.ext x, h.m1.ext x, h.m2.ext x, h.bl.trans x⟩
theorem KnI.skip {T : TM} {w wr : World} {pre : List T.toTr.Id} {x : T.toTr.Id} (h : KnI T w pre wr) (h2 : T.kind x.1.1 x.1.2 ≠ 2) (h3 : T.kind x.1.1 x.1.2 ≠ 3) : KnI T w (pre ++ [x]) wr := by
  obtain ⟨a, b, c, d, e, f⟩ := h
  exact ⟨a, b, c, by rw [knL_snoc, if_neg h2]; exact d, by rw [knL_snoc, if_neg h3]; exact e, f⟩
theorem KnI.put2 {T : TM} {w wr : World} {pre : List T.toTr.Id} {x : T.toTr.Id} {o : Obj} (h : KnI T w pre wr) (h2 : T.kind x.1.1 x.1.2 = 2)
    (hm : MapAt (wr.putObj (w.heap.size + 1 + 1) o) (w.heap.size + 1 + 1) (knL T.toTr 2 pre ++ [(T.msg x.1.1 x.1.2, evI x.1)])) : KnI T w (pre ++ [x]) (wr.putObj (w.heap.size + 1 + 1) o) := by
  obtain ⟨a, b, c, d, e, f⟩ := h
  refine ⟨a.putObj _ _ (by omega), b.putObj _ _ (by omega), c.putObj _ _ (by omega), by rw [knL_snoc, if_pos h2]; exact hm, ?_, ?_⟩
  · rw [knL_snoc, if_neg (by rw [h2]; decide)]; exact e.same (World.putObj_heap_other (by omega))
  · exact Below.trans f ⟨rfl, rfl, rfl, by simp, fun k hk => World.putObj_heap_other (by omega)⟩
theorem KnI.put3 {T : TM} {w wr : World} {pre : List T.toTr.Id} {x : T.toTr.Id} {o : Obj} (h : KnI T w pre wr) (h3 : T.kind x.1.1 x.1.2 = 3)
    (hm : MapAt (wr.putObj (w.heap.size + 1 + 1 + 1) o) (w.heap.size + 1 + 1 + 1) (knL T.toTr 3 pre ++ [(T.msg x.1.1 x.1.2, evI x.1)])) : KnI T w (pre ++ [x]) (wr.putObj (w.heap.size + 1 + 1 + 1) o) := by
  obtain ⟨a, b, c, d, e, f⟩ := h
  refine ⟨a.putObj _ _ (by omega), b.putObj _ _ (by omega), c.putObj _ _ (by omega), ?_, by rw [knL_snoc, if_pos h3]; exact hm, ?_⟩
  · rw [knL_snoc, if_neg (by rw [h3]; decide)]; exact d.same (World.putObj_heap_other (by omega))
  · exact Below.trans f ⟨rfl, rfl, rfl, by simp, fun k hk => World.putObj_heap_other (by omega)⟩
theorem KnI.start {T : TM} {w : World} {t1 t2 t3 : TypeId} {G : World → Prop} (h : ∀ w1, KnI T w [] w1 → G w1) :
    G (((((w.alloc (.cells #[.slice (some ⟨T.b, T.off, none⟩) T.n T.cap] t1)).alloc (.cells #[.slice none 0 0, .map none, .map none] t2)).alloc (.map #[] 0)).alloc (.map #[] 0)).alloc (.cells #[.slice (some ⟨T.b, T.off, none⟩) T.n T.cap, .map (some (w.heap.size + 1 + 1)), .map (some (w.heap.size + 1 + 1 + 1))] t3)) := by
  obtain ⟨wa, hwa⟩ : ∃ x, x = w.alloc (.cells #[.slice (some ⟨T.b, T.off, none⟩) T.n T.cap] t1) := ⟨_, rfl⟩
  have sa : wa.heap.size = w.heap.size + 1 := by rw [hwa]; simp
  have a0 : Hold wa w.heap.size #[.slice (some ⟨T.b, T.off, none⟩) T.n T.cap] := by rw [hwa]; exact Hold.new _ _ _
  have xa : Ext w wa := by rw [hwa]; exact Ext.alloc _ _
  rw [← hwa]; clear hwa
  obtain ⟨wb, hwb⟩ : ∃ x, x = wa.alloc (.cells #[.slice none 0 0, .map none, .map none] t2) := ⟨_, rfl⟩
  have sb : wb.heap.size = w.heap.size + 1 + 1 := by rw [hwb]; simp [sa]
  have b0 : Hold wb (w.heap.size + 1) #[.slice none 0 0, .map none, .map none] := by rw [hwb, ← sa]; exact Hold.new _ _ _
  have xb : Ext wa wb := by rw [hwb]; exact Ext.alloc _ _
  rw [← hwb]; clear hwb
  obtain ⟨wc, hwc⟩ : ∃ x, x = wb.alloc (.map #[] 0) := ⟨_, rfl⟩
  have sc : wc.heap.size = w.heap.size + 1 + 1 + 1 := by rw [hwc]; simp [sb]
  have c0 : MapAt wc (w.heap.size + 1 + 1) [] := by rw [hwc, ← sb]; exact MapAt.new _
  have xc : Ext wb wc := by rw [hwc]; exact Ext.alloc _ _
  rw [← hwc]; clear hwc
  obtain ⟨wd, hwd⟩ : ∃ x, x = wc.alloc (.map #[] 0) := ⟨_, rfl⟩
  have sd : wd.heap.size = w.heap.size + 1 + 1 + 1 + 1 := by rw [hwd]; simp [sc]
  have d0 : MapAt wd (w.heap.size + 1 + 1 + 1) [] := by rw [hwd, ← sc]; exact MapAt.new _
  have xd : Ext wc wd := by rw [hwd]; exact Ext.alloc _ _
  rw [← hwd]; clear hwd
  refine h _ ⟨a0.ext (xb.trans (xc.trans (xd.alloc' _))), b0.ext (xc.trans (xd.alloc' _)), ?_, c0.ext (xd.alloc' _), d0.ext (Ext.alloc _ _), xa.trans (xb.trans (xc.trans (xd.alloc' _)))⟩
  rw [← sd]; exact Hold.new _ _ _
def KnowPost (T : TM) (w : World) (e : Ending) (w' : World) : Prop := Ext w w' ∧ ∃ bs br, e = .returned (T.kn bs br) ∧ KnAt T bs br w'
theorem knows_results (tmps : Array Value) (W : World) (b : Nat) (x y z : Value) (t2 : tmps[2]? = some (.pointer (some ⟨b, 0, none⟩))) (c : W.cell? ⟨b, 0, none⟩ = some x) (c' : W.cell? ⟨b, 1, none⟩ = some y) (c'' : W.cell? ⟨b, 2, none⟩ = some z) :
    (results Try.f43 tmps).run Try.prog W = .ok (.agg #[x, y, z]) W := by
  simp [results, go_sem, t2, c, c', c'']
set_option maxRecDepth 100000 in
set_option maxHeartbeats 1000000 in
theorem knows_any (w : World) (T : TM) (hT : T.At w) (hV : T.toTr.Valid) :
    Calls Try.prog 43 #[T.val] w (KnowPost T w) := by
  have hn1 := hV.n1
  have hn8 := hV.n8
  have pa := hT.P.pa (by omega)
  have pb := hT.P.pb (by omega)
  have p0 := hT.P.p0
  have p1 := hT.P.p1
  have p2 := hT.P.p2
  have e0 := hT.E.e0
  have e1 := hT.E.e1
  have e2 := hT.E.e2
  have e3 := hT.E.e3
  have e4 := hT.E.e4
  have HT := Lib.hid hT
  have HV := Lib.hid hV
  clear hT hV
  have hmm := @run_makeMap Try.prog
  go_enter Try.func43, Try.ntmps43
  go_upto_region 2 with fail
  refine KnI.start (w := w) (T := T) (G := fun x => Code.wp _ _ _ _ x) ?_
  intro w1 hI1
  clear hmm
  have hx1 := hI1.bl
  have hx11 : Ext w1 w1 := Ext.refl _
  obtain ⟨l0, c0, _, _⟩ := hI1.h0.box
  have HI1 := Lib.hid hI1
  clear hI1
  go_wp2_with fail
  go_loopg [16] T.n (fun gg v wr => ∃ k : Nat, k ≤ T.n ∧ gg = T.n - k ∧ v = .int .i64 k ∧ KnI T w (T.toTr.evsTo k 0) wr)
  case atStart => exact ⟨0, by omega, rfl, rfl, HI1.out⟩
  case round =>
    obtain ⟨k, hk, rfl, rfl, hI⟩ := hrel
    have hxr := hI.bl
    have hrr : Ext wr wr := Ext.refl _
    obtain ⟨l4, c4, _, _⟩ := hI.h4.box
    obtain ⟨l1, c1, f1, _⟩ := hI.h1.box
    have HI := Lib.hid hI
    clear hI
    by_cases hlt : k < T.n
    · have hlt' : (k : Int) < (T.n : Int) := by omega
      obtain ⟨ea, hea⟩ : ∃ a, a = T.ea k := ⟨_, rfl⟩
      have p2k : ∀ w', Ext w w' → w'.cell? ⟨T.b, T.off + k * 3 + 2, none⟩ = some (.slice ea (T.en k) (T.ec k)) := fun w' h => by rw [hea]; exact p2 w' h k hlt
      have hen := HT.out.E.he k hlt
      have HEA := Lib.hid hea
      clear p2 hea l4 c4 l1 c1 f1
      go_upto_region 5 with fail
      refine boxed1 (w := wr) (G := fun x => Code.wp _ _ _ _ x) ?_
      intro w3 hx3 hs3 ⟨l3, c3, _, _⟩
      have hx33 : Ext w3 w3 := Ext.refl _
      have HI3 := Lib.hid (HI.out.ext hx3)
      have hb3 := Lib.hid (show wr.heap.size < w3.heap.size by omega)
      clear hs3
      go_wp2_with fail
      go_loopg [24] (T.en k) (fun gg v wi => ∃ i : Nat, i ≤ T.en k ∧ gg = T.en k - i ∧ v = .int .i64 i ∧ KnI T w (T.toTr.evsTo k i) wi)
      case atStart => exact ⟨0, by omega, rfl, rfl, HI3.out⟩
      case round =>
        obtain ⟨i, hi, rfl, rfl, hI⟩ := hrel
        have hxi := hI.bl
        have hii : Ext wr wr := Ext.refl _
        have HI := Lib.hid hI
        clear hI
        by_cases hli : i < T.en k
        · have hli' : (i : Int) < (T.en k : Int) := by omega
          obtain rfl : ea = some ⟨T.eb k, T.eo k, none⟩ := by rw [HEA.out]; exact HT.out.E.ea k hlt (by omega)
          have eb := HT.out.E.eb k hlt (by omega)
          go_upto_region 8 with fail
          refine boxed1 (w := wr) (G := fun x => Code.wp _ _ _ _ x) ?_
          intro w4 hx4 hs4 ⟨l4, c4, _, _⟩
          have hx44 : Ext w4 w4 := Ext.refl _
          clear hs4
          go_upto_region 9 with fail
          refine boxed1 (w := w4) (G := fun x => Code.wp _ _ _ _ x) ?_
          intro w5 hx5 hs5 ⟨l5, c5, _, _⟩
          have hx55 : Ext w5 w5 := Ext.refl _
          clear hs5
          have HI5 := Lib.hid (HI.out.ext (hx4.trans hx5))
          obtain ⟨b4, d4, _, _⟩ := HI5.out.h4.box
          clear e0 e1 e2 e3 e4 p0 p1 p2k eb
          by_cases hk2 : T.kind k i = 2
          · obtain ⟨o, hup, hset⟩ := run_update_int HI5.out.m1 (T.msg k i) (evI (k, i)) (knL_new2 HV.out hlt hli hk2)
            have HS := Lib.hid (HI5.out.put2 (x := ⟨(k, i), hlt, hli⟩) hk2 hset)
            simp only [evV] at hup
            clear hset
            go_wp2_with fail
            go_roundg (T.en k - (i + 1))
            case rel => exact ⟨i + 1, by omega, rfl, by go_num, by rw [Tr.evsTo_succ _ k i hlt hli]; exact HS.out⟩
            case measure => omega
          · have hk2b : (T.kind k i == 2) = false := by simpa using hk2
            by_cases hk3 : T.kind k i = 3
            · obtain ⟨o, hup, hset⟩ := run_update_int HI5.out.m2 (T.msg k i) (evI (k, i)) (knL_new3 HV.out hlt hli hk3)
              have HS := Lib.hid (HI5.out.put3 (x := ⟨(k, i), hlt, hli⟩) hk3 hset)
              simp only [evV] at hup
              clear hset
              go_wp2_with fail
              go_roundg (T.en k - (i + 1))
              case rel => exact ⟨i + 1, by omega, rfl, by go_num, by rw [Tr.evsTo_succ _ k i hlt hli]; exact HS.out⟩
              case measure => omega
            · have hk3b : (T.kind k i == 3) = false := by simpa using hk3
              have HS := Lib.hid (HI5.out.skip (x := ⟨(k, i), hlt, hli⟩) hk2 hk3)
              go_wp2_with fail
              go_roundg (T.en k - (i + 1))
              case rel => exact ⟨i + 1, by omega, rfl, by go_num, by rw [Tr.evsTo_succ _ k i hlt hli]; exact HS.out⟩
              case measure => omega
        · have hie : i = T.en k := by omega
          subst hie
          go_wp2_with fail
          go_roundg (T.n - (k + 1))
          case rel => exact ⟨k + 1, by omega, rfl, by go_num, by rw [← Tr.evsTo_next]; exact HI.out⟩
          case measure => omega
    · have hke : k = T.n := by omega
      subst hke
      have HP := Lib.hid (fun (w' : World) (ho : Only (w.heap.size + 1) wr w') => (show KnowPost T w (.returned (T.kn (w.heap.size + 1 + 1) (w.heap.size + 1 + 1 + 1))) w' from
        ⟨Below.trans HI.out.bl (ho.below (by omega)), _, _, rfl, HI.out.m1.same (ho.block _ (by omega)), HI.out.m2.same (ho.block _ (by omega))⟩))
      have G4 := Lib.hid (((HI.out.h1.set 0 (.slice (some ⟨T.b, T.off, none⟩) T.n T.cap)).set 1 (.map (some (w.heap.size + 1 + 1)))).set 2 (.map (some (w.heap.size + 1 + 1 + 1))))
      go_wp2_with fail
      try simp only [Exit.inBlock, Exit.then]
      refine bodyPost_ret (knows_results _ _ _ _ _ _ rfl (G4.out.cell0 0) (G4.out.cell0 1) (G4.out.cell0 2)) rfl ?_
      rw [← pa]
      exact HP.out _ (((Only.set _ _ _ _).trans (Only.set _ _ _ _)).trans (Only.set _ _ _ _))

end Go.Proofs.Ytecgigeeolindaa
