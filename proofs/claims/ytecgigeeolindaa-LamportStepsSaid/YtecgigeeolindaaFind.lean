/- Contracts: trace.find, trace.Sender. -/
import Derived.Test.YtecgigeeolindaaFault
namespace Go.Proofs.Ytecgigeeolindaa
open Go.RowKit Go.Shelf
attribute [local go_sem] Oper.semAt_some

def Tr.Hit (T : Tr) (kind m : Int) (x : T.Id) : Prop := T.kind x.1.1 x.1.2 = kind ∧ T.msg x.1.1 x.1.2 = m
def Tr.FindIs (T : Tr) (kind m p q : Int) (b : Bool) : Prop :=
  (∃ x : T.Id, T.Hit kind m x ∧ p = x.1.1 ∧ q = x.1.2 + 1 ∧ b = true) ∨ ((∀ x : T.Id, ¬ T.Hit kind m x) ∧ p = 0 ∧ q = 0 ∧ b = false)
def FindPost (T : TM) (kind m : Int) (w : World) (e : Ending) (w' : World) : Prop := Ext w w' ∧ ∃ (p q : Int) (b : Bool), e = .returned (.tuple #[.agg #[.int .i64 p, .int .i64 q], .bool b]) ∧ T.toTr.FindIs kind m p q b
structure FinI (T : TM) (kind m : Int) (w : World) (pre : List T.toTr.Id) (W : World) : Prop where
  h1 : Hold W (w.heap.size + 1) #[.int .i64 kind]
  h2 : Hold W (w.heap.size + 1 + 1) #[.int .i64 m]
  h3 : Hold W (w.heap.size + 1 + 1 + 1) #[.int .i64 0, .int .i64 0]
  h4 : Hold W (w.heap.size + 1 + 1 + 1 + 1) #[.bool false]
  bl : Below w.heap.size w W
  ok : ∀ x, x ∈ pre → ¬ T.toTr.Hit kind m x
structure FinX (T : TM) (kind m : Int) (w : World) (pre : List T.toTr.Id) (W : World) : Prop where
  res : ∃ x : T.toTr.Id, T.toTr.Hit kind m x ∧ Hold W (w.heap.size + 1 + 1 + 1) #[.int .i64 x.1.1, .int .i64 (x.1.2 + 1)] ∧ Hold W (w.heap.size + 1 + 1 + 1 + 1) #[.bool true]
  bl : Below w.heap.size w W
theorem FinI.own (T : TM) (kind m : Int) (w w0 : World) (h : w.heap.size ≤ w0.heap.size) : OwnFrom w0.heap.size (FinI T kind m w) := by
  intro s W W' row hi hg hr
  exact ⟨Hold.own _ _ (fun _ => _) s W W' row hi.h1 hg hr, Hold.own _ _ (fun _ => _) s W W' row hi.h2 hg hr, Hold.own _ _ (fun _ => _) s W W' row hi.h3 hg hr, Hold.own _ _ (fun _ => _) s W W' row hi.h4 hg hr, ownFrom_below (Nat.le_refl _) h s W W' row hi.bl hg hr, hi.ok⟩
theorem FinX.own (T : TM) (kind m : Int) (w w0 : World) (h : w.heap.size ≤ w0.heap.size) : OwnFrom w0.heap.size (FinX T kind m w) := by
  intro s W W' row ⟨⟨x, hx, a, b⟩, hb⟩ hg hr
  exact ⟨⟨x, hx, Hold.own _ _ (fun _ => _) s W W' row a hg hr, Hold.own _ _ (fun _ => _) s W W' row b hg hr⟩, ownFrom_below (Nat.le_refl _) h s W W' row hb hg hr⟩
theorem FinI.ext {T : TM} {kind m : Int} {w : World} {pre : List T.toTr.Id} {W W' : World} (h : FinI T kind m w pre W) (x : Ext W W') : FinI T kind m w pre W' :=
  ⟨h.h1.ext x, h.h2.ext x, h.h3.ext x, h.h4.ext x, h.bl.trans (Below.mono x h.bl.size), h.ok⟩
structure FinA (T : TM) (w : World) (x : T.toTr.Id) (bx : Nat) (W : World) : Prop where
  hx : Hold W bx #[.int .i64 x.1.1, .int .i64 (x.1.2 + 1)]
  hy : Hold W (bx + 1) (T.evc x.1.1 x.1.2)
  lt : w.heap.size + 1 + 1 + 1 + 1 < bx
theorem FinA.new {T : TM} {kind m : Int} {w : World} {pre : List T.toTr.Id} {W : World} (h : FinI T kind m w pre W) {x : T.toTr.Id} {t u : TypeId} :
    FinA T w x W.heap.size ((W.alloc (.cells #[.int .i64 x.1.1, .int .i64 (x.1.2 + 1)] t)).alloc (.cells (T.evc x.1.1 x.1.2) u)) := by
  refine ⟨Hold.ext (W := W.alloc (.cells #[.int .i64 x.1.1, .int .i64 (x.1.2 + 1)] t)) (Hold.new _ _ _) (Ext.alloc _ _), ⟨u, ?_⟩, h.h4.lt⟩
  show ((W.heap.push _).push _)[W.heap.size + 1]? = _
  rw [Array.getElem?_push, if_pos (by simp)]
theorem fin_results (tmps : Array Value) (W : World) (b2 b3 : Nat) (x y z : Value) (t2 : tmps[6]? = some (.pointer (some ⟨b2, 0, none⟩))) (t3 : tmps[7]? = some (.pointer (some ⟨b3, 0, none⟩)))
    (c2 : W.cell? ⟨b2, 0, none⟩ = some x) (c2' : W.cell? ⟨b2, 1, none⟩ = some y) (c3 : W.cell? ⟨b3, 0, none⟩ = some z) :
    (results Try.f59 tmps).run Try.prog W = .ok (.tuple #[.agg #[x, y], z]) W := by
  simp [results, Try.results59, go_sem, t2, t3, c2, c2', c3]
/-- the results are laid -/
theorem fin_set {w W : World} (h1 : Hold W (w.heap.size + 1 + 1 + 1) #[.int .i64 0, .int .i64 0]) (h2 : Hold W (w.heap.size + 1 + 1 + 1 + 1) #[.bool false]) (bl : Below w.heap.size w W) (p q : Int) (c : Bool) :
    ∀ W9, W9 = ((W.setCell ⟨w.heap.size + 1 + 1 + 1, 0, none⟩ (.int .i64 p)).setCell ⟨w.heap.size + 1 + 1 + 1, 1, none⟩ (.int .i64 q)).setCell ⟨w.heap.size + 1 + 1 + 1 + 1, 0, none⟩ (.bool c) →
    Hold W9 (w.heap.size + 1 + 1 + 1) #[.int .i64 p, .int .i64 q] ∧ Hold W9 (w.heap.size + 1 + 1 + 1 + 1) #[.bool c] ∧ Below w.heap.size w W9 ∧ (∀ B, KeepsFrom B W W9) ∧ (∀ D, w.heap.size + 5 ≤ D → W9.heap[D]? = W.heap[D]?) := by
  rintro W9 rfl
  refine ⟨?_, ?_, ?_, fun B => ((keeps_set _ _ _ _).trans (keeps_set _ _ _ _)).trans (keeps_set _ _ _ _), fun D hD => ?_⟩
  · have a2 := (h1.set 0 (.int .i64 p)).set 1 (.int .i64 q)
    simp only [List.setIfInBounds_toArray, List.set_cons_zero, List.set_cons_succ] at a2
    exact a2.other _ _ (by dsimp only; omega)
  · have a1 := (h2.other ⟨w.heap.size + 1 + 1 + 1, 0, none⟩ (.int .i64 p) (by dsimp only; omega)).other ⟨w.heap.size + 1 + 1 + 1, 1, none⟩ (.int .i64 q) (by dsimp only; omega)
    have a2 := a1.set 0 (.bool c)
    simp only [List.setIfInBounds_toArray, List.set_cons_zero] at a2
    exact a2
  · exact ((bl.setCell (by dsimp only; omega) _).setCell (by dsimp only; omega) _).setCell (by dsimp only; omega) _
  · rw [Below.heap_setCell _ _ _ _ (by dsimp only; omega), Below.heap_setCell _ _ _ _ (by dsimp only; omega), Below.heap_setCell _ _ _ _ (by dsimp only; omega)]

set_option maxRecDepth 100000 in
set_option maxHeartbeats 8000000 in
theorem find_any (w : World) (T : TM) (hT : T.At w) (hV : T.toTr.Valid) (kind m : Int) :
    Calls Try.prog 59 #[T.val, .int .i64 kind, .int .i64 m] w (FindPost T kind m w) := by
  refine (callsIn_wide (n := 4)).1 ?_
  have HT := Lib.hid hT
  have HV := Lib.hid hV
  clear hT hV
  refine callsIn_of_wp_marks Try.func59 rfl trivial ?_ rfl
  simp only [Try.ntmps59, List.size_toArray, List.length_cons, List.length_nil, Nat.reduceAdd, Nat.reduceSub, Array.replicate_succ, Array.replicate_zero, List.push_toArray, List.append_toArray, List.nil_append, List.cons_append]
  gi_upto_region 1 with fail
  refine boxed5 (w := w) (G := fun x => Code.wpIn _ _ _ _ _ _ x) ?_
  intro w1 hx1 hs1 ⟨l0, c0, _, k0⟩ ⟨l1, c1, _, k1⟩ ⟨l2, c2, _, k2⟩ ⟨l3, c3, _, k3⟩ ⟨l4, c4, _, k4⟩
  have hx11 : Ext w1 w1 := Ext.refl _
  have HS := Lib.hid hs1
  clear hs1
  have hVa : Calls Try.prog 37 #[T.val] w1 fun e w' => e = .returned (.bool true) ∧ Ext w1 w' := (valid_any w1 T (HT.out.ext hx1)).mono fun e w' ⟨b, he, hb, hx⟩ => ⟨by rw [he, hb.2 HV.out], hx⟩
  have hev := fun W => events_any T W
  have HEV := Lib.hid hev
  clear hev
  gi_wp2_with (first | (refine ⟨trivial, ?_⟩; gi_at_call 37; refine (CallsIn.mono (callsIn_wide.2 hVa) ?_); rintro e wv ⟨rfl, hxv⟩; clear hVa) | (refine ⟨trivial, ?_⟩; gi_at_call 74; refine (CallsIn.mono (callsIn_wide.2 (HEV.out wv)) ?_); rintro e w' ⟨rfl, rfl⟩))
  clear hx11 c0 c1 c2 c3 c4
  obtain ⟨w2, hw2⟩ : ∃ w2, w2 = wv.alloc (.cells #[.slice T.a T.n T.cap] 29) := ⟨_, rfl⟩
  rw [← hw2]
  have hx12 : Ext w1 w2 := by rw [hw2]; exact hxv.alloc' _
  have hbn : w2.cell? ⟨wv.heap.size, 0, none⟩ = some (.slice T.a T.n T.cap) := by rw [hw2]; simp
  have hsz : w.heap.size + 5 ≤ w2.heap.size := by rw [hw2]; simp; have := HS.out; have := hxv.le; omega
  clear hw2 HS
  have HSZ := Lib.hid hsz
  clear hsz
  refine wpIn_rangeFunc_ownH rfl (by omega) (gf := 86) (lb := #[.pointer (some ⟨wv.heap.size, 0, none⟩)]) rfl trivial (enters_of Try.func86 (by kernel_rfl) rfl)
    (events_stops 3 (by omega) wv.heap.size T w w2 HT.out (hx1.trans hx12) hbn) belowK_t (belowK_b (by have := HSZ.out; omega)) (Below.refl _ _) (fun _ => rfl)
    (FinI T kind m w) (fun c pre W => c = .ret ∧ FinX T kind m w pre W) (FinI.own T kind m w w2 (by have := HSZ.out; omega)) (fun c => OwnFrom.and (ownFrom_pure _ (fun _ => c = .ret)) (FinX.own T kind m w w2 (by have := HSZ.out; omega)))
    ⟨Hold.ext k1 hx12, Hold.ext k2 hx12, Hold.ext k3 hx12, Hold.ext k4 hx12, hx1.trans hx12, fun x h => by cases h⟩
    (fun x a' W => ∃ bx, FinA T w x bx W ∧ a' = { tmps := #[T.val, .int .i64 kind, .int .i64 m, .pointer (some ⟨w.heap.size, 0, none⟩), .pointer (some ⟨w.heap.size + 1, 0, none⟩), .pointer (some ⟨w.heap.size + 1 + 1, 0, none⟩), .pointer (some ⟨w.heap.size + 1 + 1 + 1, 0, none⟩), .pointer (some ⟨w.heap.size + 1 + 1 + 1 + 1, 0, none⟩), .pointer (some ⟨bx, 0, none⟩), .pointer (some ⟨bx + 1, 0, none⟩), .agg #[.slice T.a T.n T.cap], .bool true, .bool false, undef, .agg #[.slice T.a T.n T.cap], .func (.func 86) #[] #[.pointer (some ⟨wv.heap.size, 0, none⟩)], .agg #[.int .i64 x.1.1, .int .i64 (x.1.2 + 1)], T.ev x.1.1 x.1.2, undef, undef, undef, undef, undef, undef, undef, undef, undef, undef, undef, undef], defers := [] }) (fun x a' => by
      intro s W W' row ⟨bx, ⟨h1, h2, h3⟩, e⟩ hg hr
      exact ⟨bx, ⟨Hold.own _ _ (fun _ => _) s W W' row h1 hg hr, Hold.own _ _ (fun _ => _) s W W' row h2 hg hr, h3⟩, e⟩) ?assign ?body ?done ?stop
  case assign =>
    rintro l pre x W K hI hK
    gi_wp2
    have hx : Ext W ((W.alloc (.cells #[.int .i64 x.1.1, .int .i64 (x.1.2 + 1)] 31)).alloc (.cells (T.evc x.1.1 x.1.2) 62)) := (Ext.alloc _ _).alloc' _
    exact hK _ _ (hx.keepsFrom _) (Below.mono hx hI.bl.size) (hI.ext hx) ⟨W.heap.size, FinA.new hI, rfl⟩
  case body =>
    rintro l pre x a' W hl ⟨r, hr⟩ hI ⟨bx, hA, rfl⟩ hlt
    obtain ⟨⟨k, i⟩, hk, hi⟩ := x
    have HI := Lib.hid hI
    obtain ⟨h1, h2, h3, h4, bl, ok⟩ := hI
    obtain ⟨x1, d1, f1, _⟩ := h1.box
    obtain ⟨x2, d2, f2, _⟩ := h2.box
    obtain ⟨x3, d3, f3, _⟩ := h3.box
    obtain ⟨x4, d4, f4, _⟩ := h4.box
    obtain ⟨xx, dx, fx, _⟩ := hA.hx.box
    obtain ⟨xy, dy, fy, _⟩ := hA.hy.box
    have hWW : Ext W W := Ext.refl _
    dsimp only at d1 d2 d3 d4 dx dy
    have HR := Lib.hid (fin_set h3 h4 bl k (i + 1) true _ rfl)
    clear l0 l1 l2 l3 l4 k0 k1 k2 k3 k4 hbn h1 h2 h3 h4 ok hA
    by_cases e1 : T.kind k i = kind
    · by_cases e2 : T.msg k i = m
      · have HH := Lib.hid (show T.toTr.Hit kind m ⟨(k, i), hk, hi⟩ from ⟨e1, e2⟩)
        gi_wp2
        exact ⟨HR.out.2.2.2.1 _, rfl, ⟨⟨(k, i), hk, hi⟩, HH.out, HR.out.1, HR.out.2.1⟩, HR.out.2.2.1⟩
      · have HH := Lib.hid (show ¬ T.toTr.Hit kind m ⟨(k, i), hk, hi⟩ from fun h => e2 h.2)
        have e2b : (T.msg k i == m) = false := by simpa using e2
        gi_wp2
        exact ⟨KeepsFrom.refl _ _, Below.refl _ _, ⟨HI.out.h1, HI.out.h2, HI.out.h3, HI.out.h4, HI.out.bl, fun z hz => by
          rcases List.mem_append.1 hz with hz | hz
          · exact HI.out.ok z hz
          · simp at hz; subst hz; exact HH.out⟩⟩
    · have HH := Lib.hid (show ¬ T.toTr.Hit kind m ⟨(k, i), hk, hi⟩ from fun h => e1 h.1)
      have e1b : (T.kind k i == kind) = false := by simpa using e1
      gi_wp2
      exact ⟨KeepsFrom.refl _ _, Below.refl _ _, ⟨HI.out.h1, HI.out.h2, HI.out.h3, HI.out.h4, HI.out.bl, fun z hz => by
        rcases List.mem_append.1 hz with hz | hz
        · exact HI.out.ok z hz
        · simp at hz; subst hz; exact HH.out⟩⟩
  case done =>
    rintro D xs W hD rfl hI hK
    obtain ⟨h1, h2, h3, h4, bl, ok⟩ := hI
    obtain ⟨_, d3, f3, _⟩ := h3.box
    obtain ⟨_, d4, f4, _⟩ := h4.box
    have hWW : Ext W W := Ext.refl _
    have hD' : w.heap.size + 5 ≤ D := by have := HSZ.out; omega
    have HR := Lib.hid (fin_set h3 h4 bl 0 0 false _ rfl)
    clear l0 l1 l2 l3 l4 k0 k1 k2 k3 k4
    gi_wp2
    have hK9 := (HR.out.2.2.2.2 D hD').trans hK
    refine ⟨by simp, .inl ⟨_, _, rfl, run_takeDeferred (ds := []) hK9, ?_⟩⟩
    have g2 := HR.out.1.putObj D (.deferred none) (by omega)
    have g3 := HR.out.2.1.putObj D (.deferred none) (by omega)
    exact ⟨_, fin_results _ _ _ _ _ _ _ rfl rfl (g2.cell0 0) (g2.cell0 1) (g3.cell0 0), HR.out.2.2.1.trans (belowK_b (w := w) (Nat.le_refl _) _ D (.deferred (some [])) _ (by omega) hK9 rfl rfl), 0, 0, false, rfl, .inr ⟨fun x => by
      have hm := evs_mem (T := T.toTr) (x := x.1) x.2
      obtain ⟨y, hy, e⟩ := List.mem_map.1 hm
      rw [show x = y from Subtype.ext e.symm]; exact ok y hy, rfl, rfl, rfl⟩⟩
  case stop =>
    rintro D c pre W hD hpre hX hK
    obtain ⟨rfl, ⟨x, hx, h2, h3⟩, bl⟩ := hX
    have hD' : w.heap.size + 5 ≤ D := by have := HSZ.out; omega
    have g2 := h2.putObj D (.deferred none) (by omega)
    have g3 := h3.putObj D (.deferred none) (by omega)
    have hbl : Ext w (W.putObj D (.deferred none)) := bl.trans (belowK_b (w := w) (Nat.le_refl _) W D (.deferred (some [])) _ (by omega) hK rfl rfl)
    clear l0 l1 l2 l3 l4 k0 k1 k2 k3 k4 h2 h3 hpre
    gi_wp2
    refine ⟨by simp, .inl ⟨_, _, rfl, run_takeDeferred (ds := []) hK, ?_⟩⟩
    exact ⟨_, fin_results _ _ _ _ _ _ _ rfl rfl (g2.cell0 0) (g2.cell0 1) (g3.cell0 0), hbl, _, _, true, rfl, .inl ⟨x, hx, rfl, rfl, rfl⟩⟩

end Go.Proofs.Ytecgigeeolindaa
