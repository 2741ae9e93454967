/- Contract of variable.state: the values of a state that exists. Contract of variable.Value: the value of a variable that is there, in a state that exists. -/
import Derived.Test.YtdplphoohnnbcaaDoorHm
import Derived.Test.YtdplphoohnnbcaaDoorHn
namespace Go.Proofs.YtdplphoohnnbcaaDoor
open Go.RowKit Go.Shelf
attribute [local go_sem] Oper.semAt_some

def StatePost (T : Tr) (p k : Nat) (w : World) (e : Ending) (w' : World) : Prop := Ext w w' ∧ ∃ u, e = .returned u ∧ Que w' w.heap.size 1 u (T.vn p) (intCells (T.stL p k))
structure SvI (w : World) (k b1 b2 : Nat) (D : Nat → Prop) (pre : List StX) (W : World) : Prop where
  bl : Ext w W
  hD : ∀ j, D j ↔ j = b1 ∨ j = b2
  h1 : Hold W b1 #[.int .i64 k]
  h2 : Hold W b2 #[.slice none 0 0]
  no : ∀ x, x ∈ pre → x.1 ≠ k
def SvX (w : World) (T : Tr) (p k b2 : Nat) (c : Code) (_ : List StX) (W : World) : Prop := c = .ret ∧ Ext w W ∧ ∃ u, Hold W b2 #[u] ∧ Que W w.heap.size 1 u (T.vn p) (intCells (T.stL p k))
theorem SvI.dep {w : World} {k b1 b2 : Nat} (h1 : w.heap.size ≤ b1) (h2 : w.heap.size ≤ b2) : Dep w.heap.size (SvI w k b1 b2) := by
  refine ⟨fun D pre W h j hj => ?_, fun D pre W W' h hb hs => ⟨Below.trans h.bl hb, h.hD, ?_, ?_, h.no⟩⟩
  · rcases (h.hD j).1 hj with rfl | rfl
    · exact ⟨h1, h.h1.lt⟩
    · exact ⟨h2, h.h2.lt⟩
  · obtain ⟨t, ht⟩ := h.h1; exact ⟨t, (hs b1 ((h.hD b1).2 (.inl rfl))).trans ht⟩
  · obtain ⟨t, ht⟩ := h.h2; exact ⟨t, (hs b2 ((h.hD b2).2 (.inr rfl))).trans ht⟩
theorem state_results (tmps : Array Value) (W : World) (b : Nat) (x : Value) (t4 : tmps[4]? = some (.pointer (some ⟨b, 0, none⟩))) (c : W.cell? ⟨b, 0, none⟩ = some x) :
    (results Tryd.f42 tmps).run Tryd.prog W = .ok x W := by
  simp [results, Tryd.results42, go_sem, t4, c]
theorem SvX.put {w : World} {T : Tr} {p k b2 : Nat} {c : Code} {pre : List StX} {W : World} {l : Nat} {o : Obj} (o' : Obj) (h : SvX w T p k b2 c pre W) (hl : w.heap.size ≤ l) (ho : W.heap[l]? = some o) (hc : o.isCells = false) : SvX w T p k b2 c pre (W.putObj l o') := by
  obtain ⟨rfl, bl, u, h2, hq⟩ := h
  refine ⟨rfl, Below.trans bl (below_put _ hl), u, ?_, hq.put o' ho hc⟩
  obtain ⟨t, ht⟩ := h2
  refine ⟨t, (put_other fun e => ?_).trans ht⟩
  rw [e, ho] at ht
  cases ht
  simp [Obj.isCells] at hc
/-- the answer is laid -/
theorem SvX.mk' {w : World} {T : Tr} {p k b1 b2 : Nat} {D : Nat → Prop} {pre : List StX} {W : World} {xv : Value} (hI : SvI w k b1 b2 D pre W) (hq : Que W w.heap.size 1 xv (T.vn p) (intCells (T.stL p k))) (h0 : 0 < T.vn p) (hb : w.heap.size ≤ b2) :
    ∀ W3, W3 = W.setCell ⟨b2, 0, none⟩ xv → Below w.heap.size W W3 ∧ Others D W W3 ∧ SvX w T p k b2 .ret (pre ++ [(k, xv)]) W3 := by
  rintro W3 rfl
  have hbl : Below w.heap.size W (W.setCell ⟨b2, 0, none⟩ xv) := (Below.refl _ _).setCell hb _
  have hne : ∀ g, xv.ownBlock = some g → g ≠ b2 := fun g hg e => by
    subst e
    obtain ⟨g', off, cap, rfl, _, _, _, hc⟩ := hq.shape h0
    cases hg
    have h3 := hc 0 (by omega)
    have h4 := hI.h2.cell0 (off + 0)
    rw [h4] at h3
    have h5 : (intCells (T.stL p k))[0]? = some (.int .i64 ((T.stL p k).getD 0 0)) := by
      have hl := hq.len
      unfold intCells at hl ⊢
      rw [List.length_map] at hl
      rw [List.getElem?_map, List.getD_eq_getElem?_getD, List.getElem?_eq_getElem (by omega)]; rfl
    rw [h5] at h3
    match off, h3 with
    | 0, h3 => simp at h3
    | n + 1, h3 => simp at h3
  refine ⟨hbl, fun j hj hd => Below.heap_setCell _ _ _ _ (fun e => hd ((hI.hD j).2 (.inr e))), rfl, Below.trans hI.bl hbl, xv, hI.h2.set 0 xv, ?_⟩
  exact hq.same' (by rw [World.size_setCell]; exact Nat.le_refl _) fun g e => Below.heap_setCell _ _ _ _ (hne g e)
set_option maxRecDepth 100000 in
set_option maxHeartbeats 8000000 in
theorem state_any (w : World) (T : TM) (hT : T.At w) (hV : T.toTr.Valid) (p : Nat) (hp : p < T.n) (h0 : 0 < T.vn p) (k : Nat) (hk : k ≤ T.en p) :
    Calls Tryd.prog 42 #[T.pr p, .int .i64 k] w (StatePost T.toTr p k w) := by
  refine (callsIn_wide (n := 4)).1 ?_
  have HT := Lib.hid hT
  have HV := Lib.hid hV
  clear hT hV
  refine callsIn_of_wp_marks Tryd.func42 rfl trivial ?_ rfl
  simp only [Tryd.ntmps42, List.size_toArray, List.length_cons, List.length_nil, Nat.reduceAdd, Nat.reduceSub, Array.replicate_succ, Array.replicate_zero, List.push_toArray, List.append_toArray, List.nil_append, List.cons_append]
  gi_upto_region 1 with fail
  refine boxed3 (w := w) (G := fun x => Code.wpIn _ _ _ _ _ _ x) ?_
  intro w1 hx1 hs1 ⟨l0, c0, _, k0⟩ ⟨l1, c1, f1, k1⟩ ⟨l2, c2, f2, k2⟩
  have hx11 : Ext w1 w1 := Ext.refl _
  have HS := Lib.hid hs1
  have HK1 := Lib.hid k1
  have HK2 := Lib.hid k2
  clear hs1 k0 k1 k2
  gi_wp2_with fail
  refine ⟨trivial, ?_⟩
  gi_at_call 67
  refine CallsIn.mono (callsIn_wide.2 (states_any T p w1)) ?_
  rintro e w2 ⟨rfl, t2, hw2⟩
  have hx2 : Ext w1 w2 := by rw [hw2]; exact Ext.alloc _ _
  have hb2 : Hold w2 w1.heap.size (T.prc p) := by rw [hw2]; exact Hold.new _ _ _
  have hx12 : Ext w w2 := hx1.trans hx2
  have hI0 : SvI w k (w.heap.size + 1) (w.heap.size + 1 + 1) (fun j => j = w.heap.size + 1 ∨ j = w.heap.size + 1 + 1) [] w2 :=
    ⟨hx12, fun _ => Iff.rfl, Hold.ext HK1.out hx2, Hold.ext HK2.out hx2, fun x h => by cases h⟩
  clear hw2 c0 c1 c2 f1 f2 l0 l1 l2
  gi_wp2_with fail
  refine wpIn_rangeD rfl (by omega) (gf := 90) (lb := #[.pointer (some ⟨w1.heap.size, 0, none⟩)]) rfl trivial (enters_of Tryd.func90 (by kernel_rfl) rfl)
    (states_seq 3 (by omega) w T HT.out HV.out p hp w2 hx12 w1.heap.size hb2) (Ext.refl _) hx12.le hb2.lt (fun _ => rfl)
    (SvI w k (w.heap.size + 1) (w.heap.size + 1 + 1)) (SvX w T.toTr p k (w.heap.size + 1 + 1)) (fun j => j = w.heap.size + 1 ∨ j = w.heap.size + 1 + 1)
    (fun h => by have := HS.out; omega)
    (SvI.dep (by omega) (by omega)) (fun c xs W l o o' h hl ho hc => h.put o' (by have := hx12.le; omega) ho hc) hI0
    (fun x a' W => StE T.toTr p w.heap.size x W ∧ a' = { tmps := #[T.pr p, .int .i64 k, .pointer (some ⟨w.heap.size, 0, none⟩), .pointer (some ⟨w.heap.size + 1, 0, none⟩), .pointer (some ⟨w.heap.size + 1 + 1, 0, none⟩), .int .i64 x.1, x.2, T.pr p, .func (.func 90) #[] #[.pointer (some ⟨w1.heap.size, 0, none⟩)], .int .i64 x.1, x.2, undef, undef, undef, undef], defers := [] })
    (fun x a' W l o o' ⟨hE, e⟩ _ ho hc => ⟨⟨hE.1, hE.2.put o' ho hc⟩, e⟩) ?assign ?body ?done ?stop
  case assign =>
    rintro l D pre x W K hI hE hK
    gi_wp2
    exact hK _ _ (Ext.refl _) ⟨hE, rfl⟩
  case body =>
    rintro l D pre ⟨xk, xv⟩ a' W hI ⟨⟨hE1, hE2⟩, rfl⟩ hlt
    dsimp only at hE1 hE2
    have HI := Lib.hid hI
    have c1 := hI.h1.cell0 0
    obtain ⟨l2, c2, f2, _⟩ := hI.h2.box
    simp only [List.getElem?_toArray, List.getElem?_cons_zero] at c1
    have hlt0 := hI.h1.lt
    have hWW : Ext W W := Ext.refl _
    by_cases e : xk = k
    · subst e
      obtain ⟨g, off, cap, rfl, _⟩ := hE2.shape (by omega)
      have HP := Lib.hid (SvX.mk' hI hE2 h0 (by omega))
      clear hI hE1 hE2 hI0
      gi_wp2
      exact HP.out _ rfl
    · have e1 : ((xk : Int) == (k : Int)) = false := by simp; omega
      have e2 : decide ((xk : Int) = (k : Int)) = false := decide_eq_false (by omega)
      have HE := Lib.hid e
      clear hI hE1 hE2 hI0 e
      gi_wp2
      exact ⟨Below.refl _ _, fun _ _ _ => rfl, D, ⟨HI.out.bl, HI.out.hD, HI.out.h1, HI.out.h2, fun z hz => by
        rcases List.mem_append.1 hz with hz | hz
        · exact HI.out.no z hz
        · simp at hz; subst hz; exact HE.out⟩, fun _ h => .inl h⟩
  case done =>
    rintro D D' xs W hD hS hI hnD hK
    have hm : k ∈ xs.map Prod.fst := by
      have hS : xs.map Prod.fst = List.range (T.en p + 1) := hS
      rw [hS]; exact List.mem_range.2 (by omega)
    obtain ⟨x, hx, e⟩ := List.mem_map.1 hm
    exact absurd e (hI.no x hx)
  case stop =>
    rintro D c pre W hD hpre ⟨rfl, bl, u, h2, hq⟩ hK
    have hbl : Ext w (W.putObj D (.deferred none)) := Below.trans bl (below_put _ (by have := hx12.le; omega))
    have hq' := hq.put (.deferred none) hK rfl
    have HQ := Lib.hid hq'
    have h2' : Hold (W.putObj D (.deferred none)) (w.heap.size + 1 + 1) #[u] := by
      obtain ⟨t, ht⟩ := h2
      refine ⟨t, (put_other fun e => ?_).trans ht⟩
      rw [e, hK] at ht; cases ht
    clear hI0 hpre h2 hq hq'
    gi_wp2
    refine ⟨by simp, .inl ⟨_, _, rfl, run_takeDeferred (ds := []) hK, ?_⟩⟩
    exact ⟨_, state_results _ _ _ _ rfl (h2'.cell0 0), hbl, u, rfl, HQ.out⟩

end Go.Proofs.YtdplphoohnnbcaaDoor

namespace Go.Proofs.YtdplphoohnnbcaaDoor
open Go.RowKit Go.Shelf

set_option maxRecDepth 100000 in
set_option maxHeartbeats 1000000 in
theorem value_yes (w : World) (T : TM) (hT : T.At w) (hV : T.toTr.Valid) (k : Nat) (hk : k < T.n) (nm : ByteArray) (v : Nat) (hv : v < T.vn k) (hvi : T.toTr.varI k nm = v) (s : Nat) (hs : s ≤ T.en k) :
    Calls Tryd.prog 19 #[T.val, .int .i64 k, .string nm, .int .i64 s] w fun e w' => e = .returned (.tuple #[.int .i64 (T.st k v s), .int .i64 0]) ∧ Ext w w' := by
  have HT := Lib.hid hT
  have HV := Lib.hid hV
  have hen := hV.en64 hk
  have hn8 := hV.n8
  have hF : ∀ W, Ext w W → Calls Tryd.prog 41 #[T.val, .int .i64 k, .string nm] W fun e w' => e = .returned (.tuple #[.int .i64 v, .int .i64 0]) ∧ Ext W w' := fun W h => (vfind_any W T (HT.out.ext h) k nm).mono fun e w' ⟨hx, x, c, he, hc⟩ => by
    rcases hc with ⟨h, _⟩ | ⟨_, h, _⟩ | ⟨_, _, _, h, _⟩ | ⟨_, _, _, v', _, _, h, rfl, rfl⟩
    · exact absurd HV.out h
    · exact absurd ⟨by omega, by omega⟩ h
    · rw [Int.toNat_natCast, hvi] at h; omega
    · rw [Int.toNat_natCast, hvi] at h
      exact ⟨by rw [he, h], hx⟩
  clear hT hV hvi
  obtain ⟨ta, hta⟩ : ∃ a, a = T.a := ⟨_, rfl⟩
  simp only [TM.val] at hF ⊢
  rw [← hta] at hF ⊢
  have HF := Lib.hid hF
  obtain rfl : ta = some ⟨T.b, T.off, none⟩ := by rw [hta]; exact HT.out.P.pa (by omega)
  have pb := HT.out.P.pb (by omega)
  have p0 : ∀ w', Ext w w' → w'.cell? ⟨T.b, T.off + k * 3, none⟩ = some (.string (T.name k)) := fun w' h => HT.out.P.p0 w' h k hk
  have p1 : ∀ w', Ext w w' → w'.cell? ⟨T.b, T.off + k * 3 + 1, none⟩ = some (.slice (T.va k) (T.vn k) (T.vc k)) := fun w' h => HT.out.P.p1 w' h k hk
  have p2 : ∀ w', Ext w w' → w'.cell? ⟨T.b, T.off + k * 3 + 2, none⟩ = some (.slice (T.ea k) (T.en k) (T.ec k)) := fun w' h => HT.out.P.p2 w' h k hk
  have hk' : (k : Int) < (T.n : Int) := by omega
  have d1 : decide ((T.en k : Int) < (s : Int)) = false := decide_eq_false (by omega)
  have d2 : decide (T.en k < s) = false := decide_eq_false (by omega)
  clear hF hta
  go_enter Tryd.func19, Tryd.ntmps19
  go_upto_region 1 with fail
  refine boxed1 (w := w) (G := fun x => Code.wp _ _ _ _ x) ?_
  intro w1 hx1 hs1 ⟨l0, c0, _, _⟩
  have hx11 : Ext w1 w1 := Ext.refl _
  clear hs1
  go_wp2_with fail
  go_at_call 41
  refine (HF.out w1 hx1).mono ?_
  rintro e w2 ⟨rfl, hx2⟩
  have hx02 := hx1.trans hx2
  have hst := state_any w2 T (HT.out.ext hx02) HV.out k hk (by omega) s hs
  go_wp2_with fail
  go_at_call 42
  refine hst.mono ?_
  rintro e w3 ⟨hx3, u, rfl, hq⟩
  have hx03 := hx02.trans hx3
  obtain ⟨g, off, cap, rfl, _, hgl, _, hcell⟩ := hq.shape (by omega)
  have hcv : w3.cell? ⟨g, off + v, none⟩ = some (.int .i64 (T.st k v s)) := by
    rw [hcell v (by omega)]
    unfold intCells
    rw [List.getElem?_map, T.toTr.stL_get k s v hv]; rfl
  have hv' : (v : Int) < (T.vn k : Int) := by omega
  have hvn := HV.out.vn8 hk
  clear hcell hq hst p0 p1 p2 pb
  go_wp2_with fail
  go_ret2
  exact ⟨rfl, hx03⟩

end Go.Proofs.YtdplphoohnnbcaaDoor
