/- Contract: causality's known.past. -/
import Derived.Test.YtecgigeeolindaaPastP
import Derived.Test.YtecgigeeolindaaLngY
namespace Go.Proofs.Ytecgigeeolindaa
open Go.RowKit Go.Shelf

/-- n counts lie in block g -/
structure CRow (w : World) (g n : Nat) (c : Nat → Nat) : Prop where
  c : ∀ k, k < n → w.cell? ⟨g, k, none⟩ = some (.int .i64 (c k))
  fr : ∀ o, w.frozen? ⟨g, o, none⟩ = false
  lt : g < w.heap.size
theorem CRow.block {w w' : World} {g n : Nat} {c : Nat → Nat} (h : CRow w g n c) (hs : w.heap.size ≤ w'.heap.size) (x : w'.heap[g]? = w.heap[g]?) : CRow w' g n c :=
  ⟨fun k hk => (World.cell?_of_block (w := w) (a := ⟨g, k, none⟩) x).trans (h.c k hk), fun o => (World.frozen?_of_block (w := w) (a := ⟨g, o, none⟩) x).trans (h.fr o), Nat.lt_of_lt_of_le h.lt hs⟩
theorem CRow.ext {w w' : World} {g n : Nat} {c : Nat → Nat} (h : CRow w g n c) (x : Ext w w') : CRow w' g n c := h.block x.le (x.block g h.lt)
theorem CRow.made {w : World} {base g n : Nat} (h : w.ownsRow base 3 1 (.slice (some ⟨g, 0, none⟩) n n) n (madeCells (Value.int .i64 0).cells (n * 1)).toList) : CRow w g n (fun _ => 0) := by
  obtain ⟨h1, ⟨hv, _⟩ | ⟨g', cap, cur, hv, hg, hh, hc, hm, hs, ht⟩⟩ := h
  · cases hv
  · simp only [Value.slice.injEq, Option.some.injEq, Addr.mk.injEq] at hv
    obtain ⟨⟨rfl, _⟩, _, rfl⟩ := hv
    have hb := Box.of hh
    have hz : (Value.int .i64 0).cells = #[.int .i64 0] := rfl
    rw [hz, toList_madeCells_one] at ht
    refine ⟨fun k hk => ?_, fun o => hb.frozen w (Ext.refl _) o, hb.lt w (Ext.refl _)⟩
    rw [hb.cell w (Ext.refl _)]
    have : cur[k]? = (List.replicate (n * 1) (Value.int .i64 0))[k]? := by rw [← ht, List.getElem?_take_of_lt (by omega)]; simp
    rw [this, List.getElem?_replicate, if_pos (by omega)]; rfl
theorem CRow.set {w : World} {g n : Nat} {c : Nat → Nat} (h : CRow w g n c) (q v : Nat) (hq : q < n) : CRow (w.setCell ⟨g, q, none⟩ (.int .i64 v)) g n (updC c q v) := by
  refine ⟨fun k hk => ?_, fun o => ?_, by rw [World.size_setCell]; exact h.lt⟩
  · unfold updC
    by_cases e : k = q
    · subst e
      rw [if_pos rfl]; exact World.cell?_setCell_same _ _ _ (h.c k hk)
    · rw [if_neg e]; refine Eq.trans ?_ (h.c k hk); apply World.cell?_setCell_other; intro h9; simp only [Addr.mk.injEq] at h9; exact e h9.2.1.symm
  · rw [frozen_set]; exact h.fr o
theorem evCells_append (a b : List (Int × Int)) : evCells (a ++ b) = evCells a ++ evCells b := by simp [evCells]
theorem evCells_one (l : List (Int × Int)) : ∀ u ∈ evCells l, u.oneCell' = true := by
  intro u hu
  simp only [evCells, List.mem_flatMap] at hu
  obtain ⟨x, _, hx⟩ := hu
  simp at hx
  rcases hx with rfl | rfl <;> rfl
/-- the search in memory: counts in block w.heap.size + 2, the queue behind it -/
structure PaW (T : TM) (bs br : Nat) (w : World) (c : Nat → Nat) (q : List NN) (v : Value) (wr : World) : Prop where
  h0 : Hold wr w.heap.size #[.slice (some ⟨T.b, T.off, none⟩) T.n T.cap, .map (some bs), .map (some br)]
  cn : CRow wr (w.heap.size + 1 + 1) T.n c
  qu : Que wr (w.heap.size + 1 + 1 + 1) 2 v q.length (evCells (q.map evI))
  bl : Ext w wr
theorem PaW.ext {T : TM} {bs br : Nat} {w wr w' : World} {c : Nat → Nat} {q : List NN} {v : Value} (h : PaW T bs br w c q v wr) (x : Ext wr w') : PaW T bs br w c q v w' :=
  ⟨h.h0.ext x, h.cn.ext x, h.qu.ext x, h.bl.trans x⟩
/-- the queue has grown -/
theorem PaW.grow {T : TM} {bs br : Nat} {w wr w4 w5 : World} {c : Nat → Nat} {q l : List NN} {v v' : Value} (h : PaW T bs br w c q v wr) (x : Ext wr w4)
    (hq : Que w5 (w.heap.size + 1 + 1 + 1) 2 v' (q.length + l.length) (evCells (q.map evI) ++ evCells (l.map evI))) (hg : w4.grownBy w5 v.ownBlock) : PaW T bs br w c (q ++ l) v' w5 := by
  have h4 := h.ext x
  have hb := h4.qu.block
  have hsz : w.heap.size + 1 + 1 < w4.heap.size := h4.cn.lt
  have hbl : ∀ k, k < w.heap.size + 1 + 1 + 1 → w5.heap[k]? = w4.heap[k]? := fun k hk => hg.block k (by omega) (fun e => by have := hb k e.symm; omega)
  refine ⟨?_, h4.cn.block hg.size (hbl _ (by omega)), ?_, ?_⟩
  · obtain ⟨t, h0⟩ := h4.h0
    exact ⟨t, (hbl _ (by omega)).trans h0⟩
  · rw [List.length_append, List.map_append, evCells_append]; exact hq
  · exact Below.trans h4.bl ⟨hg.os, hg.tape, hg.output, hg.size, fun k hk => hbl k (by omega)⟩
/-- a count was set -/
theorem PaW.set {T : TM} {bs br : Nat} {w wr : World} {c : Nat → Nat} {q : List NN} {v : Value} (h : PaW T bs br w c q v wr) {p : Nat} (hp : p < T.n) (y : Nat) : PaW T bs br w (updC c p y) q v (wr.setCell ⟨w.heap.size + 1 + 1, p, none⟩ (.int .i64 y)) :=
  ⟨h.h0.other _ _ (by show _ ≠ w.heap.size + 1 + 1; omega), h.cn.set p y hp, h.qu.same (by rw [World.size_setCell]; exact Nat.le_refl _) (fun g hg _ => Below.heap_setCell _ _ _ _ (by show g ≠ w.heap.size + 1 + 1; omega)), h.bl.setCell (by show _ ≤ w.heap.size + 1 + 1; omega) _⟩
def PastPost (T : TM) (x : NN) (w : World) (e : Ending) (w' : World) : Prop := Ext w w' ∧ ∃ g c, e = .returned (.slice (some ⟨g, 0, none⟩) T.n T.n) ∧ w.heap.size ≤ g ∧ CRow w' g T.n c ∧ T.toTr.PastC x c
set_option maxRecDepth 100000 in
set_option maxHeartbeats 2000000 in
theorem past_any (w : World) (T : TM) (hT : T.At w) (hV : T.toTr.Valid) (x : NN) (hx : T.toTr.V x) (bs br : Nat) (hK : KnAt T bs br w) :
    Calls Try.prog 61 #[T.kn bs br, .agg #[.int .i64 x.1, .int .i64 (x.2 + 1)]] w (PastPost T x w) := by
  obtain ⟨i0, hi0, hz0, hz1, hz2⟩ := info_parts infoEv
  obtain ⟨j0, hj0, hy0, hy1, hy2⟩ := info_parts infoInt
  have hn1 := hV.n1
  have hn8 := hV.n8
  have hE8 : ∀ k, k < T.n → T.en k ≤ 64 := fun k hk => (hV.pr k hk).2.2.2.2
  have pa := hT.P.pa (by omega)
  have hB := fun W (hx : Ext w W) p i hp hi => back_any W T (hT.ext hx) hV p i hp hi bs br (hK.ext hx)
  simp only [TM.kn, pa] at hB
  have HB := Lib.hid hB
  clear hT hV hK hB
  go_enter Try.func61, Try.ntmps61
  go_upto_region 1 with fail
  refine boxed2 (w := w) (G := fun x => Code.wp _ _ _ _ x) ?_
  intro w1 hx1 hs1 ⟨l0, c0, _, k0⟩ ⟨l1, c1, _, _⟩
  have hx11 : Ext w1 w1 := Ext.refl _
  go_upto_region 2 with (at_make; refine wpList_make_full _ rfl _ _ 41 rfl w1.heap.size 3 j0 (.int .i64 0) 1 Try.underlying41 hj0 hy0 hy1 .i64 .i64 _ _ T.n rfl rfl rfl rfl (by rw [hy2]; omega) (by unfold maxLen; omega) (Nat.le_refl _) ?_; intro w3 hown3 hg3)
  have hx3 : Ext w1 w3 := (Below.refl _ _).grown hg3 (Nat.le_refl _) (by simp)
  rw [hs1] at hown3
  have hC3 := CRow.made hown3
  have hle3 := hC3.lt
  clear hown3 hg3
  go_upto_region 3 with fail
  refine boxed1t (w := w3) (G := fun x => Code.wp _ _ _ _ x) ?_
  intro w4 hx4 hs4 k4
  obtain ⟨p, i⟩ := x
  dsimp only at hx k4 c1 ⊢
  have HI0 := Lib.hid (PaW.mk (T := T) (bs := bs) (br := br) (w := w) (c := fun _ => 0) (q := [(p, i)]) (v := .slice (some ⟨w3.heap.size, 0, none⟩) 1 1) (wr := w4) (Hold.ext k0 (hx3.trans hx4)) (hC3.ext hx4) (Que.own (evOwn_one k4 hle3)) (hx1.trans (hx3.trans hx4)))
  have HP0 := Lib.hid (Tr.PaI.start (T := T.toTr) (x := (p, i)) hx)
  have HM0 := Lib.hid (show T.toTr.paM (fun _ => 0) [(p, i)] ≤ 2000 by
    have h := tot_small hE8
    have h3 : T.n * 64 ≤ 512 := by omega
    unfold Tr.paM; simp; omega)
  clear k0 k4 hC3 hle3 hs4 hs1 c0 c1 l0 l1 hx11 hx3 hx4 hx1
  generalize Value.slice (some (⟨w3.heap.size, 0, none⟩ : Addr)) 1 1 = v0 at HI0 ⊢
  go_wp2_with fail
  go_loopg [6] (T.toTr.paM (fun _ => 0) [(p, i)]) (fun gg v wr => ∃ (c : Nat → Nat) (q : List NN), gg = T.toTr.paM c q ∧ gg ≤ 2000 ∧ PaW T bs br w c q v wr ∧ T.toTr.PaI (p, i) c q)
  case atStart => exact ⟨_, _, rfl, HM0.out, HI0.out, HP0.out⟩
  case round =>
    obtain ⟨c, q, rfl, hgm, hI, hP⟩ := hrel
    have hxr := hI.bl
    have hrr : Ext wr wr := Ext.refl _
    have HP := Lib.hid hP
    have HI := Lib.hid hI
    have HG := Lib.hid hgm
    cases q with
    | nil =>
      obtain ⟨ao, cp, hv⟩ : ∃ ao cp, u6 = .slice ao 0 cp := by
        rcases hI.qu.val with ⟨ao, h, _⟩ | ⟨g, off, cap, h, _⟩
        · exact ⟨_, _, h⟩
        · exact ⟨_, _, h⟩
      subst hv
      clear hI hP hgm
      go_wp2_with fail
      go_ret
      exact ⟨hxr, _, c, rfl, by omega, HI.out.cn, HP.out.done⟩
    | cons y q =>
      obtain ⟨yp, yi⟩ := y
      obtain ⟨hyp, hyi⟩ : T.toTr.V (yp, yi) := (hP.v _ (by simp)).V hP.hx
      dsimp only at hyp hyi
      have hey := hE8 yp hyp
      obtain ⟨g, off, cap, hv, hgb, hgl, hcp, hcm, hcell, htail⟩ := Que.tail (n := q.length) hI.qu
      subst hv
      have q0 : ∀ w', Ext wr w' → w'.cell? ⟨g, off, none⟩ = some (.int .i64 yp) := fun w' h => h.cell ((hcell 0 (by omega)).trans rfl)
      have q1 : ∀ w', Ext wr w' → w'.cell? ⟨g, off + 1, none⟩ = some (.int .i64 (yi + 1)) := fun w' h => h.cell ((hcell 1 (by omega)).trans rfl)
      have hgl' : ∀ w', Ext wr w' → g < w'.heap.size := fun w' h => Nat.lt_of_lt_of_le hgl h.le
      have hcp' : 1 ≤ cap := by omega
      have HT := Lib.hid htail
      clear hI hP hgm htail hcell
      go_upto_region 6 with fail
      refine boxed1 (w := wr) (G := fun x => Code.wp _ _ _ _ x) ?_
      intro w5 hx5 hs5 ⟨l5, c5, _, k5⟩
      have hx55 : Ext w5 w5 := Ext.refl _
      have hyb := Lib.hid (show (Value.slice (if cap = 1 then some (⟨g, off, none⟩ : Addr) else some ⟨g, off + 2, none⟩) q.length (cap - 1)).ownBlock ≠ some wr.heap.size by
        by_cases h1 : cap = 1
        · rw [if_pos h1]; intro e; simp [Value.ownBlock] at e; omega
        · rw [if_neg h1]; intro e; simp [Value.ownBlock] at e; omega)
      generalize Value.slice (if cap = 1 then some (⟨g, off, none⟩ : Addr) else some ⟨g, off + 2, none⟩) q.length (cap - 1) = v1 at HT hyb ⊢
      have HI5 := Lib.hid (show PaW T bs br w c q v1 w5 from ⟨(HI.out.ext hx5).h0, (HI.out.ext hx5).cn, HT.out.ext hx5, (HI.out.ext hx5).bl⟩)
      have K5 := Lib.hid (show Hold w5 wr.heap.size _ from k5)
      have hcn : ∀ w', Ext w5 w' → w'.cell? ⟨w.heap.size + 1 + 1, yp, none⟩ = some (.int .i64 (c yp)) := fun w' h => h.cell (HI5.out.cn.c yp hyp)
      have hcl : ∀ w', Ext w5 w' → w.heap.size + 1 + 1 < w'.heap.size := fun w' h => Nat.lt_of_lt_of_le HI5.out.cn.lt h.le
      have hyp' : (yp : Int) < (T.n : Int) := by omega
      clear q0 q1 hgl' HT hgb hgl hcp hcm hcp' k5
      by_cases hc : yi + 1 ≤ c yp
      · have dc : decide ((yi : Int) + 1 ≤ (c yp : Int)) = true := decide_eq_true (by omega)
        go_quiet (fail)
        go_wp2_with fail
        go_roundg (T.toTr.paM c q)
        case rel => exact ⟨c, q, rfl, by have := HG.out; unfold Tr.paM at this ⊢; simp at this; omega, HI5.out.ext (hx55.drewN _), HP.out.skip (by show yi < c yp; omega)⟩
        case measure => unfold Tr.paM; simp
      · have dc : decide ((yi : Int) + 1 ≤ (c yp : Int)) = false := decide_eq_false (by omega)
        go_quiet (fail)
        go_wp2_with fail
        have hs5' : wr.heap.size < w5.heap.size := by omega
        generalize wr.heap.size = yb at hyb K5 l5 c5 hs5' ⊢
        have HL := Lib.hid (show q.length ≤ 2000 by have := HG.out; unfold Tr.paM at this; simp at this; omega)
        clear hcn hcl l5 c5 hs5 hx5
        go_loopg [6, 8] (yi + 1 - c yp) (fun gg v6 v8 wi => ∃ m : Nat, c yp ≤ m ∧ m ≤ yi + 1 ∧ gg = m - c yp ∧ v8 = .int .i64 m ∧ PaW T bs br w c (q ++ T.toTr.bkTo yp yi (yi + 1 - m)) v6 wi ∧ Hold wi yb #[.int .i64 yp, .int .i64 (yi + 1)] ∧ v6.ownBlock ≠ some yb)
        case atStart => exact ⟨yi + 1, by omega, Nat.le_refl _, rfl, by go_num, by rw [Nat.sub_self, Tr.bkTo, List.append_nil]; exact HI5.out.ext (hx55.drewN _), K5.out.drewN _, hyb.out⟩
        case round =>
          obtain ⟨m, hm1, hm2, rfl, rfl, hI, hk, hne⟩ := hrel
          have hxi := hI.bl
          have hii : Ext wr wr := Ext.refl _
          obtain ⟨l5, c5, _, _⟩ := hk.box
          obtain ⟨l0, c0, _, _⟩ := hI.h0.box
          have hcn : ∀ w', Ext wr w' → w'.cell? ⟨w.heap.size + 1 + 1, yp, none⟩ = some (.int .i64 (c yp)) := fun w' h => h.cell (hI.cn.c yp hyp)
          have hcl : ∀ w', Ext wr w' → w.heap.size + 1 + 1 < w'.heap.size := fun w' h => Nat.lt_of_lt_of_le hI.cn.lt h.le
          have hcf := hI.cn.fr
          have HI2 := Lib.hid hI
          have HK := Lib.hid hk
          have HNE := Lib.hid hne
          clear hI hk hne
          by_cases hlt : c yp < m
          · obtain ⟨e, rfl⟩ : ∃ e, m = e + 1 := ⟨m - 1, by omega⟩
            have dm : decide ((c yp : Int) < (e : Int) + 1) = true := decide_eq_true (by omega)
            have hBk := HB.out wr hxi yp e hyp (by omega)
            go_wp2_with (first | (go_at_call 78; refine hBk.mono ?_; rintro r w6 ⟨v2, rfl, hown6, hx6⟩; have HQ6 := Lib.hid (Que.own hown6); clear hown6) | (at_builtin; refine wpList_append_que _ rfl _ _ 37 37 rfl (base := w.heap.size + 1 + 1 + 1) (e := 31) (size := 2) i0 (.agg #[.int .i64 0, .int .i64 0]) 16 Try.underlying37 hi0 hz0 hz1 hz2 rfl rfl (HI2.out.ext hx6).qu (by have := (HI2.out.ext hx6).cn.lt; omega) v2 _ _ rfl (HQ6.out.src Try.underlying37 (evCells_one _)) (by have h1 := HL.out; have h2 := T.toTr.bkTo_len yp yi (yi + 1 - (e + 1)); have h3 := T.toTr.bk_len (yp, e); simp only [List.length_append, List.length_map]; unfold maxLen; omega) (by have h1 := HL.out; have h2 := T.toTr.bkTo_len yp yi (yi + 1 - (e + 1)); have h3 := T.toTr.bk_len (yp, e); simp only [List.length_append, List.length_map]; omega) ?_; rintro v7 w7 hq7 hg7 hat7; have H7 := Lib.hid (And.intro hq7 (And.intro hg7 hat7)); clear hq7 hg7 hat7))
            go_roundg (e - c yp)
            case rel =>
              have h7 := H7.out
              rw [List.length_map] at h7
              have hk6 := HK.out.ext hx6
              have hlt6 := hk6.lt
              refine ⟨e, by omega, by omega, rfl, rfl, ?_, ?_, ?_⟩
              · rw [show yi + 1 - e = (yi + 1 - (e + 1)) + 1 by omega, Tr.bkTo, ← List.append_assoc, show yi - (yi + 1 - (e + 1)) = e by omega]
                exact HI2.out.grow hx6 h7.1 h7.2.1
              · obtain ⟨t, hk6⟩ := hk6
                exact ⟨t, (h7.2.1.block yb hlt6 (fun h => HNE.out h.symm)).trans hk6⟩
              · intro h
                rcases h7.2.2 with h8 | h8
                · exact HNE.out (h8 ▸ h)
                · rw [h8] at h; cases h; omega
            case measure => omega
          · have hme : m = c yp := by omega
            subst hme
            have dm : decide ((c yp : Int) < (c yp : Int)) = false := decide_eq_false (by omega)
            go_wp2_with fail
            go_roundg (T.toTr.paM (updC c yp (yi + 1)) (q ++ T.toTr.bkTo yp yi (yi + 1 - c yp)))
            case rel => exact ⟨_, _, rfl, Nat.le_trans (Nat.le_of_lt (HP.out.less (by show c yp ≤ yi; omega))) HG.out, by have := HI2.out.set hyp (yi + 1); rw [Int.natCast_add] at this; exact this, HP.out.take (by show c yp ≤ yi; omega)⟩
            case measure => exact HP.out.less (by show c yp ≤ yi; omega)

end Go.Proofs.Ytecgigeeolindaa
