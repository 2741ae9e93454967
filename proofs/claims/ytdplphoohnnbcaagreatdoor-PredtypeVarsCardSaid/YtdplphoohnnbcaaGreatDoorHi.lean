/- Contracts of antecedelaw28.few, fits: a tree of few nodes. Contracts of predtype: typed, Type, Temporal. -/
import Derived.Test.YtdplphoohnnbcaaGreatDoorHh
namespace Go.Proofs.YtdplphoohnnbcaaGreatDoor
open Go.RowKit Go.Shelf

/-- few nodes, no great depth, short names -/
def Pr.FewOk (p : Pr) (left depth : Int) : Prop := (p.cnt : Int) ≤ left ∧ (p.dep : Int) + depth ≤ 61 ∧ p.All fun q => q.name.size ≤ 100
def FewR (w0 : World) (bl : Nat) (p : Pr) (left depth : Int) (w : World) (b : Bool) (w' : World) : Prop :=
  Keep (bl + 1) w w' ∧ Ext w0 w' ∧ (b = true → p.FewOk left depth ∧ Hold w' bl #[.int .i64 (left - p.cnt)]) ∧ (b = false → ¬ p.FewOk left depth)
theorem FewR.keep {w0 w w1 w2 : World} {bl : Nat} {p : Pr} {left depth : Int} {b : Bool} (h : FewR w0 bl p left depth w1 b w2) (k : Keep (bl + 1) w w1) : FewR w0 bl p left depth w b w2 := ⟨k.trans h.1, h.2⟩
set_option maxRecDepth 100000 in
set_option maxHeartbeats 1000000 in
theorem few1_any (w0 w : World) (q : Pr) (bl bp bd : Nat) (left depth : Int) (h1 : 0 ≤ depth) (h2 : depth ≤ 60) (hw : Hold w bp #[.pointer (some ⟨bl, 0, none⟩)]) (hd : Hold w bd #[.int .i64 depth])
    (hc : ∀ w', Ext w w' → Calls Tryz.prog 20 #[q.val, .pointer (some ⟨bl, 0, none⟩), .int .i64 (depth + 1)] w' (BoolR (FewR w0 bl q left (depth + 1) w'))) :
    Calls Tryz.prog 52 #[q.val, .pointer (some ⟨bp, 0, none⟩), .pointer (some ⟨bd, 0, none⟩)] w (BoolR fun b w' => FewR w0 bl q left (depth + 1) w (!b) w') := by
  obtain ⟨lf, cf, _, _⟩ := hw.box
  obtain ⟨ld, cd, _, _⟩ := hd.box
  have HC := Lib.hid hc
  clear hc
  simp only [Pr.val] at HC ⊢
  go_enter Tryz.func52, Tryz.ntmps52
  go_upto_region 1 with fail
  refine boxed1 (w := w) (G := fun x => Code.wp _ _ _ _ x) ?_
  intro w1 hx1 hs1 ⟨l0, c0, _, _⟩
  have hx11 : Ext w1 w1 := Ext.refl _
  clear hs1
  go_wp2_with fail
  go_at_call 20
  refine (HC.out w1 hx1).mono ?_
  rintro e w2 ⟨b, rfl, hb⟩
  have HB := Lib.hid hb
  clear hb
  go_wp2_with fail
  go_ret
  exact boolR_not (R := fun b w' => FewR w0 bl q left (depth + 1) w b w') (HB.out.keep (hx1.keep _))
set_option maxRecDepth 100000 in
set_option maxHeartbeats 1000000 in
theorem few_any (w0 : World) (bl : Nat) (hbl : w0.heap.size ≤ bl) : ∀ p : Pr, p.At w0 → ∀ (left depth : Int) (w : World), Ext w0 w → Hold w bl #[.int .i64 left] →
    0 ≤ left → left ≤ 1000 → 0 ≤ depth → depth ≤ 61 →
    Calls Tryz.prog 20 #[p.val, .pointer (some ⟨bl, 0, none⟩), .int .i64 depth] w (BoolR (FewR w0 bl p left depth w)) := by
  intro p
  induction p using Pr.ind with
  | h p ih =>
    intro hp left depth w hx0 hl h1 h2 h3 h4
    have HP := Lib.hid hp
    have HIH := Lib.hid ih
    have hcnt := p.cnt_pos
    have hdep := p.dep_pos
    have HL := Lib.hid hl
    have hbw : bl < w.heap.size := hl.lt
    clear hp ih hl
    simp only [Pr.val]
    go_enter Tryz.func20, Tryz.ntmps20
    go_upto_region 1 with fail
    refine boxed3 (w := w) (G := fun x => Code.wp _ _ _ _ x) ?_
    intro w1 hx1 hs1 b0 b1 b2
    have hL1 : Hold w1 bl _ := Hold.ext HL.out hx1
    have hK0 : Hold w1 w.heap.size _ := b0.hold
    have hK1 : Hold w1 (w.heap.size + 1) _ := b1.hold
    have hK2 : Hold w1 (w.heap.size + 2) _ := b2.hold
    have HL1 := Lib.hid hL1
    have HK0 := Lib.hid hK0
    have HK1 := Lib.hid hK1
    have HK2 := Lib.hid hK2
    have hbx := hL1.box
    obtain ⟨ll, cl, fl, _⟩ := hbx
    obtain ⟨lp, cp, _, _⟩ := b1
    clear b0 b2 hL1 hK0 hK1 hK2
    have hx11 : Ext w1 w1 := Ext.refl _
    go_upto_region 2 with fail
    refine setw (w := w1) (G := fun x => Code.wp _ _ _ _ x) ?_
    intro w2 hw2
    have hL2 : Hold w2 bl #[.int .i64 (left - 1)] := by rw [hw2]; exact HL1.out.set 0 _
    have hK02 : Hold w2 w.heap.size #[.int .i64 p.kind, .int .i64 p.num, .int .i64 p.proc, .int .i64 p.peer, .string p.name, .slice p.a p.len p.cap] := by rw [hw2]; exact HK0.out.other _ _ (by simp; omega)
    have hK12 : Hold w2 (w.heap.size + 1) #[.pointer (some ⟨bl, 0, none⟩)] := by rw [hw2]; exact HK1.out.other _ _ (by simp; omega)
    have hK22 : Hold w2 (w.heap.size + 2) #[.int .i64 depth] := by rw [hw2]; exact HK2.out.other _ _ (by simp; omega)
    have hx02 : Ext w0 w2 := by rw [hw2]; exact (hx0.trans hx1).setCell hbl _
    have hk12 : Keep (bl + 1) w w2 := by rw [hw2]; exact (hx1.keep _).setCell (by simp) _
    have HL2 := Lib.hid hL2
    have HX2 := Lib.hid hx02
    have HKK := Lib.hid hk12
    have HK12 := Lib.hid hK12
    have HK02 := Lib.hid hK02
    have HK22 := Lib.hid hK22
    have hs2 : w.heap.size + 3 ≤ w2.heap.size := by rw [hw2, World.size_setCell]; omega
    clear hw2 ll cl fl hs1 lp cp
    obtain ⟨la, ca, _, _⟩ := hL2.box
    obtain ⟨lb, cb, _, _⟩ := hK02.box
    obtain ⟨lc, cc, _, _⟩ := hK12.box
    obtain ⟨le, ce, _, _⟩ := hK22.box
    clear hL2 hK02 hK12 hK22 hk12
    have hx22 : Ext w2 w2 := Ext.refl _
    by_cases hz : left = 0
    · have d1 : decide (left - 1 < 0) = true := decide_eq_true (by omega)
      go_wp2_with fail
      go_ret
      exact ⟨false, rfl, HKK.out, HX2.out, (fun h => by cases h), fun _ h => by have := h.1; omega⟩
    · have d1 : decide (left - 1 < 0) = false := decide_eq_false (by omega)
      by_cases hdd : depth = 61
      · have d2 : decide (60 < depth) = true := decide_eq_true (by omega)
        go_wp2_with fail
        go_ret
        exact ⟨false, rfl, HKK.out, HX2.out, (fun h => by cases h), fun _ h => by have := h.2.1; omega⟩
      · have d2 : decide (60 < depth) = false := decide_eq_false (by omega)
        by_cases hnm : p.name.size ≤ 100
        · have d3 : decide (100 < (p.name.size : Int)) = false := decide_eq_false (by omega)
          have hH := has_Pred w0 w2 p HP.out.here 52 #[.pointer (some ⟨w.heap.size + 1, 0, none⟩), .pointer (some ⟨w.heap.size + 2, 0, none⟩)]
            (fun i w' => Keep (bl + 1) w2 w' ∧ Ext w0 w' ∧ Hold w' bl #[.int .i64 (left - 1 - (Pr.sum (fun i => (p.kid i).cnt) i : Int))] ∧ (Pr.sum (fun i => (p.kid i).cnt) i : Int) ≤ left - 1 ∧ ∀ j, j < i → ((p.kid j).dep : Int) + (depth + 1) ≤ 61 ∧ (p.kid j).All fun q => q.name.size ≤ 100)
            (fun i w' => Keep (bl + 1) w2 w' ∧ Ext w0 w' ∧ ¬ (p.kid i).FewOk (left - 1 - (Pr.sum (fun i => (p.kid i).cnt) i : Int)) (depth + 1))
            (fun i w' h => h.2.1) ⟨Keep.refl _ _, HX2.out, by simpa [Pr.sum] using HL2.out, by simp [Pr.sum]; omega, fun j hj => absurd hj (Nat.not_lt_zero _)⟩ (enters_of Tryz.func52 (by kernel_rfl) rfl)
            (fun i hi w' hI => by
              obtain ⟨i1, i2, i3, i4, i5⟩ := hI
              refine (few1_any w0 w' (p.kid i) bl (w.heap.size + 1) (w.heap.size + 2) (left - 1 - (Pr.sum (fun i => (p.kid i).cnt) i : Int)) depth h3 (by omega) (Hold.keep HK12.out i1 (by omega)) (Hold.keep HK22.out i1 (by omega))
                (fun w4 hx4 => HIH.out i hi (HP.out.kid hi) _ _ w4 (i2.trans hx4) (i3.ext hx4) (by omega) (by omega) (by omega) (by omega))).mono ?_
              rintro e w4 ⟨b, rfl, k1, k2, k3, k4⟩
              refine ⟨b, rfl, fun hb => ?_, fun hb => ?_⟩
              · subst hb
                obtain ⟨⟨o1, o2, o3⟩, o4⟩ := k3 rfl
                have hsum := Pr.sum_cast (fun i => (p.kid i).cnt) i
                refine ⟨i1.trans k1, k2, ?_, by rw [hsum]; omega, fun j hj => ?_⟩
                · rw [hsum, show left - 1 - ((Pr.sum (fun i => (p.kid i).cnt) i : Int) + ((p.kid i).cnt : Int)) = left - 1 - (Pr.sum (fun i => (p.kid i).cnt) i : Int) - ((p.kid i).cnt : Int) by omega]; exact o4
                · by_cases e : j = i
                  · subst e; exact ⟨o2, o3⟩
                  · exact i5 j (by omega)
              · subst hb
                exact ⟨i1.trans k1, k2, k4 rfl⟩)
          go_wp2_with fail
          go_at_call 51
          refine hH.mono ?_
          rintro e w4 ⟨b, rfl, q0, q1⟩
          have H0 := Lib.hid q0
          have H1 := Lib.hid q1
          clear q0 q1 hH
          cases b with
          | false =>
            have H := Lib.hid (H0.out rfl)
            clear H0 H1
            go_wp2_with fail
            go_ret
            obtain ⟨i1, i2, i3, i4, i5⟩ := H.out
            have hcs : (p.cnt : Int) = 1 + (Pr.sum (fun i => (p.kid i).cnt) p.len : Int) := by rw [Pr.cnt_eq]; omega
            have hds : (p.dep : Int) + depth ≤ 61 := by
              have : Pr.most (fun i => (p.kid i).dep) p.len ≤ (60 - depth).toNat := Pr.most_le.2 fun i hi => by have := (i5 i hi).1; omega
              rw [Pr.dep_eq]; omega
            refine ⟨true, rfl, HKK.out.trans i1, i2, fun _ => ⟨⟨by omega, hds, (Pr.All_eq _ _).2 ⟨hnm, fun i hi => (i5 i hi).2⟩⟩, ?_⟩, (fun h => by cases h)⟩
            rw [hcs, show left - (1 + (Pr.sum (fun i => (p.kid i).cnt) p.len : Int)) = left - 1 - (Pr.sum (fun i => (p.kid i).cnt) p.len : Int) by omega]; exact i3
          | true =>
            obtain ⟨i, hi, h⟩ := H1.out rfl
            have H := Lib.hid h
            clear H0 H1 h
            go_wp2_with fail
            go_ret
            obtain ⟨i1, i2, i3⟩ := H.out
            refine ⟨false, rfl, HKK.out.trans i1, i2, (fun h => by cases h), fun _ h => i3 ⟨?_, ?_, h.2.2.kid hi⟩⟩
            · have hcs : (p.cnt : Int) = 1 + (Pr.sum (fun i => (p.kid i).cnt) p.len : Int) := by rw [Pr.cnt_eq]; omega
              have hsum := Pr.sum_cast (fun i => (p.kid i).cnt) i
              have hm := Pr.sum_mono (f := fun i => (p.kid i).cnt) (k := i + 1) (n := p.len) hi
              have := h.1
              omega
            · have hd := h.2.1
              have hm := (Pr.most_le (f := fun i => (p.kid i).dep) (n := p.len) (m := Pr.most (fun i => (p.kid i).dep) p.len)).1 (Nat.le_refl _) i hi
              rw [Pr.dep_eq] at hd
              omega
        · have d3 : decide (100 < (p.name.size : Int)) = true := decide_eq_true (by omega)
          have hns := HP.out.here.nameI
          go_wp2_with fail
          go_ret
          exact ⟨false, rfl, HKK.out, HX2.out, (fun h => by cases h), fun _ h => hnm h.2.2.here⟩

set_option maxRecDepth 100000 in
set_option maxHeartbeats 1000000 in
theorem fits_any (w : World) (p : Pr) (hp : p.At w) : Calls Tryz.prog 7 #[p.val] w (BoolPost (p.FewOk 400 0) w) := by
  have HP := Lib.hid hp
  clear hp
  simp only [Pr.val]
  go_enter Tryz.func7, Tryz.ntmps7
  go_upto_region 2 with fail
  refine boxed2 (w := w) (G := fun x => Code.wp _ _ _ _ x) ?_
  intro w1 hx1 hs1 ⟨l0, c0, _, _⟩ b1
  have hx11 : Ext w1 w1 := Ext.refl _
  have hF := few_any w (w.heap.size + 1) (by omega) p HP.out 400 0 w1 hx1 b1.hold (by omega) (by omega) (by omega) (by omega)
  clear b1
  simp only [Pr.val] at hF
  have HX := Lib.hid hx1
  clear hs1
  go_wp2_with fail
  go_at_call 20
  refine hF.mono ?_
  rintro e w2 ⟨b, rfl, hk, hx2, h1, h2⟩
  have H1 := Lib.hid h1
  have H2 := Lib.hid h2
  clear h1 h2 hF
  go_wp2_with fail
  go_ret
  refine BoolPost.mk0 ?_ hx2
  cases b with
  | true => exact ⟨fun _ => (H1.out rfl).1, fun _ => rfl⟩
  | false => exact ⟨(fun h => by cases h), fun h => absurd h (H2.out rfl)⟩

end Go.Proofs.YtdplphoohnnbcaaGreatDoor

namespace Go.Proofs.YtdplphoohnnbcaaGreatDoor
open Go.RowKit Go.Shelf

/-- the parts of a node have the type that it needs -/
def Pr.TypedN (p : Pr) : Prop := ∀ i, i < p.len → resT (p.kid i).kind = needT p.kind
def Pr.Typed (p : Pr) : Prop := p.All Pr.TypedN
def Pr.NoTemp (p : Pr) : Prop := p.All fun q => tempB q.kind = false
theorem All_true {p : Pr} : p.All fun _ => True := by
  induction p using Pr.ind with
  | h p ih => exact (Pr.All_eq _ p).2 ⟨trivial, fun i hi => ih i hi⟩
set_option maxRecDepth 100000 in
set_option maxHeartbeats 1000000 in
theorem typed11_any (w : World) (p q : Pr) (bp : Nat) (h : Hold w bp #[.int .i64 p.kind, .int .i64 p.num, .int .i64 p.proc, .int .i64 p.peer, .string p.name, .slice p.a p.len p.cap]) :
    Calls Tryz.prog 70 #[q.val, .pointer (some ⟨bp, 0, none⟩)] w (BoolPost (resT q.kind ≠ needT p.kind) w) := by
  have k0 : ∀ w', Ext w w' → w'.cell? ⟨bp, 0, none⟩ = some (.int .i64 p.kind) := fun w' x => h.box.cell w' x 0
  have k1 := h.box.lt
  clear h
  simp only [Pr.val]
  go_enter Tryz.func70, Tryz.ntmps70
  go_upto_region 1 with fail
  refine boxed1 (w := w) (G := fun x => Code.wp _ _ _ _ x) ?_
  intro w1 hx1 hs1 ⟨l0, c0, _, _⟩
  have hx11 : Ext w1 w1 := Ext.refl _
  clear hs1
  go_quiet ((first | (go_at_call 23; exact Calls.quiet_of_same ((result_any _ _).mono fun e w' h => ⟨h.1, h.2.symm⟩)) | (go_at_call 71; exact Calls.quiet_of_same ((need_any _ _).mono fun e w' h => ⟨h.1, h.2.symm⟩))))
  go_wp2_with fail
  go_ret
  exact ⟨_, rfl, by simp, hx1.drewN _⟩
set_option maxRecDepth 100000 in
set_option maxHeartbeats 1000000 in
theorem typed1_any (w0 w : World) (q : Pr) (hq : q.NodeAt w0) (hx : Ext w0 w) : Calls Tryz.prog 69 #[q.val] w (BoolPost q.TypedN w) := by
  have HQ := Lib.hid hq
  clear hq
  simp only [Pr.val]
  go_enter Tryz.func69, Tryz.ntmps69
  go_upto_region 1 with fail
  refine boxed1 (w := w) (G := fun x => Code.wp _ _ _ _ x) ?_
  intro w1 hx1 hs1 ⟨l0, c0, _, k0⟩
  have hx11 : Ext w1 w1 := Ext.refl _
  have HK := Lib.hid k0
  clear hs1 k0
  have hH := has_Pred w0 w1 q HQ.out 70 #[.pointer (some ⟨w.heap.size, 0, none⟩)] (fun i w' => Ext w1 w' ∧ ∀ j, j < i → resT (q.kid j).kind = needT q.kind) (fun i w' => Ext w1 w' ∧ resT (q.kid i).kind ≠ needT q.kind)
    (fun i w' h => (hx.trans hx1).trans h.1) ⟨hx11, fun j hj => absurd hj (Nat.not_lt_zero _)⟩ (enters_of Tryz.func70 (by kernel_rfl) rfl)
    (fun i hi w' hI => (typed11_any w' q (q.kid i) w.heap.size (Hold.ext HK.out hI.1)).mono fun e w2 ⟨b, he, hb, hx2⟩ => ⟨b, he, fun h => ⟨hI.1.trans hx2, fun j hj => by
      by_cases e : j = i
      · subst e; exact Decidable.byContradiction fun hh => by have := hb.2 hh; rw [h] at this; cases this
      · exact hI.2 j (by omega)⟩, fun h => ⟨hI.1.trans hx2, hb.1 h⟩⟩)
  go_wp2_with fail
  go_at_call 51
  refine hH.mono ?_
  rintro e w4 ⟨b, rfl, q0, q1⟩
  have H0 := Lib.hid q0
  have H1 := Lib.hid q1
  clear q0 q1 hH
  cases b with
  | false =>
    have H := Lib.hid (H0.out rfl)
    clear H0 H1
    go_wp2_with fail
    go_ret
    exact BoolPost.y H.out.2 (hx1.trans H.out.1)
  | true =>
    obtain ⟨i, hi, h⟩ := H1.out rfl
    have H := Lib.hid h
    clear H0 H1 h
    go_wp2_with fail
    go_ret
    exact BoolPost.n (fun h => H.out.2 (h i hi)) (hx1.trans H.out.1)
set_option maxRecDepth 100000 in
set_option maxHeartbeats 1000000 in
theorem ptyped_any (w : World) (p : Pr) (hp : p.At w) : Calls Tryz.prog 30 #[p.val] w (BoolPost p.Typed w) := by
  have HP := Lib.hid hp
  clear hp
  simp only [Pr.val]
  go_enter Tryz.func30, Tryz.ntmps30
  go_upto_region 1 with fail
  refine boxed1 (w := w) (G := fun x => Code.wp _ _ _ _ x) ?_
  intro w1 hx1 hs1 ⟨l0, c0, _, k0⟩
  have hx11 : Ext w1 w1 := Ext.refl _
  clear hs1 k0
  have hE := each_bool w1 69 #[] (enters_of Tryz.func69 (by kernel_rfl) rfl) Pr.TypedN (fun _ => True) (fun q hq _ w' hx => typed1_any w1 w' q hq hx) p (HP.out.ext hx1) All_true
  simp only [Pr.val] at hE
  go_wp2_with fail
  go_at_call 38
  refine hE.mono ?_
  rintro e w4 ⟨b, rfl, hb, hx4⟩
  have HB := Lib.hid hb
  clear hb hE
  go_wp2_with fail
  go_ret
  exact BoolPost.mk0 HB.out (hx1.trans hx4)
/-- the type of a tree, or an error -/
def Pr.TypeIs (p : Pr) (x c : Int) : Prop := (¬ p.Formed ∧ x = 0 ∧ c = 1) ∨ (p.Formed ∧ ¬ p.Typed ∧ x = 0 ∧ c = 14) ∨ (p.Formed ∧ p.Typed ∧ x = resT p.kind ∧ c = 0)
theorem Pr.TypeIs.uniq {p : Pr} {x c y d : Int} (h : p.TypeIs x c) (k : p.TypeIs y d) : x = y ∧ c = d := by
  rcases h with ⟨a, rfl, rfl⟩ | ⟨a, b, rfl, rfl⟩ | ⟨a, b, rfl, rfl⟩ <;> rcases k with ⟨a', rfl, rfl⟩ | ⟨a', b', rfl, rfl⟩ | ⟨a', b', rfl, rfl⟩ <;> first | exact ⟨rfl, rfl⟩ | exact absurd a a' | exact absurd a' a | exact absurd b b' | exact absurd b' b
def TypePost (p : Pr) (w : World) (e : Ending) (w' : World) : Prop := Ext w w' ∧ ∃ x c : Int, e = .returned (.tuple #[.int .i64 x, .int .i64 c]) ∧ p.TypeIs x c

end Go.Proofs.YtdplphoohnnbcaaGreatDoor
