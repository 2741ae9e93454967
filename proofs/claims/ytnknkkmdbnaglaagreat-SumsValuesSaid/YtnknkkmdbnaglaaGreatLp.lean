/- Contract: antecederef39.Network. Contracts: slices.Equal at api.Edge and same of law 39, for equal lists. -/
import Derived.Test.YtnknkkmdbnaglaaGreatLo
import Derived.Test.YtnknkkmdbnaglaaGreatLg
import Derived.Test.YtnknkkmdbnaglaaGreatLj
namespace Go.Proofs.YtnknkkmdbnaglaaGreat
open Go.RowKit Go.Shelf
theorem rnet_results (tmps : Array Value) (W : World) (b : Nat) (x y : Value) (t4 : tmps[4]? = some (.pointer (some ⟨b, 0, none⟩))) (c : W.cell? ⟨b, 0, none⟩ = some x) (c' : W.cell? ⟨b, 1, none⟩ = some y) :
    (results Tryz.f28 tmps).run Tryz.prog W = .ok (.agg #[x, y]) W := by
 simp [results, go_sem, t4, c, c']
noncomputable def Tr.bkJ (T : Tr) (x : NN) (j : Nat) : List (Nat × Nat) := ((T.bk x).take j).map fun y => (T.num x, T.num y)
theorem Tr.bkJ_next {T : Tr} {x y : NN} {j : Nat} (h : (T.bk x)[j]? = some y) : T.bkJ x (j + 1) = T.bkJ x j ++ [(T.num x, T.num y)] := by
 unfold Tr.bkJ
 rw [List.take_add_one, h]; simp
theorem Tr.bkJ_all {T : Tr} {x : NN} {j : Nat} (h : (T.bk x).length ≤ j) : T.bkJ x j = (T.bk x).map fun y => (T.num x, T.num y) := by unfold Tr.bkJ; rw [List.take_of_length_le h]
theorem Tr.needL_bk (T : Tr) {k i : Nat} (hk : k < T.n) (hi : i < T.en k) : T.needL (T.evsTo k (i + 1)) = T.needL (T.evsTo k i) ++ (T.bk (k, i)).map fun y => (T.num (k, i), T.num y) := by
 rw [Tr.evsTo_succ _ _ _ hk hi, Tr.needL_snoc]
def RnetPost (T : TM) (D : TmD) (w : World) (e : Ending) (w' : World) : Prop := Ext w w' ∧ ∃ v, e = .returned (.agg #[.int .i64 ((tott T.en T.n : Int) + 2), v]) ∧ EdOwn w' w.heap.size v (closureNet (tott T.en T.n) (T.wfn D.l) T.needs)
set_option maxRecDepth 100000 in
set_option maxHeartbeats 8000000 in
theorem rnet_any (w : World) (T : TM) (hT : T.At w) (D : TmD) (hD : D.At w) (hO : T.SumOk D.l) :
    Calls Tryz.prog 28 #[T.val, .slice D.s.a D.s.n D.s.c] w (RnetPost T D w) := by
 obtain ⟨i1, hi1, hz0, hz1, hz2⟩ := info_parts infoEdge
 have hV := hO.v
 have hn8 := hV.n8
 have hn1 := hV.n1
 have HWO := Lib.hid (Tr.wfn_ok hO)
 have HWT := Lib.hid (fun W (h : Ext w W) (q i : Nat) hq hi => (show Calls Tryz.prog 83 #[T.val, .slice D.s.a D.s.n D.s.c, .int .i64 q, .int .i64 ((i : Int) + 1)] W fun e w' => e = .returned (.int .i64 (T.wt D.l q i)) ∧ Ext W w' from by
  have h1 := rwt39_any W T (hT.ext h) D (hD.ext h) hV hO.known hO.coef hO.len q i (i + 1) hq hi rfl
  rw [show ((i + 1 : Nat) : Int) = (i : Int) + 1 from by omega] at h1
  exact h1))
 have HNU := Lib.hid (fun W (h : Ext w W) p i hp hi => rnum_any W T (hT.ext h) hV p i hp hi)
 have HCT := Lib.hid (fun W (h : Ext w W) => rcnt_any W T (hT.ext h) hV)
 have HDI := Lib.hid (fun W (h : Ext w W) p i hp hi => rdir_any W T (hT.ext h) (Tr.valid_iff.1 hV).1 p i hp hi)
 have HV := Lib.hid hV
 have HT := Lib.hid hT
 obtain ⟨m, hm⟩ : ∃ m, m = tott T.en T.n := ⟨_, rfl⟩
 have HM := Lib.hid hm
 have hm5 : m ≤ 510 := by rw [hm]; exact HWO.out.few
 obtain ⟨u, hu⟩ : ∃ u, u = T.toTr.wfn D.l := ⟨_, rfl⟩
 have HU := Lib.hid hu
 have HWP := Lib.hid (show ∀ k, k ≤ m → 0 ≤ wpos u k ∧ wpos u k ≤ 562949953421312 from fun k hk => ⟨wpos_nonneg u k, by
  rw [hu]
  have h1 := wpos_abs (T.toTr.wfn D.l) k
  have h2 := isum_mono (g := fun i => iabs (T.toTr.wfn D.l i)) (fun i => iabs_nonneg _) (n := tott T.en T.n) (by rw [← hm]; exact hk)
  have h3 := HWO.out.mass
  have h4 := iabs_nonneg (T.toTr.sumAt D.l fun _ => 0)
  omega⟩)
 have HUA := Lib.hid (fun p i (hp : p < T.n) (hi : i < T.en p) => (show u (tott T.en p + i) = T.toTr.wt D.l p i from by rw [hu]; exact Tr.wfn_at hp hi))
 have HWW := Lib.hid (fun i (hi : i < m) => (show -562949953421312 ≤ u i ∧ u i ≤ 562949953421312 from by rw [hu]; exact HWO.out.w (by rw [← hm]; exact hi)))
 unfold RnetPost
 obtain ⟨ta, hta⟩ : ∃ z, z = T.a := ⟨_, rfl⟩
 have HTA := Lib.hid hta
 obtain rfl : ta = some ⟨T.b, T.off, none⟩ := by rw [hta]; exact hT.P.pa (by omega)
 simp only [TM.val, ← hta] at HWT HNU HCT HDI ⊢
 rw [← hm, ← hu]
 have hcnt : ∀ W (h : Ext w W), Calls Tryz.prog 32 #[.agg #[.slice (some ⟨T.b, T.off, none⟩) T.n T.cap]] W fun e w' => e = .returned (.int .i64 (m : Int)) ∧ Ext W w' := fun W h => by
  rw [HM.out, tott_tot]; exact HCT.out W h
 have HCT := Lib.hid hcnt
 clear hT hD hO hV hm hu hta hcnt
 go_enter Tryz.func28, Tryz.ntmps28
 go_upto_region 1 with fail
 refine boxed2 (w := w) (G := fun x => Code.wp _ _ _ _ x) ?_
 intro w1 hx1 hs1 ⟨l0, c0, _, k0⟩ ⟨l1, c1, f1, k1⟩
 have hx11 : Ext w1 w1 := Ext.refl _
 have hw2 : IntKind.i64.wrap ((m : Int) + 2) = (m : Int) + 2 := IntWalk.i64_in _ (by omega)
 have HS1 := Lib.hid hs1
 have HK0 := Lib.hid k0
 clear hs1 k0
 go_wp2_with fail
 go_at_call 32
 refine (HCT.out w1 hx1).mono ?_
 rintro e w2 ⟨rfl, hx2⟩
 go_upto_region 3 with fail
 refine boxed1 (w := w2) (G := fun x => Code.wp _ _ _ _ x) ?_
 intro w3 hx3 hs3 ⟨_, _, _, k3⟩
 have hx33 : Ext w3 w3 := Ext.refl _
 have hx13 : Ext w1 w3 := hx2.trans hx3
 obtain ⟨b4, hb4⟩ : ∃ z, z = w2.heap.size := ⟨_, rfl⟩
 rw [← hb4] at k3 ⊢
 have HB := Lib.hid (show w1.heap.size ≤ b4 from by have := hx2.le; omega)
 have HN2 := Lib.hid (NwI.mk (w1 := w1) (b4 := b4) (n2 := (m : Int) + 2) (L := []) (ev := .slice none 0 0) (wr := w3) k3 (World.ownsRow_nil _ _ _ _) hx13 HB.out)
 clear hs3 hw2 hb4 k3
 go_wp2_with fail
 go_loopg [7, 8] T.n (fun gg v7 v8 wr => ∃ (k : Nat) (ev : Value), k ≤ T.n ∧ gg = T.n - k ∧ v8 = .int .i64 k ∧ v7 = .int .i64 (wpos u (tott T.en k)) ∧ NwI w1 b4 ((m : Int) + 2) (edgesW m u (tott T.en k)) ev wr)
 case atStart => exact ⟨0, _, by omega, rfl, rfl, rfl, HN2.out⟩
 case round =>
  obtain ⟨k, ev, hk, rfl, rfl, rfl, hI⟩ := hrel
  have hx1r := hI.hx
  have hxr := hx1.trans hx1r
  have HI0 := Lib.hid hI
  clear hI hx33 hx13 hx3
  by_cases hlt : k < T.n
  ·have hlt' : (k : Int) < (T.n : Int) := by omega
   have hen := HV.out.en64 hlt
   have pb := HT.out.P.pb (by omega)
   have p2 : ∀ w', Ext w w' → w'.cell? ⟨T.b, T.off + k * 3 + 2, none⟩ = some (.slice (T.ea k) (T.en k) (T.ec k)) := fun w' h => HT.out.P.p2 w' h k hlt
   go_wp2_with fail
   go_loopg [7, 9] (T.en k) (fun gg v7 v9 wr => ∃ (i : Nat) (ev : Value), i ≤ T.en k ∧ gg = T.en k - i ∧ v9 = .int .i64 ((i : Int) + 1) ∧ v7 = .int .i64 (wpos u (tott T.en k + i)) ∧ NwI w1 b4 ((m : Int) + 2) (edgesW m u (tott T.en k + i)) ev wr)
   case atStart => exact ⟨0, ev, by omega, rfl, rfl, rfl, HI0.out⟩
   case round =>
    obtain ⟨i, ev2, hi, rfl, rfl, rfl, hI⟩ := hrel
    clear HI0 hx1r hxr
    have hx1r := hI.hx
    have hxr := hx1.trans hx1r
    have HI0 := Lib.hid hI
    clear hI
    by_cases hli : i < T.en k
    ·have hli' : (i : Int) + 1 ≤ (T.en k : Int) := by omega
     have d3 : decide ((i : Int) + 1 ≤ (T.en k : Int)) = true := decide_eq_true hli'
     have hw9 : IntKind.i64.wrap ((i : Int) + 1 + 1) = (i : Int) + 1 + 1 := IntWalk.i64_in _ (by omega)
     have hwt := HWT.out wr hxr k i hlt hli
     obtain ⟨v, hv⟩ : ∃ v, v = tott T.en k + i := ⟨_, rfl⟩
     have HVE := Lib.hid hv
     have hvm : v < m := by rw [hv, HM.out]; exact tott_lt T.en hlt hli
     have hua := HUA.out k i hlt hli
     rw [← hv] at hua
     obtain ⟨wk, hwk⟩ : ∃ z, z = u v := ⟨_, rfl⟩
     have hwkb := HWW.out v hvm
     rw [← hwk] at hwkb hua
     rw [← hua] at hwt
     have hnu := fun W (h : Ext w W) => (show Calls Tryz.prog 91 #[.agg #[.slice (some ⟨T.b, T.off, none⟩) T.n T.cap], .agg #[.int .i64 (k : Int), .int .i64 ((i : Int) + 1)]] W (fun e w' => e = .returned (.int .i64 (v : Int)) ∧ Ext W w') from by rw [hv]; exact HNU.out W h k i hlt hli)
     have HNK := Lib.hid hnu
     have hwp := HWP.out v (by omega)
     have hwp1 := HWP.out (v + 1) (by omega)
     have hsu : wpos u (v + 1) = wpos u v + if 0 < wk then wk else 0 := by rw [hwk]; rfl
     have hes : edgesW m u (v + 1) = edgesW m u v ++ (if 0 < wk then [(m, v, wk)] else if wk < 0 then [(v, m + 1, - wk)] else []) := by rw [hwk]; rfl
     have HSU := Lib.hid hsu
     have HES := Lib.hid hes
     rw [← hv] at HI0 ⊢
     rw [hsu] at hwp1
     have HGO := Lib.hid (show tott T.en k + (i + 1) = v + 1 from by omega)
     have hlm := edgesW_len m u v
     generalize wpos u v = uu at hwp hwp1 HSU ⊢
     clear hsu hes hua hwk hnu hv
     go_wp2_with fail
     go_at_call 83
     refine hwt.mono ?_
     rintro e w8 ⟨rfl, hx8⟩
     have hx18 := hx1r.trans hx8
     have hxw8 := hxr.trans hx8
     clear hwt
     go_wp2_with fail
     go_at_call 91
     refine (HNK.out w8 hxw8).mono ?_
     rintro e w9 ⟨rfl, hx9⟩
     have hx19 := hx18.trans hx9
     have hxw9 := hxw8.trans hx9
     have hI := HI0.out.ext (hx8.trans hx9)
     have h99 : Ext w9 w9 := Ext.refl _
     clear hx8 hx9 hx18 hxw8 hx1r hxr
     by_cases hpos : 0 < wk
     ·have d1 : decide (0 < wk) = true := decide_eq_true hpos
      have d2 : decide (wk < 0) = false := decide_eq_false (by omega)
      rw [if_pos hpos] at hwp1
      have hw3 : IntKind.i64.wrap (uu + wk) = uu + wk := IntWalk.i64_in _ (by omega)
      obtain ⟨L, hL⟩ : ∃ L, L = (edgesW m u v) := ⟨_, rfl⟩
      rw [← hL] at hI
      have HL := Lib.hid hL
      obtain ⟨a6, c6, hev6⟩ := own_form (NwI.own hI)
      obtain ⟨ln, hln⟩ : ∃ z, z = L.length := ⟨_, rfl⟩
      rw [← hln] at hev6
      have HLN := Lib.hid hln
      subst hev6
      have HO := Lib.hid (show w9.ownsRow (b4 + 1) 57 3 (.slice a6 ln c6) ln (edCells L) from by have := NwI.own hI; rw [← HLN.out] at this; exact this)
      have HB4 := Lib.hid (show b4 < w9.heap.size from hI.h4.lt)
      have HI := Lib.hid hI
      obtain ⟨l4, c4, f4, _⟩ := hI.h4.box
      clear hL hln hI
      have HE2 := Lib.hid (show edgesW m u (v + 1) = L ++ [(m, v, wk)] from by rw [HES.out, if_pos hpos, HL.out])
      have hlm : ln ≤ 510 := by rw [HLN.out, HL.out]; omega
      go_upto_region 15 with (
       at_builtin
       refine wpList_append_own _ rfl _ _ 42 rfl (b4 + 1) 57 i1 (.agg #[.int .i64 0, .int .i64 0, .int .i64 0]) 3 24 Tryz.underlying42 hi1 hz0 hz1 hz2 rfl (by decide) (.slice a6 ln c6) ln (edCells L) rfl (by exact own_ext HO.out (Ext.alloc _ _)) ⟨w9.heap.size, 0, none⟩ 1 1 [.int .i64 ((m : Int)), .int .i64 ((v : Int)), .int .i64 (wk)] rfl rfl (by exact news_ok w9 [_, _, _] _) (edge_one _ _ _) (by unfold maxLen; omega) (by omega) (by rw [World.size_alloc]; have := HB4.out; omega) ?_
       rintro v6 w6 hown6 hg6 -
       obtain ⟨a9, c9, rfl⟩ := own_form hown6
       have HP := Lib.hid (NwI.push (t := (m, v, wk)) HI.out (Ext.alloc _ _) (by rw [← HLN.out]; exact hown6) hg6)
       clear hown6 hg6
       obtain ⟨l6, c6', f6, _⟩ := HP.out.1.box
       have hx66 : Ext w6 w6 := Ext.refl _
       skip)
      refine setq1 (G := fun x => Code.wp _ _ _ _ x) ?_
      intro w7 hw7
      have HI7 := Lib.hid (show NwI w1 b4 ((m : Int) + 2) (edgesW m u (v + 1)) (.slice a9 (ln + 1) c9) w7 from by rw [hw7, HE2.out]; exact HP.out.2)
      clear hw7 l6 c6' f6 hx66 l4 c4 f4
      go_wp2_with fail
      go_roundg (T.en k - (i + 1))
      case rel => exact ⟨i + 1, _, by omega, rfl, by go_num, congrArg (Value.int .i64) (by rw [HGO.out, HSU.out, if_pos hpos]), by rw [HGO.out]; exact HI7.out⟩
      case measure => omega
     ·have d1 : decide (0 < wk) = false := decide_eq_false hpos
      have HNP := Lib.hid hpos
      clear hpos
      by_cases hneg : wk < 0
      ·have d2 : decide (wk < 0) = true := decide_eq_true hneg
       have hw3 : IntKind.i64.wrap ((m : Int) + 1) = ((m + 1 : Nat) : Int) := by rw [IntWalk.i64_in _ (by omega)]; omega
       have hw4 : IntKind.i64.wrap (0 - wk) = - wk := by rw [IntWalk.i64_in _ (by omega)]; omega
       obtain ⟨L, hL⟩ : ∃ L, L = (edgesW m u v) := ⟨_, rfl⟩
       rw [← hL] at hI
       have HL := Lib.hid hL
       obtain ⟨a6, c6, hev6⟩ := own_form (NwI.own hI)
       obtain ⟨ln, hln⟩ : ∃ z, z = L.length := ⟨_, rfl⟩
       rw [← hln] at hev6
       have HLN := Lib.hid hln
       subst hev6
       have HO := Lib.hid (show w9.ownsRow (b4 + 1) 57 3 (.slice a6 ln c6) ln (edCells L) from by have := NwI.own hI; rw [← HLN.out] at this; exact this)
       have HB4 := Lib.hid (show b4 < w9.heap.size from hI.h4.lt)
       have HI := Lib.hid hI
       obtain ⟨l4, c4, f4, _⟩ := hI.h4.box
       clear hL hln hI
       have HE2 := Lib.hid (show edgesW m u (v + 1) = L ++ [(v, m + 1, - wk)] from by rw [HES.out, if_neg HNP.out, if_pos hneg, HL.out])
       have hlm : ln ≤ 510 := by rw [HLN.out, HL.out]; omega
       go_upto_region 9 with (
        at_builtin
        refine wpList_append_own _ rfl _ _ 42 rfl (b4 + 1) 57 i1 (.agg #[.int .i64 0, .int .i64 0, .int .i64 0]) 3 24 Tryz.underlying42 hi1 hz0 hz1 hz2 rfl (by decide) (.slice a6 ln c6) ln (edCells L) rfl (by exact own_ext HO.out (Ext.alloc _ _)) ⟨w9.heap.size, 0, none⟩ 1 1 [.int .i64 ((v : Int)), .int .i64 (((m + 1 : Nat) : Int)), .int .i64 ((- wk))] rfl rfl (by exact news_ok w9 [_, _, _] _) (edge_one _ _ _) (by unfold maxLen; omega) (by omega) (by rw [World.size_alloc]; have := HB4.out; omega) ?_
        rintro v6 w6 hown6 hg6 -
        obtain ⟨a9, c9, rfl⟩ := own_form hown6
        have HP := Lib.hid (NwI.push (t := (v, (m + 1), (- wk))) HI.out (Ext.alloc _ _) (by rw [← HLN.out]; exact hown6) hg6)
        clear hown6 hg6
        obtain ⟨l6, c6', f6, _⟩ := HP.out.1.box
        have hx66 : Ext w6 w6 := Ext.refl _
        skip)
       refine setq1 (G := fun x => Code.wp _ _ _ _ x) ?_
       intro w7 hw7
       have HI7 := Lib.hid (show NwI w1 b4 ((m : Int) + 2) (edgesW m u (v + 1)) (.slice a9 (ln + 1) c9) w7 from by rw [hw7, HE2.out]; exact HP.out.2)
       clear hw7 l6 c6' f6 hx66 l4 c4 f4
       go_wp2_with fail
       go_roundg (T.en k - (i + 1))
       case rel => exact ⟨i + 1, _, by omega, rfl, by go_num, congrArg (Value.int .i64) (by rw [HGO.out, HSU.out, if_neg (by have := HNP.out; omega)]; omega), by rw [HGO.out]; exact HI7.out⟩
       case measure => omega
      ·have d2 : decide (wk < 0) = false := decide_eq_false hneg
       have HE2 := Lib.hid (show edgesW m u (v + 1) = edgesW m u v from by rw [HES.out, if_neg HNP.out, if_neg hneg, List.append_nil])
       have HI9 := Lib.hid hI
       clear hneg hI
       go_wp2_with fail
       go_roundg (T.en k - (i + 1))
       case rel => exact ⟨i + 1, ev2, by omega, rfl, by go_num, congrArg (Value.int .i64) (by rw [HGO.out, HSU.out, if_neg (by have := HNP.out; omega)]; omega), by rw [HGO.out, HE2.out]; exact HI9.out⟩
       case measure => omega
    ·obtain rfl : i = T.en k := by omega
     have d3 : decide ((T.en k : Int) + 1 ≤ (T.en k : Int)) = false := decide_eq_false (by omega)
     go_wp2_with fail
     go_roundg (T.n - (k + 1))
     case rel => exact ⟨k + 1, ev2, by omega, rfl, by go_num, rfl, HI0.out⟩
     case measure => omega
  ·obtain rfl : k = T.n := by omega
   obtain ⟨mo, hmo⟩ : ∃ z, z = wpos u m + 1 := ⟨_, rfl⟩
   have hwp := HWP.out m (Nat.le_refl _)
   rw [← HM.out] at HI0 ⊢
   obtain ⟨uu, huu⟩ : ∃ z, z = wpos u m := ⟨_, rfl⟩
   rw [← huu] at hmo hwp ⊢
   have HMO := Lib.hid (show mo = wpos u m + 1 from by omega)
   have hwm : IntKind.i64.wrap (uu + 1) = mo := by rw [IntWalk.i64_in _ (by omega)]; omega
   clear huu hmo
   go_wp2_with fail
   go_loopg [12] T.n (fun gg v12 wx => ∃ (k : Nat) (ev : Value), k ≤ T.n ∧ gg = T.n - k ∧ v12 = .int .i64 k ∧ NwI w1 b4 ((m : Int) + 2) (edgesW m u m ++ ndE (T.toTr.needL (T.toTr.evsTo k 0)) mo) ev wx)
   case atStart => exact ⟨0, ev, by omega, rfl, rfl, by
    have hz : edgesW m u m ++ ndE (T.toTr.needL (T.toTr.evsTo 0 0)) mo = edgesW m u m := by simp [Tr.evsTo, Tr.needL, ndE]
    rw [hz]; exact HI0.out⟩
   case round =>
    obtain ⟨k, ev, hk, rfl, rfl, hI⟩ := hrel
    clear HI0 hx1r hxr hlt
    have hx1r := hI.hx
    have hxr := hx1.trans hx1r
    have HI0 := Lib.hid hI
    clear hI
    by_cases hlt : k < T.n
    ·have hlt' : (k : Int) < (T.n : Int) := by omega
     have hen := HV.out.en64 hlt
     have pb := HT.out.P.pb (by omega)
     have p2 : ∀ w', Ext w w' → w'.cell? ⟨T.b, T.off + k * 3 + 2, none⟩ = some (.slice (T.ea k) (T.en k) (T.ec k)) := fun w' h => HT.out.P.p2 w' h k hlt
     go_wp2_with fail
     go_loopg [13] (T.en k) (fun gg v13 wx => ∃ (i : Nat) (ev : Value), i ≤ T.en k ∧ gg = T.en k - i ∧ v13 = .int .i64 ((i : Int) + 1) ∧ NwI w1 b4 ((m : Int) + 2) (edgesW m u m ++ ndE (T.toTr.needL (T.toTr.evsTo k i)) mo) ev wx)
     case atStart => exact ⟨0, ev, by omega, rfl, rfl, HI0.out⟩
     case round =>
      obtain ⟨i, ev2, hi, rfl, rfl, hI⟩ := hrel
      clear HI0 hx1r hxr
      have hx1r := hI.hx
      have hxr := hx1.trans hx1r
      have HI0 := Lib.hid hI
      have HOL := Lib.hid (fun g e => (own_lt hI.own g e).2)
      have HBL := Lib.hid (show b4 < wr.heap.size from hI.h4.lt)
      clear hI
      by_cases hli : i < T.en k
      ·have hli' : (i : Int) + 1 ≤ (T.en k : Int) := by omega
       have d3 : decide ((i : Int) + 1 ≤ (T.en k : Int)) = true := decide_eq_true hli'
       have hw9 : IntKind.i64.wrap ((i : Int) + 1 + 1) = (i : Int) + 1 + 1 := IntWalk.i64_in _ (by omega)
       have HST := Lib.hid (T.toTr.needL_bk hlt hli)
       have HDK := Lib.hid (fun W (h : Ext w W) => HDI.out W h k i hlt hli)
       have HNK := Lib.hid (fun W (h : Ext w W) => HNU.out W h k i hlt hli)
       have hrr : Ext wr wr := Ext.refl _
       go_upto_region 24 with fail
       refine boxed1 (w := wr) (G := fun x => Code.wp _ _ _ _ x) ?_
       intro w8 hx8 hs8 ⟨l8, c8, f8, k8⟩
       have hx88 : Ext w8 w8 := Ext.refl _
       have hxw8 := hxr.trans hx8
       have hx18 := hx1r.trans hx8
       obtain ⟨bx, hbx⟩ : ∃ z, z = wr.heap.size := ⟨_, rfl⟩
       have HBX := Lib.hid hbx
       rw [← hbx] at l8 c8 f8 k8 ⊢
       have HK8 := Lib.hid k8
       clear hs8 hbx k8
       go_wp2_with fail
       go_at_call 92
       refine (HDK.out w8 hxw8).mono ?_
       rintro e w9 ⟨vl, rfl, hq, hx9⟩
       obtain ⟨la, lg, lc, rfl, hlr⟩ := EvOwn.shape hq
       have HLR := Lib.hid hlr
       have hx19 := hx18.trans hx9
       have hxw9 := hxw8.trans hx9
       have HK9 := Lib.hid (Hold.ext HK8.out hx9)
       have HI9 := Lib.hid (HI0.out.ext (hx8.trans hx9))
       have HS9 := Lib.hid (show wr.heap.size + 1 ≤ w9.heap.size from by have := Hold.lt HK8.out; have := HBX.out; have := hx9.le; omega)
       have HS8 := Lib.hid (show wr.heap.size ≤ w8.heap.size from hx8.le)
       obtain ⟨n, hn⟩ : ∃ z, z = ((T.toTr.bk (k, i)).map evI).length := ⟨_, rfl⟩
       rw [← hn] at HLR ⊢
       have HN := Lib.hid (show n = (T.toTr.bk (k, i)).length from by rw [hn, List.length_map])
       have hn2 : n ≤ 2 := by rw [HN.out]; exact T.toTr.bk_le _
       clear hq hlr hn hx8 hx9 hx18 hxw8 hx88 hrr
       go_wp2_with fail
       go_loopg [16] n (fun gg v16 wx => ∃ (j : Nat) (ev : Value), j ≤ n ∧ gg = n - j ∧ v16 = .int .i64 j ∧ NwI w1 b4 ((m : Int) + 2) (edgesW m u m ++ ndE (T.toTr.needL (T.toTr.evsTo k i) ++ T.toTr.bkJ (k, i) j) mo) ev wx ∧ (wx.heap[bx]? = w9.heap[bx]? ∧ (0 < n → wx.heap[lg]? = w9.heap[lg]?)) ∧ ev.ownBlock ≠ some bx ∧ (0 < n → ev.ownBlock ≠ some lg))
       case atStart => exact ⟨0, ev2, by omega, rfl, rfl, by
        have hz : T.toTr.needL (T.toTr.evsTo k i) ++ T.toTr.bkJ (k, i) 0 = T.toTr.needL (T.toTr.evsTo k i) := by simp [Tr.bkJ]
        rw [hz]; exact HI9.out, ⟨rfl, fun _ => rfl⟩, fun e => by have := HOL.out _ e; have := HBX.out; omega, fun h0 e => by have := HOL.out _ e; have := (HLR.out h0).2.1; have := HS8.out; omega⟩
       case round =>
        obtain ⟨j, ev3, hj, rfl, rfl, hI, hbs, he1, he2⟩ := hrel
        clear HI0 hx1r hxr
        have hx1r := hI.hx
        have hxr := hx1.trans hx1r
        by_cases hlj : j < n
        ·have hlj' : (j : Int) < (n : Int) := by omega
         obtain ⟨rfl, hlb, hll, hrow⟩ := HLR.out (by omega)
         have hjl : j < (T.toTr.bk (k, i)).length := by rw [← HN.out]; exact hlj
         obtain ⟨⟨yp, yi⟩, hy⟩ : ∃ y, y = (T.toTr.bk (k, i))[j] := ⟨_, rfl⟩
         have hy1 : (T.toTr.bk (k, i))[j]? = some (yp, yi) := by rw [hy]; exact List.getElem?_eq_getElem hjl
         have hyV := Tr.bk_V (T := T.toTr) (x := (k, i)) ⟨hlt, hli⟩ (List.mem_of_getElem? hy1)
         have HJN := Lib.hid (Tr.bkJ_next hy1)
         have HNY := Lib.hid (fun W (h : Ext w W) => HNU.out W h yp yi hyV.1 hyV.2)
         have hyd : ((T.toTr.bk (k, i)).map evI).getD j (0, 0) = ((yp : Int), (yi : Int) + 1) := by rw [List.getD_eq_getElem?_getD, List.getElem?_map, hy1]; rfl
         have hr0 := hrow.c0 j hlj
         have hr1 := hrow.c1 j hlj
         rw [hyd] at hr0 hr1
         obtain ⟨xa, hxa⟩ : ∃ z, z = T.toTr.num (k, i) := ⟨_, rfl⟩
         obtain ⟨xb, hxb⟩ : ∃ z, z = T.toTr.num (yp, yi) := ⟨_, rfl⟩
         have hxa5 : xa ≤ 510 := by rw [hxa]; have := Tr.num_lt (T := T.toTr) (x := (k, i)) ⟨hlt, hli⟩; have := HM.out; omega
         have hxb5 : xb ≤ 510 := by rw [hxb]; have := Tr.num_lt hyV; have := HM.out; omega
         have HNK2 := Lib.hid HNK.out
         rw [← hxa] at HNK2 HJN
         rw [← hxb] at HNY HJN
         have hlen : (edgesW m u m ++ ndE (T.toTr.needL (T.toTr.evsTo k i) ++ T.toTr.bkJ (k, i) j) mo).length ≤ 2000 := by
          have h1 := edgesW_len m u m
          have h2 := T.toTr.needL_len (T.toTr.evsTo k i)
          have h3 := T.toTr.evsTo_tot k i hlt (by omega)
          have h4 : tott T.en k + i ≤ m := by rw [HM.out]; exact Nat.le_of_lt (tott_lt T.en hlt hli)
          rw [tott_tot] at h4
          have h5 : (T.toTr.bkJ (k, i) j).length ≤ 2 := by
           unfold Tr.bkJ
           rw [List.length_map, List.length_take]
           have := HN.out; omega
          simp only [ndE, List.length_append, List.length_map]
          omega
         have HBS := Lib.hid (And.intro hbs.1 (hbs.2 (by omega)))
         have HNE := Lib.hid (And.intro he1 (he2 (by omega)))
         have HTB := Lib.hid (show w9.heap[w.heap.size]? = wr.heap[w.heap.size]? from by rw [hx19.block _ (Hold.lt HK0.out), hx1r.block _ (Hold.lt HK0.out)])
         have HXB := Lib.hid (show bx < w9.heap.size from Hold.lt HK9.out)
         have HU := Lib.hid (fun w' (h : w'.heap[w.heap.size]? = w9.heap[w.heap.size]? ∧ w'.heap[bx]? = w9.heap[bx]? ∧ w'.heap[lg]? = w9.heap[lg]?) => (show Box w' w.heap.size #[.slice (some ⟨T.b, T.off, none⟩) T.n T.cap] ∧ Box w' bx #[.int .i64 (k : Int), .int .i64 ((i : Int) + 1)] ∧ (∀ w'', Ext w' w'' → lg < w''.heap.size) ∧ (∀ w'', Ext w' w'' → w''.cell? ⟨lg, j * 2, none⟩ = some (.int .i64 (yp : Int))) ∧ (∀ w'', Ext w' w'' → w''.cell? ⟨lg, j * 2 + 1, none⟩ = some (.int .i64 ((yi : Int) + 1))) from
          ⟨(Hold.blk (Hold.ext HK0.out hx19) h.1).box, (Hold.blk HK9.out h.2.1).box, fun w'' x => Nat.lt_of_lt_of_le (heap_lt h.2.2 hll) x.le, fun w'' x => x.cell ((World.cell?_of_block (w := w9) (a := ⟨lg, j * 2, none⟩) h.2.2).trans hr0), fun w'' x => x.cell ((World.cell?_of_block (w := w9) (a := ⟨lg, j * 2 + 1, none⟩) h.2.2).trans hr1)⟩))
         obtain ⟨L, hL⟩ : ∃ L, L = edgesW m u m ++ ndE (T.toTr.needL (T.toTr.evsTo k i) ++ T.toTr.bkJ (k, i) j) mo := ⟨_, rfl⟩
         rw [← hL] at hI hlen
         have HL := Lib.hid hL
         obtain ⟨a6, c6, hev6⟩ := own_form (NwI.own hI)
         obtain ⟨ln, hln⟩ : ∃ z, z = L.length := ⟨_, rfl⟩
         rw [← hln] at hev6 hlen
         have HLN := Lib.hid hln
         subst hev6
         have HI := Lib.hid hI
         have HLL := Lib.hid hll
         have HLB := Lib.hid hlb
         clear hI hL hln hxa hxb hrow hlb hll hyd hr0 hr1 hy hy1 hbs he1 he2
         go_upto_region 28 with fail
         refine wp_region_T (t := 15) (S := fun w' => w'.heap[w.heap.size]? = w9.heap[w.heap.size]? ∧ w'.heap[bx]? = w9.heap[bx]? ∧ w'.heap[lg]? = w9.heap[lg]?) (R := fun w' => NwI w1 b4 ((m : Int) + 2) L (.slice a6 ln c6) w') (by kernel_rfl) ⟨HTB.out.symm, HBS.out⟩ (HI.out.ext (Ext.refl _).drew) (fun hHeld => ?_)
         refine takeS 0 (v := ?_) rfl (by kernel_rfl) (by kernel_rfl) (by kernel_rfl) (fun _ _ _ h => h) (by decide) (Or.inl ⟨by rfl, ?_⟩) hHeld.1 hHeld.2 ?_
         rotate_left
         ·(intro w' hSw; obtain ⟨⟨lA, cA, _, _⟩, ⟨lX, cX, _, _⟩, lL, cL0, cL1⟩ := HU.out w' hSw; have hSS := Ext.refl w'; go_simp; try with_reducible rfl)
         try simp only [Act.put, List.setIfInBounds_toArray, List.set_cons_zero, List.set_cons_succ]
         refine takeR 1 (v := ?_) rfl (by kernel_rfl) (by kernel_rfl) (by kernel_rfl) (by kernel_rfl) (by kernel_rfl) (fun _ _ _ h => h) (by decide) (Or.inl ⟨by rfl, ?_⟩) hHeld.1 hHeld.2 ?_
         rotate_left
         ·(intro w' hSw; obtain ⟨lB, cB, _, _⟩ := hSw.2.h4.box; have hSS := Ext.refl w'; go_simp; try with_reducible rfl)
         try simp only [Act.put, List.setIfInBounds_toArray, List.set_cons_zero, List.set_cons_succ]
         refine takeS 2 (v := ?_) rfl (by kernel_rfl) (by kernel_rfl) (by kernel_rfl) (fun _ _ _ h => h) (by decide) (Or.inl ⟨by rfl, ?_⟩) hHeld.1 hHeld.2 ?_
         rotate_left
         ·(intro w' hSw; obtain ⟨⟨lA, cA, _, _⟩, ⟨lX, cX, _, _⟩, lL, cL0, cL1⟩ := HU.out w' hSw; have hSS := Ext.refl w'; go_simp; try with_reducible rfl)
         try simp only [Act.put, List.setIfInBounds_toArray, List.set_cons_zero, List.set_cons_succ]
         refine takeS 3 (v := ?_) rfl (by kernel_rfl) (by kernel_rfl) (by kernel_rfl) (fun _ _ _ h => h) (by decide) (Or.inl ⟨by rfl, ?_⟩) hHeld.1 hHeld.2 ?_
         rotate_left
         ·(intro w' hSw; obtain ⟨⟨lA, cA, _, _⟩, ⟨lX, cX, _, _⟩, lL, cL0, cL1⟩ := HU.out w' hSw; have hSS := Ext.refl w'; go_simp; try with_reducible rfl)
         try simp only [Act.put, List.setIfInBounds_toArray, List.set_cons_zero, List.set_cons_succ]
         refine takeS 5 (v := ?_) rfl (by kernel_rfl) (by kernel_rfl) (by kernel_rfl) (fun _ _ _ h => h) (by decide) (Or.inl ⟨by rfl, ?_⟩) hHeld.1 hHeld.2 ?_
         rotate_left
         ·(intro w' hSw; obtain ⟨⟨lA, cA, _, _⟩, ⟨lX, cX, _, _⟩, lL, cL0, cL1⟩ := HU.out w' hSw; have hSS := Ext.refl w'; go_simp; try with_reducible rfl)
         try simp only [Act.put, List.setIfInBounds_toArray, List.set_cons_zero, List.set_cons_succ]
         refine takeS 6 (v := ?_) rfl (by kernel_rfl) (by kernel_rfl) (by kernel_rfl) (fun _ _ _ h => h) (by decide) (Or.inl ⟨by rfl, ?_⟩) hHeld.1 hHeld.2 ?_
         rotate_left
         ·(intro w' hSw; obtain ⟨⟨lA, cA, _, _⟩, ⟨lX, cX, _, _⟩, lL, cL0, cL1⟩ := HU.out w' hSw; have hSS := Ext.refl w'; go_simp; try with_reducible rfl)
         try simp only [Act.put, List.setIfInBounds_toArray, List.set_cons_zero, List.set_cons_succ]
         refine takeS 7 (v := ?_) rfl (by kernel_rfl) (by kernel_rfl) (by kernel_rfl) (fun _ _ _ h => h) (by decide) (Or.inl ⟨by rfl, ?_⟩) hHeld.1 hHeld.2 ?_
         rotate_left
         ·(intro w' hSw; obtain ⟨⟨lA, cA, _, _⟩, ⟨lX, cX, _, _⟩, lL, cL0, cL1⟩ := HU.out w' hSw; have hSS := Ext.refl w'; go_simp; try with_reducible rfl)
         try simp only [Act.put, List.setIfInBounds_toArray, List.set_cons_zero, List.set_cons_succ]
         refine takeS 8 (v := ?_) rfl (by kernel_rfl) (by kernel_rfl) (by kernel_rfl) (fun _ _ _ h => h) (by decide) (Or.inl ⟨by rfl, ?_⟩) hHeld.1 hHeld.2 ?_
         rotate_left
         ·(intro w' hSw; obtain ⟨⟨lA, cA, _, _⟩, ⟨lX, cX, _, _⟩, lL, cL0, cL1⟩ := HU.out w' hSw; have hSS := Ext.refl w'; go_simp; try with_reducible rfl)
         try simp only [Act.put, List.setIfInBounds_toArray, List.set_cons_zero, List.set_cons_succ]
         refine takeS 9 (v := ?_) rfl (by kernel_rfl) (by kernel_rfl) (by kernel_rfl) (fun _ _ _ h => h) (by decide) (Or.inl ⟨by rfl, ?_⟩) hHeld.1 hHeld.2 ?_
         rotate_left
         ·(intro w' hSw; obtain ⟨⟨lA, cA, _, _⟩, ⟨lX, cX, _, _⟩, lL, cL0, cL1⟩ := HU.out w' hSw; have hSS := Ext.refl w'; go_simp; try with_reducible rfl)
         try simp only [Act.put, List.setIfInBounds_toArray, List.set_cons_zero, List.set_cons_succ]
         refine takeS 11 (v := ?_) rfl (by kernel_rfl) (by kernel_rfl) (by kernel_rfl) (fun _ _ _ h => h) (by decide) (Or.inl ⟨by rfl, ?_⟩) hHeld.1 hHeld.2 ?_
         rotate_left
         ·(intro w' hSw; obtain ⟨⟨lA, cA, _, _⟩, ⟨lX, cX, _, _⟩, lL, cL0, cL1⟩ := HU.out w' hSw; have hSS := Ext.refl w'; go_simp; try with_reducible rfl)
         try simp only [Act.put, List.setIfInBounds_toArray, List.set_cons_zero, List.set_cons_succ]
         refine takeS 12 (v := ?_) rfl (by kernel_rfl) (by kernel_rfl) (by kernel_rfl) (fun _ _ _ h => h) (by decide) (Or.inl ⟨by rfl, ?_⟩) hHeld.1 hHeld.2 ?_
         rotate_left
         ·(intro w' hSw; obtain ⟨⟨lA, cA, _, _⟩, ⟨lX, cX, _, _⟩, lL, cL0, cL1⟩ := HU.out w' hSw; have hSS := Ext.refl w'; go_simp; try with_reducible rfl)
         try simp only [Act.put, List.setIfInBounds_toArray, List.set_cons_zero, List.set_cons_succ]
         refine wpAnyT_ready (rs := [4]) (by kernel_rfl) (by simp) ?_
         refine AllReadyT.cons rfl (fun K hK => ?_) AllReadyT.nil
         go_simp
         go_at_call 91
         refine (HNK2.out _ (hxr.drew)).mono ?_
         rintro e w10 ⟨rfl, hx10⟩
         refine hK.out _ _ ⟨⟨(hx10.block _ (Nat.lt_of_lt_of_le (Hold.lt HK0.out) hx1r.le)).trans hHeld.1.1, (hx10.block _ (heap_lt HBS.out.1 HXB.out)).trans hHeld.1.2.1, (hx10.block _ (heap_lt HBS.out.2 HLL.out)).trans hHeld.1.2.2⟩, hHeld.2.ext hx10⟩ (fun hHeld => ?_)
         clear hK K
         try simp only [Act.put, List.setIfInBounds_toArray, List.set_cons_zero, List.set_cons_succ]
         refine wpAnyT_ready (rs := [10]) (by kernel_rfl) (by simp) ?_
         refine AllReadyT.cons rfl (fun K hK => ?_) AllReadyT.nil
         go_simp
         go_at_call 91
         refine (HNY.out _ (hx1.trans hHeld.2.hx)).mono ?_
         rintro e w11 ⟨rfl, hx11⟩
         refine hK.out _ _ ⟨⟨(hx11.block _ (Nat.lt_of_lt_of_le (Hold.lt HK0.out) hHeld.2.hx.le)).trans hHeld.1.1, (hx11.block _ (heap_lt hHeld.1.2.1 HXB.out)).trans hHeld.1.2.1, (hx11.block _ (heap_lt hHeld.1.2.2 HLL.out)).trans hHeld.1.2.2⟩, hHeld.2.ext hx11⟩ (fun hHeld => ?_)
         clear hK K
         try simp only [Act.put, List.setIfInBounds_toArray, List.set_cons_zero, List.set_cons_succ]
         refine takeS 13 (v := ?_) rfl (by kernel_rfl) (by kernel_rfl) (by kernel_rfl) (fun _ _ _ h => h) (by decide) (Or.inl ⟨by rfl, ?_⟩) hHeld.1 hHeld.2 ?_
         rotate_left
         ·(intro w' hSw; obtain ⟨⟨lA, cA, _, _⟩, ⟨lX, cX, _, _⟩, lL, cL0, cL1⟩ := HU.out w' hSw; have hSS := Ext.refl w'; go_simp; try with_reducible rfl)
         try simp only [Act.put, List.setIfInBounds_toArray, List.set_cons_zero, List.set_cons_succ]
         refine wpAnyT_ready (rs := [14]) (by kernel_rfl) (by simp) ?_
         refine AllReadyT.cons rfl (fun K hK => ?_) AllReadyT.nil
         go_simp
         refine hK.out _ _ ⟨⟨((Ext.alloc w11 _).block _ (Nat.lt_of_lt_of_le (Hold.lt HK0.out) hHeld.2.hx.le)).trans hHeld.1.1, ((Ext.alloc w11 _).block _ (heap_lt hHeld.1.2.1 HXB.out)).trans hHeld.1.2.1, ((Ext.alloc w11 _).block _ (heap_lt hHeld.1.2.2 HLL.out)).trans hHeld.1.2.2⟩, hHeld.2.ext (Ext.alloc _ _)⟩ (fun hHeld2 => ?_)
         clear hK K
         try simp only [Act.put, List.setIfInBounds_toArray, List.set_cons_zero, List.set_cons_succ]
         refine wpAnyT_ready (rs := [15]) (by kernel_rfl) (by simp) ?_
         refine AllReadyT.late rfl (by decide) (fun K hK => ?_) AllReadyT.nil
         refine step_append_lies _ (by exact rfl) (.tmp 108) (.tmp 121) 42 (by exact rfl) (b4 + 1) 57 i1 (.agg #[.int .i64 0, .int .i64 0, .int .i64 0]) 3 24 Tryz.underlying42 hi1 hz0 hz1 hz2 rfl (by decide) (.slice a6 ln c6) ln (edCells L) (by exact rfl) (by have h1 := hHeld2.2.own; rw [← HLN.out] at h1; exact h1) ⟨w11.heap.size, 0, none⟩ 1 1 [.int .i64 (xa : Int), .int .i64 (xb : Int), .int .i64 mo] (by exact rfl) rfl (by intro j u hj; exact news_ok w11 [_, _, _] _ j u hj) (edge_one _ _ _) (by decide) (by unfold maxLen; omega) (by omega) (by have := hHeld.2.h4.lt; simp; omega) _ rfl ?_
         rintro g8 c8 w8 hown8 hg8 hor8 hlt8
         have HP := Lib.hid (NwI.push (t := (xa, xb, mo)) hHeld2.2 (Ext.refl _) (by rw [← HLN.out]; exact hown8) hg8)
         have HO8 := Lib.hid (fun z (hz : z < w11.heap.size) (hze : (Value.slice a6 ln c6).ownBlock ≠ some z) (e : (Value.slice (some ⟨g8, 0, none⟩) (ln + 1) c8).ownBlock = some z) => (show False from by
          simp [Value.ownBlock] at e
          subst e
          rcases hor8 with h | h
          ·exact hze h
          ·simp at h; omega))
         have HG8 := Lib.hid (fun z (hz : z < w11.heap.size) (hze : (Value.slice a6 ln c6).ownBlock ≠ some z) => (hg8.block z (by simp; omega) (fun e => hze e.symm)))
         have HZ1 := Lib.hid (show w.heap.size < w11.heap.size ∧ bx < w11.heap.size ∧ lg < w11.heap.size from ⟨Nat.lt_of_lt_of_le (Hold.lt HK0.out) hHeld.2.hx.le, heap_lt hHeld.1.2.1 HXB.out, heap_lt hHeld.1.2.2 HLL.out⟩)
         have HZ2 := Lib.hid (show (Value.slice a6 ln c6).ownBlock ≠ some w.heap.size from fun e => by have := (own_lt HI.out.own _ e).1; have := HB.out; have := HS1.out; omega)
         clear hown8 hg8 hor8 hlt8
         refine hK.out _ _ ⟨(HG8.out _ HZ1.out.1 HZ2.out).trans hHeld2.1.1, (HG8.out _ HZ1.out.2.1 HNE.out.1).trans hHeld2.1.2.1, (HG8.out _ HZ1.out.2.2 HNE.out.2).trans hHeld2.1.2.2⟩ (fun hHeld3 => ?_)
         clear hK K
         try simp only [Act.put, List.setIfInBounds_toArray]
         obtain ⟨l8, c8', f8, _⟩ := HP.out.1.box
         have hx88 : Ext w8 w8 := Ext.refl _
         refine wpAnyT_ready (rs := [16]) (by kernel_rfl) (by simp) ?_
         refine AllReadyT.late rfl (by decide) (fun K hK => ?_) AllReadyT.nil
         go_simp
         refine hK.out _ _ hHeld3 (fun hHeld4 => ?_)
         clear hK K
         try simp only [Act.put, List.setIfInBounds_toArray, List.set_cons_zero, List.set_cons_succ]
         refine wpAnyT_ready (rs := [17]) (by kernel_rfl) (by simp) ?_
         refine AllReadyT.late rfl (by decide) (fun K hK => ?_) AllReadyT.nil
         go_simp
         have HNB := Lib.hid (show w.heap.size ≠ b4 ∧ bx ≠ b4 ∧ lg ≠ b4 from ⟨by have := HB.out; have := HS1.out; omega, by have := HBX.out; have := HBL.out; omega, by have := HLB.out; have := HBL.out; have := HS8.out; omega⟩)
         refine hK.out _ _ ⟨(Below.heap_setCell _ _ _ _ HNB.out.1).trans hHeld4.1, (Below.heap_setCell _ _ _ _ HNB.out.2.1).trans hHeld4.2.1, (Below.heap_setCell _ _ _ _ HNB.out.2.2).trans hHeld4.2.2⟩ (fun hHeld5 => ?_)
         clear hK K
         try simp only [Act.put, List.setIfInBounds_toArray, List.set_cons_zero, List.set_cons_succ]
         refine wpAnyT_done (by kernel_rfl) ?_ _
         have HND := Lib.hid (show edgesW m u m ++ ndE (T.toTr.needL (T.toTr.evsTo k i) ++ T.toTr.bkJ (k, i) (j + 1)) mo = L ++ [(xa, xb, mo)] from by rw [HJN.out, ← List.append_assoc, ndE_append, ← List.append_assoc, ← HL.out]; rfl)
         generalize hw12 : w8.setCell ⟨b4, 1, none⟩ (.slice (some ⟨g8, 0, none⟩) (ln + 1) c8) = w12
         have HI12 := Lib.hid (show NwI w1 b4 ((m : Int) + 2) (edgesW m u m ++ ndE (T.toTr.needL (T.toTr.evsTo k i) ++ T.toTr.bkJ (k, i) (j + 1)) mo) (.slice (some ⟨g8, 0, none⟩) (ln + 1) c8) w12 from by rw [← hw12, HND.out]; exact HP.out.2)
         rw [hw12] at hHeld5
         have HH5 := Lib.hid hHeld5
         clear hw12 hHeld hHeld2 hHeld3 hHeld4 hHeld5 l8 c8' f8 hx88
         go_wp2_with fail
         go_roundg (n - (j + 1))
         case rel => exact ⟨j + 1, _, by omega, rfl, by go_num, HI12.out, ⟨HH5.out.2.1, fun _ => HH5.out.2.2⟩, fun e => HO8.out _ HZ1.out.2.1 HNE.out.1 e, fun _ e => HO8.out _ HZ1.out.2.2 HNE.out.2 e⟩
         case measure => omega
        ·obtain rfl : j = n := by omega
         have HI2 := Lib.hid (show NwI w1 b4 ((m : Int) + 2) (edgesW m u m ++ ndE (T.toTr.needL (T.toTr.evsTo k (i + 1))) mo) ev3 wr from by
          rw [HST.out, ← Tr.bkJ_all (j := j) (by rw [HN.out]; exact Nat.le_refl _)]; exact hI)
         clear hI hbs he1 he2
         go_wp2_with fail
         go_roundg (T.en k - (i + 1))
         case rel => exact ⟨i + 1, ev3, by omega, rfl, by go_num, HI2.out⟩
         case measure => omega
      ·obtain rfl : i = T.en k := by omega
       have d3 : decide ((T.en k : Int) + 1 ≤ (T.en k : Int)) = false := decide_eq_false (by omega)
       go_wp2_with fail
       go_roundg (T.n - (k + 1))
       case rel => exact ⟨k + 1, ev2, by omega, rfl, by go_num, by rw [← Tr.evsTo_next]; exact HI0.out⟩
       case measure => omega
    ·obtain rfl : k = T.n := by omega
     obtain ⟨ea, ec, hea⟩ := own_form HI0.out.own
     generalize (edgesW m u m ++ ndE (T.toTr.needL (T.toTr.evsTo T.n 0)) mo).length = eln at hea
     have HQ := Lib.hid (show EdOwn wr w.heap.size ev (closureNet m u T.toTr.needs) from by
      have h1 := HI0.out.own
      have h2 : edgesW m u m ++ ndE (T.toTr.needL (T.toTr.evsTo T.n 0)) mo = closureNet m u T.toTr.needs := by rw [HMO.out]; rfl
      rw [h2] at h1
      exact (Que.own h1).mono (by have := HB.out; have := hx1.le; omega))
     have HBL := Lib.hid (show ∀ g, ev.ownBlock = some g → g ≠ w.heap.size + 1 from fun g e => by have := (own_lt HI0.out.own g e).1; have := HB.out; have := HS1.out; omega)
     subst hea
     obtain ⟨l4, c4, f4, _⟩ := HI0.out.h4.box
     have HK1 := Lib.hid (Hold.ext k1 hx1r)
     have HX0 := Lib.hid hxr
     have hrr : Ext wr wr := Ext.refl _
     go_wp2_with fail
     try simp only [Exit.inBlock, Exit.then]
     refine bodyPost_ret (rnet_results _ _ _ _ _ rfl ((Hold.set (Hold.set HK1.out 0 _) 1 _).cell0 0) ((Hold.set (Hold.set HK1.out 0 _) 1 _).cell0 1)) rfl ?_
     refine ⟨(HX0.out.setCell (by show w.heap.size ≤ w.heap.size + 1; omega) _).setCell (by show w.heap.size ≤ w.heap.size + 1; omega) _, _, rfl, ?_⟩
     refine HQ.out.same' ?_ fun g e => ?_
     ·simp only [World.size_setCell]; exact Nat.le_refl _
     ·rw [Below.heap_setCell _ _ _ _ (show g ≠ w.heap.size + 1 from HBL.out g e), Below.heap_setCell _ _ _ _ (show g ≠ w.heap.size + 1 from HBL.out g e)]
end Go.Proofs.YtnknkkmdbnaglaaGreat

namespace Go.Proofs.YtnknkkmdbnaglaaGreat
open Go.RowKit Go.Shelf
set_option maxRecDepth 100000 in
set_option maxHeartbeats 1000000 in
theorem eqe_same (w : World) (a1 a2 : Option Addr) (g1 o1 g2 o2 c1 c2 : Nat) (L : List Edg) (h1 : EdAt w a1 g1 o1 L) (h2 : EdAt w a2 g2 o2 L) (n : Nat) (hn : n = L.length) :
    Calls Tryz.prog 90 #[.slice a1 n c1, .slice a2 n c2] w fun e w' => e = .returned (.bool true) ∧ Ext w w' := by
 have hn1 := h1.hn
 rw [← hn] at hn1
 have H1 := Lib.hid h1
 have H2 := Lib.hid h2
 have HN := Lib.hid hn
 have hww : Ext w w := Ext.refl _
 clear h1 h2 hn
 go_enter Tryz.func90, Tryz.ntmps90
 have d0 : ((n : Int) == (n : Int)) = true := by simp
 go_wp2_with fail
 go_loopg [13] n (fun gg v13 wr => ∃ k : Nat, k ≤ n ∧ gg = n - k ∧ v13 = .int .i64 k ∧ Ext w wr)
 case atStart => exact ⟨0, by omega, rfl, rfl, hww⟩
 case round =>
  obtain ⟨k, hk, rfl, rfl, hxr⟩ := hrel
  by_cases hlt : k < n
  ·have hlt' : (k : Int) < (n : Int) := by omega
   obtain rfl := H1.out.pa (by rw [← HN.out]; omega)
   obtain rfl := H2.out.pa (by rw [← HN.out]; omega)
   have hkL : k < L.length := by rw [← HN.out]; exact hlt
   have pb1 : ∀ w', Ext w w' → g1 < w'.heap.size := fun w' x => H1.out.pb (by omega) w' x
   have pb2 : ∀ w', Ext w w' → g2 < w'.heap.size := fun w' x => H2.out.pb (by omega) w' x
   obtain ⟨x, hx⟩ : ∃ x, x = (edgAt L k).1 := ⟨_, rfl⟩
   obtain ⟨y, hy⟩ : ∃ y, y = (edgAt L k).2.1 := ⟨_, rfl⟩
   obtain ⟨z, hz⟩ : ∃ z, z = (edgAt L k).2.2 := ⟨_, rfl⟩
   have p0 : ∀ w', Ext w w' → w'.cell? ⟨g1, o1 + k * 3, none⟩ = some (.int .i64 (x : Int)) := fun w' h => by rw [hx]; exact H1.out.p0 w' h k hkL
   have p1 : ∀ w', Ext w w' → w'.cell? ⟨g1, o1 + k * 3 + 1, none⟩ = some (.int .i64 (y : Int)) := fun w' h => by rw [hy]; exact H1.out.p1 w' h k hkL
   have p2 : ∀ w', Ext w w' → w'.cell? ⟨g1, o1 + k * 3 + 2, none⟩ = some (.int .i64 z) := fun w' h => by rw [hz]; exact H1.out.p2 w' h k hkL
   have q0 : ∀ w', Ext w w' → w'.cell? ⟨g2, o2 + k * 3, none⟩ = some (.int .i64 (x : Int)) := fun w' h => by rw [hx]; exact H2.out.p0 w' h k hkL
   have q1 : ∀ w', Ext w w' → w'.cell? ⟨g2, o2 + k * 3 + 1, none⟩ = some (.int .i64 (y : Int)) := fun w' h => by rw [hy]; exact H2.out.p1 w' h k hkL
   have q2 : ∀ w', Ext w w' → w'.cell? ⟨g2, o2 + k * 3 + 2, none⟩ = some (.int .i64 z) := fun w' h => by rw [hz]; exact H2.out.p2 w' h k hkL
   have d1 : ((x : Int) == (x : Int)) = true := by simp
   have d2 : ((y : Int) == (y : Int)) = true := by simp
   have d3 : (z == z) = true := by simp
   clear hx hy hz
   go_upto_region 6 with fail
   go_quiet (fail)
   have hq := hxr.drewN nq
   go_wp2_with fail
   go_roundg (n - (k + 1))
   case rel => exact ⟨k + 1, by omega, rfl, by go_num, hq⟩
   case measure => omega
  ·obtain rfl : k = n := by omega
   go_wp2_with fail
   go_ret
   exact ⟨rfl, hxr⟩
set_option maxRecDepth 100000 in
set_option maxHeartbeats 1000000 in
theorem same39_any (w : World) (a1 a2 : Option Addr) (g1 o1 g2 o2 c1 c2 : Nat) (L : List Edg) (h1 : EdAt w a1 g1 o1 L) (h2 : EdAt w a2 g2 o2 L) (n : Nat) (hn : n = L.length) (z : Int) :
    Calls Tryz.prog 27 #[.agg #[.int .i64 z, .slice a1 n c1], .agg #[.int .i64 z, .slice a2 n c2]] w fun e w' => e = .returned (.bool true) ∧ Ext w w' := by
 have HE := Lib.hid (fun W (h : Ext w W) => eqe_same W a1 a2 g1 o1 g2 o2 c1 c2 L (h1.ext h) (h2.ext h) n hn)
 have d1 : (z == z) = true := by simp
 clear h1 h2 hn
 go_enter Tryz.func27, Tryz.ntmps27
 go_upto_region 1 with fail
 refine boxed2 (w := w) (G := fun x => Code.wp _ _ _ _ x) ?_
 intro w1 hx1 hs1 ⟨l0, c0, _, _⟩ ⟨l1, c1', _, _⟩
 have hx11 : Ext w1 w1 := Ext.refl _
 clear hs1
 go_wp2_with fail
 go_at_call 90
 refine (HE.out w1 hx1).mono ?_
 rintro e w2 ⟨rfl, hx2⟩
 have hxw2 := hx1.trans hx2
 go_wp2_with fail
 go_ret
 exact ⟨rfl, hxw2⟩
end Go.Proofs.YtnknkkmdbnaglaaGreat
