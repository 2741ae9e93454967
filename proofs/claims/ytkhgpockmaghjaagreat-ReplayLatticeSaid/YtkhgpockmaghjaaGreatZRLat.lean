/-
  PROVED HERE: 'ReplayLattice' returns true for every trace and list of syncs, in every memory: no condition.
  (The row's step follows the shell that the kit's program wrote for 'LamportSteps'.)
-/
import Derived.Test.YtkhgpockmaghjaaGreatRows
import Derived.WalkKit
import Derived.Test.YtkhgpockmaghjaaGreatQ67
import Derived.Test.YtkhgpockmaghjaaGreatQ70
import Derived.Test.YtkhgpockmaghjaaGreatQ20
namespace Go.Proofs.YtkhgpockmaghjaaGreat.replayLattice
open Go.ChangeShapes Go.WideShapes Go.ChangeAt Go.RowKit Go.Shelf Go.Proofs.YtkhgpockmaghjaaGreat
set_option linter.unusedVariables false
def TruePost (w : World) (e : Ending) (w' : World) : Prop := e = .returned (.bool true) ∧ Ext w w'
theorem cuts_needed {T : Tr} {L : List Syn} {w w' : World} {e : Ending} {R : List Row} (hf : PFault T L True False 0) (hR : IsPCuts T L (R.map Row.l)) (hl : R.length ≤ 5000) (h : PCutsPost T (T.ndL L L.length) w e w') :
    Ext w w' ∧ ∃ v R', e = .returned (.tuple #[v, .int .i64 0]) ∧ RowsQ w' w.heap.size v R' ∧ R'.map Row.l = R.map Row.l := by
 obtain ⟨⟨hV, _⟩, h1, h2, _, hA⟩ := hf.ok
 have hsub : ∀ s, s ∈ T.ndL L L.length → s ∈ L := fun s hs => ndL_sub hs
 have hfn : PFault T (T.ndL L L.length) True False 0 := .inr (.inr ⟨.inr (.inr (.inr ⟨⟨hV, trivial⟩, Nat.le_trans (ndL_len T L _) h1, h2.mono hsub, id, rfl⟩)), NoCyc.mono h2 hsub hA, rfl⟩)
 have hiff : ∀ l, PCutL T (T.ndL L L.length) l ↔ PCutL T L l := fun l => by unfold PCutL; rw [pcut_needed hV h2 hA]
 obtain ⟨hx, h⟩ := h
 refine ⟨hx, ?_⟩
 rcases h with ⟨r, k1, k2, _⟩ | ⟨_, ⟨v, R', k1, k2, k3, _⟩ | ⟨_, M, k2, k3, k4⟩⟩
 ·exact absurd (k1.uniq hfn Iff.rfl Iff.rfl) k2
 ·exact ⟨v, R', k1, k2, IsPCuts.uniq ⟨k3.1, fun l => (k3.2 l).trans (hiff l)⟩ hR⟩
 ·have := sub_len (pw_nodup (r := fun a b : List Nat => befP T.n (fn a) (fn b)) (fun _ => befP_irrefl _ _) k2) fun x hx => (hR.2 x).2 ((hiff x).1 (k3 x hx))
  rw [List.length_map] at this; omega
noncomputable def okB (L : List Syn) (l : List Nat) : Bool := @decide (PerP L (natV (fn l))) (Classical.propDecidable _)
theorem okB_iff {L : List Syn} {l : List Nat} : okB L l = true ↔ PerP L (natV (fn l)) := by unfold okB; exact @decide_eq_true_iff _ (Classical.propDecidable _)
theorem filter_cuts {T : Tr} {L : List Syn} {A M : List (List Nat)} (hA : IsPCuts T L A) (hM : IsCuts T M) : M.filter (okB L) = A := by
 refine IsPCuts.uniq (T := T) (L := L) ⟨hM.1.filter _, fun l => ?_⟩ hA
 rw [List.mem_filter, hM.2, okB_iff]
 exact ⟨fun h => ⟨h.1.1, h.1.2, h.2⟩, fun h => ⟨⟨h.1, h.2.cut⟩, h.2.per⟩⟩
set_option maxRecDepth 100000 in
set_option maxHeartbeats 8000000 in
theorem walk (T : TM) (D : SyD) (w : World) (hT : T.At w) (hD : D.At w) :
    Calls Tryz.prog 8 #[T.val, .slice D.s.a D.s.n D.s.c] w (TruePost w) := by
 have HT := Lib.hid hT
 have HD := Lib.hid hD
 have hdn := hD.hn
 have HBIG := Lib.hid (fun W (x : Ext w W) => big_any W T (hT.ext x) D.s.a D.s.n D.s.c hdn)
 have HEV := Lib.hid (fun W (x : Ext w W) (h : BigNo T.toTr D.s.n) => revents_tot W T (hT.ext x) (by have := h.n; omega) (fun k hk => by have := (h.p k hk).1; omega))
 have HCU := Lib.hid (fun W (x : Ext w W) (h : BigNo T.toTr D.s.n) => pcuts_any W T (hT.ext x) (by have := h.n; omega) D (hD.ext x))
 have HCN := Lib.hid (fun W (x : Ext w W) (h : BigNo T.toTr D.s.n) (D' : SyD) (h' : D'.At W) => pcuts_any W T (hT.ext x) (by have := h.n; omega) D' h')
 have HND := Lib.hid (fun W (x : Ext w W) (h : BigNo T.toTr D.s.n) => pneeded_any W T (hT.ext x) (by have := h.n; omega) D (hD.ext x))
 have HKL := Lib.hid (fun W (x : Ext w W) (hV : T.toTr.Valid) => kList2_any W T (hT.ext x) hV)
 obtain ⟨ta, hta⟩ : ∃ z, z = T.a := ⟨_, rfl⟩
 obtain ⟨da, hda⟩ : ∃ z, z = D.s.a := ⟨_, rfl⟩
 obtain ⟨dn, hdn'⟩ : ∃ z, z = D.s.n := ⟨_, rfl⟩
 obtain ⟨tt, htt⟩ : ∃ z, z = tot T.en T.n := ⟨_, rfl⟩
 simp only [TM.val, ← hta] at HBIG HEV HCU HCN HND HKL ⊢
 rw [← hda, ← hdn'] at HBIG HCU HND
 rw [← hdn'] at HEV HCN hdn
 rw [← htt] at HEV
 rw [← hda, ← hdn']
 have HDN := Lib.hid (And.intro hda hdn')
 have HTT := Lib.hid htt
 clear hT hD hta hda hdn' htt
 go_enter Tryz.func8, Tryz.ntmps8
 go_upto_region 1 with fail
 refine boxed1 (w := w) (G := fun x => Code.wp _ _ _ _ x) ?_
 intro w1 hx1 hs1 ⟨l0, c0, _, _⟩
 have hx11 : Ext w1 w1 := Ext.refl _
 clear hs1
 go_wp2_with fail
 go_at_call 9
 refine (awake45_any w1).mono ?_
 rintro e w2 ⟨rfl, hx2⟩
 have hxw2 := hx1.trans hx2
 go_wp2_with fail
 go_at_call 10
 refine (HBIG.out w2 hxw2).mono ?_
 rintro e w3 ⟨bb, rfl, hbb, hx3⟩
 have hxw3 := hxw2.trans hx3
 have hx13 := hx2.trans hx3
 cases bb with
 | true =>
  clear hbb
  go_wp2_with fail
  go_ret
  exact ⟨rfl, hxw3⟩
 | false =>
 have HB := Lib.hid (hbb rfl)
 clear hbb
 go_wp2_with fail
 go_at_call 24
 refine (HEV.out w3 hxw3 HB.out).mono ?_
 rintro e w4 ⟨rfl, hx4⟩
 have hxw4 := hxw3.trans hx4
 have hx14 := hx13.trans hx4
 by_cases h14 : 14 < tt
 ·have b1 : decide ((14 : Int) < (tt : Int)) = true := decide_eq_true (by omega)
  have b1' : decide (14 < tt) = true := decide_eq_true h14
  go_wp2_with fail
  go_ret
  exact ⟨rfl, hxw4⟩
 have b1 : decide ((14 : Int) < (tt : Int)) = false := decide_eq_false (by omega)
 have b1' : decide (14 < tt) = false := decide_eq_false h14
 by_cases h40 : 40 < dn
 ·have b2 : decide ((40 : Int) < (dn : Int)) = true := decide_eq_true (by omega)
  have b2' : decide (40 < dn) = true := decide_eq_true h40
  go_wp2_with fail
  go_ret
  exact ⟨rfl, hxw4⟩
 have b2 : decide ((40 : Int) < (dn : Int)) = false := decide_eq_false (by omega)
 have b2' : decide (40 < dn) = false := decide_eq_false h40
 clear hx2 hx3 hx4 hxw2 hxw3 hx13
 go_wp2_with fail
 go_at_call 25
 refine (HCU.out w4 hxw4 HB.out).mono ?_
 rintro e w5 ⟨hx5, hp⟩
 have hxw5 := hxw4.trans hx5
 have hx15 := hx14.trans hx5
 clear b1 b1' b2 b2'
 rcases hp with ⟨r, hf, hr, rfl⟩ | ⟨hf, ⟨va, R, rfl, hR, hC, hl⟩ | ⟨rfl, hM⟩⟩
 ·have d1 : (r == 0) = false := by simpa using hr
  have d1' : (r != 0) = true := by simpa using hr
  clear hf hr
  go_wp2_with fail
  go_ret
  exact ⟨rfl, hxw5⟩
 ·obtain ⟨aa, ac, hva⟩ := hR.1.slice
  subst hva
  obtain ⟨na, hna⟩ : ∃ z, z = R.length := ⟨_, rfl⟩
  have HNA := Lib.hid hna
  rw [← hna] at hR hl
  rw [← hna]
  have HR := Lib.hid hR
  have HF := Lib.hid hf
  have HC := Lib.hid hC
  clear hf hR hC hna
  go_wp2_with fail
  go_at_call 11
  refine (HND.out w5 hxw5 HB.out).mono ?_
  rintro e w6 ⟨hx6, hp⟩
  have hxw6 := hxw5.trans hx6
  have hx16 := hx15.trans hx6
  have hx56 := hx6
  clear hx5 hx6
  obtain ⟨v7, rfl, hq7⟩ : ∃ v, e = .returned (.tuple #[v, .int .i64 0]) ∧ Que w6 w5.heap.size 4 v (T.toTr.ndL D.l D.l.length).length (synCells (T.toTr.ndL D.l D.l.length)) := by
   rcases hp with ⟨r, k1, k2, _⟩ | ⟨_, v, k1, k2⟩
   ·exact absurd (k1.uniq HF.out Iff.rfl Iff.rfl) k2
   ·rw [D.len, ← HDN.out.2]; exact ⟨v, k1, k2⟩
  have hok := HF.out.ok
  obtain ⟨D2, hv7, hD2, hDl⟩ := que_syD hq7 rfl (Nat.le_trans (ndL_len _ _ _) hok.2.1) (SynOk.okI (T := T.toTr) (by have := HB.out.n; omega) (fun p hp => by have := (HB.out.p p hp).1; omega) (hok.2.2.1.mono fun s hs => ndL_sub hs))
  subst hv7
  have hc2 := HCN.out w6 hxw6 HB.out D2 hD2
  rw [hDl] at hc2
  clear hp hq7 hok hD2 hDl
  go_wp2_with fail
  go_at_call 25
  refine hc2.mono ?_
  rintro e w7 hp
  obtain ⟨hx7, vb, R2, rfl, hR2, hRR⟩ := cuts_needed HF.out HC.out (by rw [← HNA.out]; exact hl) hp
  obtain ⟨ba, bc, hvb⟩ := hR2.1.slice
  subst hvb
  have hn2 : R2.length = na := by have := congrArg List.length hRR; rw [List.length_map, List.length_map] at this; rw [HNA.out]; exact this
  rw [hn2] at hR2
  rw [hn2]
  have hxw7 := hxw6.trans hx7
  have hx17 := hx16.trans hx7
  have hx57 := hx56.trans hx7
  have HR2 := Lib.hid (And.intro hR2 hRR)
  have HN2 := Lib.hid hn2
  clear hp hR2 hRR hn2 hc2 hx7 hx56 hxw6 hx16
  go_wp2_with fail
  go_at_call 34
  refine (HKL.out w7 hxw7 HF.out.ok.1.1).mono ?_
  rintro e w8 ⟨hx8, vc, ch, RA, rfl, hRA, hlA, hch⟩
  obtain ⟨ca, cc, hvc⟩ := hRA.1.slice
  subst hvc
  obtain ⟨nc, hnc⟩ : ∃ z, z = RA.length := ⟨_, rfl⟩
  have HNC := Lib.hid hnc
  rw [← hnc] at hRA hlA
  rw [← hnc]
  have hxw8 := hxw7.trans hx8
  have hx18 := hx17.trans hx8
  have hx58 := hx57.trans hx8
  have HRA := Lib.hid hRA
  have HCH := Lib.hid hch
  have hsm := rsames_any w8 (.slice aa na ac) (.slice ba na bc) w4.heap.size w6.heap.size R R2 (HR.out.ext hx58) (HR2.out.1.ext hx8) (by rw [← HNA.out]; omega) (by rw [HN2.out]; omega)
  have hsm := bool_fix hsm (b := true) ⟨fun _ => HR2.out.2.symm, fun _ => rfl⟩
  clear hnc hRA hch hx17 hx57 hxw7
  go_wp2_with fail
  go_at_call 28
  refine hsm.mono ?_
  rintro e w9 ⟨rfl, hx9⟩
  have hxw9 := hxw8.trans hx9
  have hx19 := hx18.trans hx9
  have hx59 := hx58.trans hx9
  have hx89 := hx9
  clear hsm hx9
  obtain ⟨i9, hi9⟩ : ∃ M : List (List Nat), M = RA.map Row.l := ⟨_, rfl⟩
  have HM := Lib.hid hi9
  have HFI := Lib.hid (show ch = 0 → (RA.map Row.l).filter (okB D.l) = R.map Row.l from fun h0 => by
   rcases HCH.out with ⟨_, h1⟩ | ⟨h1, _⟩
   ·exact filter_cuts HC.out h1
   ·omega)
  have HNL := Lib.hid (show ch = 16 → nc = 0 from fun h0 => by
   rcases HCH.out with ⟨h1, _⟩ | ⟨_, h1⟩
   ·omega
   ·rw [HNC.out, h1]; rfl)
  have HLT := Lib.hid (fun W (x : Ext w5 W) => lattice_any W (.slice aa na ac) w4.heap.size T.n R (HR.out.ext x) (by rw [← HNA.out]; omega) (by have := HB.out.n; omega) (fun r hr => ((HC.out.2 _).1 (List.mem_map_of_mem hr)).1)
   (fun r hr s hs => by
    have h1 := ((HC.out.2 _).1 (List.mem_map_of_mem (f := Row.l) hr)).2
    have h2 := ((HC.out.2 _).1 (List.mem_map_of_mem (f := Row.l) hs)).2
    obtain ⟨t, h3, h4⟩ := List.mem_map.1 ((HC.out.2 _).2 (pcutL_row HF.out.ok.2.2.1 (pcut_max HF.out.ok.2.2.1 h1 h2)))
    exact ⟨t, h3, h4⟩)
   (fun r hr s hs => by
    have h1 := ((HC.out.2 _).1 (List.mem_map_of_mem (f := Row.l) hr)).2
    have h2 := ((HC.out.2 _).1 (List.mem_map_of_mem (f := Row.l) hs)).2
    obtain ⟨t, h3, h4⟩ := List.mem_map.1 ((HC.out.2 _).2 (pcutL_row HF.out.ok.2.2.1 (pcut_min HF.out.ok.2.2.1 h1 h2)))
    exact ⟨t, h3, h4⟩))
  have hch3 : ch = 0 ∨ ch = 16 := by rcases HCH.out with ⟨h1, _⟩ | ⟨h1, _⟩ <;> omega
  clear hi9
  rcases hch3 with hch0 | hch0
  ·subst hch0
   have HFF := Lib.hid (show 0 < nc → (RA.map Row.l).filter (okB D.l) = R.map Row.l from fun _ => HFI.out rfl)
   have HEND := Lib.hid (show ((RA.map Row.l).filter (okB D.l)).length = na from by rw [HFI.out rfl, List.length_map, HNA.out])
   by_cases h120 : na ≤ 120
   ·have b3 : decide ((na : Int) ≤ 120) = true := decide_eq_true (by omega)
    have b3' : decide (na ≤ 120) = true := decide_eq_true h120
    go_wp2_with fail
    go_at_call 41
    refine (HLT.out w9 hx59).mono ?_
    rintro e w10 ⟨rfl, hx10⟩
    have hx110 := hx19.trans hx10
    have hxw10 := hxw9.trans hx10
    have hx510 := hx59.trans hx10
    have hx810 := hx89.trans hx10
    clear hx10 b3 b3'
    obtain ⟨aa', ag, ao, ac', ea1, _, ea3, ea4⟩ := HR.out.get
    rw [← HNA.out] at ea1 ea3
    simp only [Value.slice.injEq] at ea1
    obtain ⟨rfl, _, rfl⟩ := ea1
    obtain ⟨ca', cg, co, cc', ec1, _, ec3, ec4⟩ := HRA.out.get
    rw [← HNC.out] at ec1 ec3
    simp only [Value.slice.injEq] at ec1
    obtain ⟨rfl, _, rfl⟩ := ec1
    have EA := Lib.hid (And.intro ea3 ea4)
    have EC := Lib.hid (And.intro ec3 ec4)
    clear ea3 ea4 ec3 ec4 hx19 hxw9 hx59 hx89
    go_wp2_with fail
    go_loopg [13, 90] nc (fun gg v13 v90 wr => ∃ (i kk : Nat), i ≤ nc ∧ gg = nc - i ∧ v90 = .int .i64 i ∧ v13 = .int .i64 kk ∧ kk = (((RA.map Row.l).take i).filter (okB D.l)).length ∧ Ext w10 wr)
    case atStart => exact ⟨0, 0, by omega, rfl, rfl, rfl, rfl, Ext.refl _⟩
    case round =>
     obtain ⟨i, kk, hi, rfl, rfl, rfl, hkk, hxr⟩ := hrel
     have HKK := Lib.hid hkk
     have hxwr := hxw10.trans hxr
     clear hkk
     by_cases hin : i < nc
     case neg =>
      obtain rfl : i = nc := by omega
      have hkn : kk = na := by rw [HKK.out, ← HEND.out, List.take_of_length_le (by rw [List.length_map, ← HNC.out]; exact Nat.le_refl _)]
      subst hkn
      go_wp2_with fail
      go_ret
      exact ⟨ret_bool (by first | rfl | simp), hxwr⟩
     have hin' : (i : Int) < (nc : Int) := by omega
     have hiA : i < RA.length := by rw [← HNC.out]; exact hin
     obtain ⟨rfl, _, hcg⟩ := EC.out.1 (by omega)
     obtain ⟨r, hr⟩ : ∃ r, r = RA[i] := ⟨_, rfl⟩
     have hrA : r ∈ RA := by rw [hr]; exact List.getElem_mem hiA
     have hri : (RA.map Row.l)[i]? = some r.l := by rw [List.getElem?_map, List.getElem?_eq_getElem hiA, ← hr]; rfl
     have hrl : r.l.length = T.n := by
      rcases HCH.out with ⟨_, h1⟩ | ⟨_, h1⟩
      ·exact ((h1.2 _).1 (List.mem_map_of_mem hrA)).1
      ·rw [h1] at hrA; cases hrA
     have pb := fun w' (x : Ext w8 w') => Nat.lt_of_lt_of_le hcg x.le
     have p1 : ∀ w', Ext w8 w' → w'.cell? ⟨cg, co + i, none⟩ = some (.slice r.a T.n r.c) := fun w' x => by rw [← hrl, hr]; exact EC.out.2 i hiA w' x
     have hnum : ∀ W, Ext w8 W → NumAt W T.n r.a r.g r.o (natV (fn r.l)) := fun W x => by have := Row.At.ext (HRA.out.2 r hrA) x; unfold Row.At at this; rw [hrl] at this; exact this
     have HNUM := Lib.hid hnum
     have hx8r := hx810.trans hxr
     have hx5r := hx510.trans hxr
     have hx1r := hx110.trans hxr
     clear hcg hr hrA
     go_upto_region 19 with fail
     refine boxed1 (w := wr) (G := fun x => Code.wp _ _ _ _ x) ?_
     intro w12 hx12 hs12 ⟨l15, c15, _, k15⟩
     have hx1212 : Ext w12 w12 := Ext.refl _
     have hx812 := hx8r.trans hx12
     have hx512 := hx5r.trans hx12
     have hx112 := hx1r.trans hx12
     have hxw12 := hxwr.trans hx12
     have hx1012 := hxr.trans hx12
     have HHD := Lib.hid (HD.out.ext hxw12)
     have HHN := Lib.hid (HNUM.out w12 hx812)
     have HK15 := Lib.hid (show Hold w12 wr.heap.size #[.slice r.a T.n r.c] from k15)
     have hhs := has_Sync w12 D.s.a D.s.b D.s.o D.s.n D.s.c (fun i => .int .i64 (D.x i).1) (fun i => .int .i64 (D.x i).2) (fun i => .int .i64 (D.y i).1) (fun i => .int .i64 (D.y i).2) 43 #[.pointer (some ⟨wr.heap.size, 0, none⟩)] (fun i => brk (natV (fn r.l)) (D.at i)) HD.out.hn HD.out.ha
      (fun w' y i hi => (HHD.out.ext y).c0 i hi) (fun w' y i hi => (HHD.out.ext y).c1 i hi) (fun w' y i hi => (HHD.out.ext y).c2 i hi) (fun w' y i hi => (HHD.out.ext y).c3 i hi) (enters_of Tryz.func43 (by kernel_rfl) rfl)
      (fun i hi w' y => lat1_any w' (T := T.toTr) r.a r.g r.o r.c (natV (fn r.l)) (HHN.out.ext y) (D.at i) (HF.out.ok.2.2.1 _ (SyD.mem.2 ⟨i, hi, rfl⟩)).1 (HF.out.ok.2.2.1 _ (SyD.mem.2 ⟨i, hi, rfl⟩)).2 wr.heap.size (HK15.out.ext y))
     obtain ⟨q, hq⟩ : ∃ q, q = anyB (fun i => brk (natV (fn r.l)) (D.at i)) D.s.n := ⟨_, rfl⟩
     have HQ := Lib.hid (show q = false ↔ okB D.l r.l = true from by
      rw [hq, okB_iff, brk_iff, Bool.eq_false_iff, ne_eq, anyB_iff]
      constructor
      ·intro h s hs
       obtain ⟨i, hi, rfl⟩ := SyD.mem.1 hs
       exact Bool.eq_false_iff.2 fun hn => h ⟨i, hi, hn⟩
      ·rintro h ⟨i, hi, h1⟩
       rw [h _ (SyD.mem.2 ⟨i, hi, rfl⟩)] at h1; cases h1)
     rw [← hq, ← HDN.out.1, ← HDN.out.2] at hhs
     have HRI := Lib.hid hri
     clear hs12 hq k15 hri p1 pb hnum
     go_wp2_with fail
     go_at_call 42
     refine hhs.mono ?_
     rintro e w13 ⟨rfl, hx13⟩
     have hx813 := hx812.trans hx13
     have hx513 := hx512.trans hx13
     have hx113 := hx112.trans hx13
     have hx1013 := hx1012.trans hx13
     have hxw13 := hxw12.trans hx13
     clear hhs
     have hg0 : ∀ d os, Ext w (Sort.grow (redrawn w13 d) os) := fun d os => hxw13.trans (below_regrown w13 d os)
     have hg1 : ∀ d os, Ext w1 (Sort.grow (redrawn w13 d) os) := fun d os => hx113.trans (below_regrown w13 d os)
     have hg5 : ∀ d os, Ext w5 (Sort.grow (redrawn w13 d) os) := fun d os => hx513.trans (below_regrown w13 d os)
     have hg8 : ∀ d os, Ext w8 (Sort.grow (redrawn w13 d) os) := fun d os => hx813.trans (below_regrown w13 d os)
     have hg10 : ∀ d os, Ext w10 (Sort.grow (redrawn w13 d) os) := fun d os => hx1013.trans (below_regrown w13 d os)
     have hg12 : ∀ d os, Ext w12 (Sort.grow (redrawn w13 d) os) := fun d os => hx13.trans (below_regrown w13 d os)
     have hg13 : ∀ d os, Ext w13 (Sort.grow (redrawn w13 d) os) := fun d os => below_regrown w13 d os
     cases q with
     | true =>
      have HS := Lib.hid (show (((RA.map Row.l).take (i + 1)).filter (okB D.l)).length = kk from by
       have h1 : okB D.l r.l = false := Bool.eq_false_iff.2 fun h => absurd (HQ.out.2 h) (by decide)
       rw [HKK.out, List.take_add_one, HRI.out, List.filter_append, List.length_append]
       simp [h1])
      go_upto_region 20 with fail
      refine wp_region_quiet_below (by kernel_rfl) (by kernel_rfl) ?_
      repeat (go_big_quiet_step (fail))
      refine wpQuiet_nil ?_
      intro _ hw'
      obtain ⟨⟨dq, osq⟩, hw''⟩ := hw'
      subst hw''
      have hx20 := hg10 dq osq
      clear hg0 hg1 hg5 hg8 hg10 hg12 hg13
      generalize Sort.grow (redrawn w13 dq) osq = w20 at hx20 ⊢
      go_wp2_with fail
      go_roundg (nc - (i + 1))
      case rel => exact ⟨i + 1, kk, by omega, rfl, by go_num, rfl, HS.out.symm, hx20⟩
      case measure => omega
     | false =>
      have HOK := Lib.hid (HQ.out.1 rfl)
      have HS := Lib.hid (show (((RA.map Row.l).take (i + 1)).filter (okB D.l)).length = kk + 1 from by
       rw [HKK.out, List.take_add_one, HRI.out, List.filter_append, List.length_append]
       simp [HOK.out])
      have HAK := Lib.hid (show (R.map Row.l)[kk]? = some r.l from by rw [← HFF.out (by omega), HKK.out]; exact filter_at HRI.out HOK.out)
      have hka : kk < R.length := by have := (List.getElem?_eq_some_iff.1 HAK.out).1; rw [List.length_map] at this; exact this
      have hkn : kk < na := by rw [HNA.out]; exact hka
      have hkn1 : (kk : Int) < (na : Int) := by omega
      have hkn2 : ¬ (na : Int) ≤ (kk : Int) := by omega
      have hkn3 : ¬ na ≤ kk := by omega
      have b9 : decide ((na : Int) ≤ (kk : Int)) = false := decide_eq_false hkn2
      have b9' : decide (na ≤ kk) = false := decide_eq_false hkn3
      obtain ⟨rfl, _, hag⟩ := EA.out.1 (by omega)
      obtain ⟨s, hs⟩ : ∃ s, s = R[kk] := ⟨_, rfl⟩
      have hsl : s.l = r.l := by
       have h1 := HAK.out
       rw [List.getElem?_map, List.getElem?_eq_getElem hka, ← hs] at h1
       exact Option.some.inj h1
      have qb := fun w' (x : Ext w5 w') => Nat.lt_of_lt_of_le hag x.le
      have q1 : ∀ w', Ext w5 w' → w'.cell? ⟨ag, ao + kk, none⟩ = some (.slice s.a T.n s.c) := fun w' x => by rw [← hrl, ← hsl, hs]; exact EA.out.2 kk hka w' x
      have hsA : s ∈ R := by rw [hs]; exact List.getElem_mem hka
      have heq := fun W (x : Ext w5 W) (y : Ext w8 W) => bool_fix (eqi_any W s.a r.a s.g s.o r.g r.o T.n T.n s.c r.c (natV (fn s.l)) (natV (fn r.l)) (by have := Row.At.ext (HR.out.2 s hsA) x; unfold Row.At at this; rw [hsl, hrl] at this; rw [hsl]; exact this) (HNUM.out W y)) (b := true) ⟨fun _ => ⟨rfl, fun _ _ => by rw [hsl]⟩, fun _ => rfl⟩
      clear hs hsA hag hka hsl hrl
      go_upto_region 20 with fail
      refine wp_region_quiet_below (by kernel_rfl) (by kernel_rfl) ?_
      repeat (go_big_quiet_step (exact Calls.regrown_of (heq _ (hg5 _ _) (hg8 _ _))))
      refine wpQuiet_nil ?_
      intro _ hw'
      obtain ⟨⟨dq, osq⟩, hw''⟩ := hw'
      subst hw''
      have hx20 := hg10 dq osq
      clear hg0 hg1 hg5 hg8 hg10 hg12 hg13
      generalize Sort.grow (redrawn w13 dq) osq = w20 at hx20 ⊢
      clear heq qb q1
      go_wp2_with fail
      go_roundg (nc - (i + 1))
      case rel => exact ⟨i + 1, kk + 1, by omega, rfl, by go_num, by go_num, HS.out.symm, hx20⟩
      case measure => omega
   ·have b3 : decide ((na : Int) ≤ 120) = false := decide_eq_false (by omega)
    have b3' : decide (na ≤ 120) = false := decide_eq_false h120
    have hx110 := hx19
    have hxw10 := hxw9
    have hx510 := hx59
    have hx810 := hx89
    obtain ⟨w10, hw10⟩ : ∃ z, z = w9 := ⟨_, rfl⟩
    rw [← hw10] at hx110 hxw10 hx510 hx810 ⊢
    clear hw10
    obtain ⟨aa', ag, ao, ac', ea1, _, ea3, ea4⟩ := HR.out.get
    rw [← HNA.out] at ea1 ea3
    simp only [Value.slice.injEq] at ea1
    obtain ⟨rfl, _, rfl⟩ := ea1
    obtain ⟨ca', cg, co, cc', ec1, _, ec3, ec4⟩ := HRA.out.get
    rw [← HNC.out] at ec1 ec3
    simp only [Value.slice.injEq] at ec1
    obtain ⟨rfl, _, rfl⟩ := ec1
    have EA := Lib.hid (And.intro ea3 ea4)
    have EC := Lib.hid (And.intro ec3 ec4)
    clear ea3 ea4 ec3 ec4 hx19 hxw9 hx59 hx89
    go_wp2_with fail
    go_loopg [13, 90] nc (fun gg v13 v90 wr => ∃ (i kk : Nat), i ≤ nc ∧ gg = nc - i ∧ v90 = .int .i64 i ∧ v13 = .int .i64 kk ∧ kk = (((RA.map Row.l).take i).filter (okB D.l)).length ∧ Ext w10 wr)
    case atStart => exact ⟨0, 0, by omega, rfl, rfl, rfl, rfl, Ext.refl _⟩
    case round =>
     obtain ⟨i, kk, hi, rfl, rfl, rfl, hkk, hxr⟩ := hrel
     have HKK := Lib.hid hkk
     have hxwr := hxw10.trans hxr
     clear hkk
     by_cases hin : i < nc
     case neg =>
      obtain rfl : i = nc := by omega
      have hkn : kk = na := by rw [HKK.out, ← HEND.out, List.take_of_length_le (by rw [List.length_map, ← HNC.out]; exact Nat.le_refl _)]
      subst hkn
      go_wp2_with fail
      go_ret
      exact ⟨ret_bool (by first | rfl | simp), hxwr⟩
     have hin' : (i : Int) < (nc : Int) := by omega
     have hiA : i < RA.length := by rw [← HNC.out]; exact hin
     obtain ⟨rfl, _, hcg⟩ := EC.out.1 (by omega)
     obtain ⟨r, hr⟩ : ∃ r, r = RA[i] := ⟨_, rfl⟩
     have hrA : r ∈ RA := by rw [hr]; exact List.getElem_mem hiA
     have hri : (RA.map Row.l)[i]? = some r.l := by rw [List.getElem?_map, List.getElem?_eq_getElem hiA, ← hr]; rfl
     have hrl : r.l.length = T.n := by
      rcases HCH.out with ⟨_, h1⟩ | ⟨_, h1⟩
      ·exact ((h1.2 _).1 (List.mem_map_of_mem hrA)).1
      ·rw [h1] at hrA; cases hrA
     have pb := fun w' (x : Ext w8 w') => Nat.lt_of_lt_of_le hcg x.le
     have p1 : ∀ w', Ext w8 w' → w'.cell? ⟨cg, co + i, none⟩ = some (.slice r.a T.n r.c) := fun w' x => by rw [← hrl, hr]; exact EC.out.2 i hiA w' x
     have hnum : ∀ W, Ext w8 W → NumAt W T.n r.a r.g r.o (natV (fn r.l)) := fun W x => by have := Row.At.ext (HRA.out.2 r hrA) x; unfold Row.At at this; rw [hrl] at this; exact this
     have HNUM := Lib.hid hnum
     have hx8r := hx810.trans hxr
     have hx5r := hx510.trans hxr
     have hx1r := hx110.trans hxr
     clear hcg hr hrA
     go_upto_region 19 with fail
     refine boxed1 (w := wr) (G := fun x => Code.wp _ _ _ _ x) ?_
     intro w12 hx12 hs12 ⟨l15, c15, _, k15⟩
     have hx1212 : Ext w12 w12 := Ext.refl _
     have hx812 := hx8r.trans hx12
     have hx512 := hx5r.trans hx12
     have hx112 := hx1r.trans hx12
     have hxw12 := hxwr.trans hx12
     have hx1012 := hxr.trans hx12
     have HHD := Lib.hid (HD.out.ext hxw12)
     have HHN := Lib.hid (HNUM.out w12 hx812)
     have HK15 := Lib.hid (show Hold w12 wr.heap.size #[.slice r.a T.n r.c] from k15)
     have hhs := has_Sync w12 D.s.a D.s.b D.s.o D.s.n D.s.c (fun i => .int .i64 (D.x i).1) (fun i => .int .i64 (D.x i).2) (fun i => .int .i64 (D.y i).1) (fun i => .int .i64 (D.y i).2) 43 #[.pointer (some ⟨wr.heap.size, 0, none⟩)] (fun i => brk (natV (fn r.l)) (D.at i)) HD.out.hn HD.out.ha
      (fun w' y i hi => (HHD.out.ext y).c0 i hi) (fun w' y i hi => (HHD.out.ext y).c1 i hi) (fun w' y i hi => (HHD.out.ext y).c2 i hi) (fun w' y i hi => (HHD.out.ext y).c3 i hi) (enters_of Tryz.func43 (by kernel_rfl) rfl)
      (fun i hi w' y => lat1_any w' (T := T.toTr) r.a r.g r.o r.c (natV (fn r.l)) (HHN.out.ext y) (D.at i) (HF.out.ok.2.2.1 _ (SyD.mem.2 ⟨i, hi, rfl⟩)).1 (HF.out.ok.2.2.1 _ (SyD.mem.2 ⟨i, hi, rfl⟩)).2 wr.heap.size (HK15.out.ext y))
     obtain ⟨q, hq⟩ : ∃ q, q = anyB (fun i => brk (natV (fn r.l)) (D.at i)) D.s.n := ⟨_, rfl⟩
     have HQ := Lib.hid (show q = false ↔ okB D.l r.l = true from by
      rw [hq, okB_iff, brk_iff, Bool.eq_false_iff, ne_eq, anyB_iff]
      constructor
      ·intro h s hs
       obtain ⟨i, hi, rfl⟩ := SyD.mem.1 hs
       exact Bool.eq_false_iff.2 fun hn => h ⟨i, hi, hn⟩
      ·rintro h ⟨i, hi, h1⟩
       rw [h _ (SyD.mem.2 ⟨i, hi, rfl⟩)] at h1; cases h1)
     rw [← hq, ← HDN.out.1, ← HDN.out.2] at hhs
     have HRI := Lib.hid hri
     clear hs12 hq k15 hri p1 pb hnum
     go_wp2_with fail
     go_at_call 42
     refine hhs.mono ?_
     rintro e w13 ⟨rfl, hx13⟩
     have hx813 := hx812.trans hx13
     have hx513 := hx512.trans hx13
     have hx113 := hx112.trans hx13
     have hx1013 := hx1012.trans hx13
     have hxw13 := hxw12.trans hx13
     clear hhs
     have hg0 : ∀ d os, Ext w (Sort.grow (redrawn w13 d) os) := fun d os => hxw13.trans (below_regrown w13 d os)
     have hg1 : ∀ d os, Ext w1 (Sort.grow (redrawn w13 d) os) := fun d os => hx113.trans (below_regrown w13 d os)
     have hg5 : ∀ d os, Ext w5 (Sort.grow (redrawn w13 d) os) := fun d os => hx513.trans (below_regrown w13 d os)
     have hg8 : ∀ d os, Ext w8 (Sort.grow (redrawn w13 d) os) := fun d os => hx813.trans (below_regrown w13 d os)
     have hg10 : ∀ d os, Ext w10 (Sort.grow (redrawn w13 d) os) := fun d os => hx1013.trans (below_regrown w13 d os)
     have hg12 : ∀ d os, Ext w12 (Sort.grow (redrawn w13 d) os) := fun d os => hx13.trans (below_regrown w13 d os)
     have hg13 : ∀ d os, Ext w13 (Sort.grow (redrawn w13 d) os) := fun d os => below_regrown w13 d os
     cases q with
     | true =>
      have HS := Lib.hid (show (((RA.map Row.l).take (i + 1)).filter (okB D.l)).length = kk from by
       have h1 : okB D.l r.l = false := Bool.eq_false_iff.2 fun h => absurd (HQ.out.2 h) (by decide)
       rw [HKK.out, List.take_add_one, HRI.out, List.filter_append, List.length_append]
       simp [h1])
      go_upto_region 20 with fail
      refine wp_region_quiet_below (by kernel_rfl) (by kernel_rfl) ?_
      repeat (go_big_quiet_step (fail))
      refine wpQuiet_nil ?_
      intro _ hw'
      obtain ⟨⟨dq, osq⟩, hw''⟩ := hw'
      subst hw''
      have hx20 := hg10 dq osq
      clear hg0 hg1 hg5 hg8 hg10 hg12 hg13
      generalize Sort.grow (redrawn w13 dq) osq = w20 at hx20 ⊢
      go_wp2_with fail
      go_roundg (nc - (i + 1))
      case rel => exact ⟨i + 1, kk, by omega, rfl, by go_num, rfl, HS.out.symm, hx20⟩
      case measure => omega
     | false =>
      have HOK := Lib.hid (HQ.out.1 rfl)
      have HS := Lib.hid (show (((RA.map Row.l).take (i + 1)).filter (okB D.l)).length = kk + 1 from by
       rw [HKK.out, List.take_add_one, HRI.out, List.filter_append, List.length_append]
       simp [HOK.out])
      have HAK := Lib.hid (show (R.map Row.l)[kk]? = some r.l from by rw [← HFF.out (by omega), HKK.out]; exact filter_at HRI.out HOK.out)
      have hka : kk < R.length := by have := (List.getElem?_eq_some_iff.1 HAK.out).1; rw [List.length_map] at this; exact this
      have hkn : kk < na := by rw [HNA.out]; exact hka
      have hkn1 : (kk : Int) < (na : Int) := by omega
      have hkn2 : ¬ (na : Int) ≤ (kk : Int) := by omega
      have hkn3 : ¬ na ≤ kk := by omega
      have b9 : decide ((na : Int) ≤ (kk : Int)) = false := decide_eq_false hkn2
      have b9' : decide (na ≤ kk) = false := decide_eq_false hkn3
      obtain ⟨rfl, _, hag⟩ := EA.out.1 (by omega)
      obtain ⟨s, hs⟩ : ∃ s, s = R[kk] := ⟨_, rfl⟩
      have hsl : s.l = r.l := by
       have h1 := HAK.out
       rw [List.getElem?_map, List.getElem?_eq_getElem hka, ← hs] at h1
       exact Option.some.inj h1
      have qb := fun w' (x : Ext w5 w') => Nat.lt_of_lt_of_le hag x.le
      have q1 : ∀ w', Ext w5 w' → w'.cell? ⟨ag, ao + kk, none⟩ = some (.slice s.a T.n s.c) := fun w' x => by rw [← hrl, ← hsl, hs]; exact EA.out.2 kk hka w' x
      have hsA : s ∈ R := by rw [hs]; exact List.getElem_mem hka
      have heq := fun W (x : Ext w5 W) (y : Ext w8 W) => bool_fix (eqi_any W s.a r.a s.g s.o r.g r.o T.n T.n s.c r.c (natV (fn s.l)) (natV (fn r.l)) (by have := Row.At.ext (HR.out.2 s hsA) x; unfold Row.At at this; rw [hsl, hrl] at this; rw [hsl]; exact this) (HNUM.out W y)) (b := true) ⟨fun _ => ⟨rfl, fun _ _ => by rw [hsl]⟩, fun _ => rfl⟩
      clear hs hsA hag hka hsl hrl
      go_upto_region 20 with fail
      refine wp_region_quiet_below (by kernel_rfl) (by kernel_rfl) ?_
      repeat (go_big_quiet_step (exact Calls.regrown_of (heq _ (hg5 _ _) (hg8 _ _))))
      refine wpQuiet_nil ?_
      intro _ hw'
      obtain ⟨⟨dq, osq⟩, hw''⟩ := hw'
      subst hw''
      have hx20 := hg10 dq osq
      clear hg0 hg1 hg5 hg8 hg10 hg12 hg13
      generalize Sort.grow (redrawn w13 dq) osq = w20 at hx20 ⊢
      clear heq qb q1
      go_wp2_with fail
      go_roundg (nc - (i + 1))
      case rel => exact ⟨i + 1, kk + 1, by omega, rfl, by go_num, by go_num, HS.out.symm, hx20⟩
      case measure => omega
  ·subst hch0
   have HFF := Lib.hid (show 0 < nc → (RA.map Row.l).filter (okB D.l) = R.map Row.l from fun h => by have := HNL.out rfl; omega)
   have HEND := Lib.hid True.intro
   by_cases h120 : na ≤ 120
   ·have b3 : decide ((na : Int) ≤ 120) = true := decide_eq_true (by omega)
    have b3' : decide (na ≤ 120) = true := decide_eq_true h120
    go_wp2_with fail
    go_at_call 41
    refine (HLT.out w9 hx59).mono ?_
    rintro e w10 ⟨rfl, hx10⟩
    have hx110 := hx19.trans hx10
    have hxw10 := hxw9.trans hx10
    have hx510 := hx59.trans hx10
    have hx810 := hx89.trans hx10
    clear hx10 b3 b3'
    obtain ⟨aa', ag, ao, ac', ea1, _, ea3, ea4⟩ := HR.out.get
    rw [← HNA.out] at ea1 ea3
    simp only [Value.slice.injEq] at ea1
    obtain ⟨rfl, _, rfl⟩ := ea1
    obtain ⟨ca', cg, co, cc', ec1, _, ec3, ec4⟩ := HRA.out.get
    rw [← HNC.out] at ec1 ec3
    simp only [Value.slice.injEq] at ec1
    obtain ⟨rfl, _, rfl⟩ := ec1
    have EA := Lib.hid (And.intro ea3 ea4)
    have EC := Lib.hid (And.intro ec3 ec4)
    clear ea3 ea4 ec3 ec4 hx19 hxw9 hx59 hx89
    go_wp2_with fail
    go_loopg [13, 90] nc (fun gg v13 v90 wr => ∃ (i kk : Nat), i ≤ nc ∧ gg = nc - i ∧ v90 = .int .i64 i ∧ v13 = .int .i64 kk ∧ kk = (((RA.map Row.l).take i).filter (okB D.l)).length ∧ Ext w10 wr)
    case atStart => exact ⟨0, 0, by omega, rfl, rfl, rfl, rfl, Ext.refl _⟩
    case round =>
     obtain ⟨i, kk, hi, rfl, rfl, rfl, hkk, hxr⟩ := hrel
     have HKK := Lib.hid hkk
     have hxwr := hxw10.trans hxr
     clear hkk
     by_cases hin : i < nc
     case neg =>
      obtain rfl : i = nc := by omega
      go_wp2_with fail
      go_ret
      exact ⟨ret_bool (by first | rfl | simp), hxwr⟩
     have hin' : (i : Int) < (nc : Int) := by omega
     have hiA : i < RA.length := by rw [← HNC.out]; exact hin
     obtain ⟨rfl, _, hcg⟩ := EC.out.1 (by omega)
     obtain ⟨r, hr⟩ : ∃ r, r = RA[i] := ⟨_, rfl⟩
     have hrA : r ∈ RA := by rw [hr]; exact List.getElem_mem hiA
     have hri : (RA.map Row.l)[i]? = some r.l := by rw [List.getElem?_map, List.getElem?_eq_getElem hiA, ← hr]; rfl
     have hrl : r.l.length = T.n := by
      rcases HCH.out with ⟨_, h1⟩ | ⟨_, h1⟩
      ·exact ((h1.2 _).1 (List.mem_map_of_mem hrA)).1
      ·rw [h1] at hrA; cases hrA
     have pb := fun w' (x : Ext w8 w') => Nat.lt_of_lt_of_le hcg x.le
     have p1 : ∀ w', Ext w8 w' → w'.cell? ⟨cg, co + i, none⟩ = some (.slice r.a T.n r.c) := fun w' x => by rw [← hrl, hr]; exact EC.out.2 i hiA w' x
     have hnum : ∀ W, Ext w8 W → NumAt W T.n r.a r.g r.o (natV (fn r.l)) := fun W x => by have := Row.At.ext (HRA.out.2 r hrA) x; unfold Row.At at this; rw [hrl] at this; exact this
     have HNUM := Lib.hid hnum
     have hx8r := hx810.trans hxr
     have hx5r := hx510.trans hxr
     have hx1r := hx110.trans hxr
     clear hcg hr hrA
     go_upto_region 19 with fail
     refine boxed1 (w := wr) (G := fun x => Code.wp _ _ _ _ x) ?_
     intro w12 hx12 hs12 ⟨l15, c15, _, k15⟩
     have hx1212 : Ext w12 w12 := Ext.refl _
     have hx812 := hx8r.trans hx12
     have hx512 := hx5r.trans hx12
     have hx112 := hx1r.trans hx12
     have hxw12 := hxwr.trans hx12
     have hx1012 := hxr.trans hx12
     have HHD := Lib.hid (HD.out.ext hxw12)
     have HHN := Lib.hid (HNUM.out w12 hx812)
     have HK15 := Lib.hid (show Hold w12 wr.heap.size #[.slice r.a T.n r.c] from k15)
     have hhs := has_Sync w12 D.s.a D.s.b D.s.o D.s.n D.s.c (fun i => .int .i64 (D.x i).1) (fun i => .int .i64 (D.x i).2) (fun i => .int .i64 (D.y i).1) (fun i => .int .i64 (D.y i).2) 43 #[.pointer (some ⟨wr.heap.size, 0, none⟩)] (fun i => brk (natV (fn r.l)) (D.at i)) HD.out.hn HD.out.ha
      (fun w' y i hi => (HHD.out.ext y).c0 i hi) (fun w' y i hi => (HHD.out.ext y).c1 i hi) (fun w' y i hi => (HHD.out.ext y).c2 i hi) (fun w' y i hi => (HHD.out.ext y).c3 i hi) (enters_of Tryz.func43 (by kernel_rfl) rfl)
      (fun i hi w' y => lat1_any w' (T := T.toTr) r.a r.g r.o r.c (natV (fn r.l)) (HHN.out.ext y) (D.at i) (HF.out.ok.2.2.1 _ (SyD.mem.2 ⟨i, hi, rfl⟩)).1 (HF.out.ok.2.2.1 _ (SyD.mem.2 ⟨i, hi, rfl⟩)).2 wr.heap.size (HK15.out.ext y))
     obtain ⟨q, hq⟩ : ∃ q, q = anyB (fun i => brk (natV (fn r.l)) (D.at i)) D.s.n := ⟨_, rfl⟩
     have HQ := Lib.hid (show q = false ↔ okB D.l r.l = true from by
      rw [hq, okB_iff, brk_iff, Bool.eq_false_iff, ne_eq, anyB_iff]
      constructor
      ·intro h s hs
       obtain ⟨i, hi, rfl⟩ := SyD.mem.1 hs
       exact Bool.eq_false_iff.2 fun hn => h ⟨i, hi, hn⟩
      ·rintro h ⟨i, hi, h1⟩
       rw [h _ (SyD.mem.2 ⟨i, hi, rfl⟩)] at h1; cases h1)
     rw [← hq, ← HDN.out.1, ← HDN.out.2] at hhs
     have HRI := Lib.hid hri
     clear hs12 hq k15 hri p1 pb hnum
     go_wp2_with fail
     go_at_call 42
     refine hhs.mono ?_
     rintro e w13 ⟨rfl, hx13⟩
     have hx813 := hx812.trans hx13
     have hx513 := hx512.trans hx13
     have hx113 := hx112.trans hx13
     have hx1013 := hx1012.trans hx13
     have hxw13 := hxw12.trans hx13
     clear hhs
     have hg0 : ∀ d os, Ext w (Sort.grow (redrawn w13 d) os) := fun d os => hxw13.trans (below_regrown w13 d os)
     have hg1 : ∀ d os, Ext w1 (Sort.grow (redrawn w13 d) os) := fun d os => hx113.trans (below_regrown w13 d os)
     have hg5 : ∀ d os, Ext w5 (Sort.grow (redrawn w13 d) os) := fun d os => hx513.trans (below_regrown w13 d os)
     have hg8 : ∀ d os, Ext w8 (Sort.grow (redrawn w13 d) os) := fun d os => hx813.trans (below_regrown w13 d os)
     have hg10 : ∀ d os, Ext w10 (Sort.grow (redrawn w13 d) os) := fun d os => hx1013.trans (below_regrown w13 d os)
     have hg12 : ∀ d os, Ext w12 (Sort.grow (redrawn w13 d) os) := fun d os => hx13.trans (below_regrown w13 d os)
     have hg13 : ∀ d os, Ext w13 (Sort.grow (redrawn w13 d) os) := fun d os => below_regrown w13 d os
     cases q with
     | true =>
      have HS := Lib.hid (show (((RA.map Row.l).take (i + 1)).filter (okB D.l)).length = kk from by
       have h1 : okB D.l r.l = false := Bool.eq_false_iff.2 fun h => absurd (HQ.out.2 h) (by decide)
       rw [HKK.out, List.take_add_one, HRI.out, List.filter_append, List.length_append]
       simp [h1])
      go_upto_region 20 with fail
      refine wp_region_quiet_below (by kernel_rfl) (by kernel_rfl) ?_
      repeat (go_big_quiet_step (fail))
      refine wpQuiet_nil ?_
      intro _ hw'
      obtain ⟨⟨dq, osq⟩, hw''⟩ := hw'
      subst hw''
      have hx20 := hg10 dq osq
      clear hg0 hg1 hg5 hg8 hg10 hg12 hg13
      generalize Sort.grow (redrawn w13 dq) osq = w20 at hx20 ⊢
      go_wp2_with fail
      go_roundg (nc - (i + 1))
      case rel => exact ⟨i + 1, kk, by omega, rfl, by go_num, rfl, HS.out.symm, hx20⟩
      case measure => omega
     | false =>
      have HOK := Lib.hid (HQ.out.1 rfl)
      have HS := Lib.hid (show (((RA.map Row.l).take (i + 1)).filter (okB D.l)).length = kk + 1 from by
       rw [HKK.out, List.take_add_one, HRI.out, List.filter_append, List.length_append]
       simp [HOK.out])
      have HAK := Lib.hid (show (R.map Row.l)[kk]? = some r.l from by rw [← HFF.out (by omega), HKK.out]; exact filter_at HRI.out HOK.out)
      have hka : kk < R.length := by have := (List.getElem?_eq_some_iff.1 HAK.out).1; rw [List.length_map] at this; exact this
      have hkn : kk < na := by rw [HNA.out]; exact hka
      have hkn1 : (kk : Int) < (na : Int) := by omega
      have hkn2 : ¬ (na : Int) ≤ (kk : Int) := by omega
      have hkn3 : ¬ na ≤ kk := by omega
      have b9 : decide ((na : Int) ≤ (kk : Int)) = false := decide_eq_false hkn2
      have b9' : decide (na ≤ kk) = false := decide_eq_false hkn3
      obtain ⟨rfl, _, hag⟩ := EA.out.1 (by omega)
      obtain ⟨s, hs⟩ : ∃ s, s = R[kk] := ⟨_, rfl⟩
      have hsl : s.l = r.l := by
       have h1 := HAK.out
       rw [List.getElem?_map, List.getElem?_eq_getElem hka, ← hs] at h1
       exact Option.some.inj h1
      have qb := fun w' (x : Ext w5 w') => Nat.lt_of_lt_of_le hag x.le
      have q1 : ∀ w', Ext w5 w' → w'.cell? ⟨ag, ao + kk, none⟩ = some (.slice s.a T.n s.c) := fun w' x => by rw [← hrl, ← hsl, hs]; exact EA.out.2 kk hka w' x
      have hsA : s ∈ R := by rw [hs]; exact List.getElem_mem hka
      have heq := fun W (x : Ext w5 W) (y : Ext w8 W) => bool_fix (eqi_any W s.a r.a s.g s.o r.g r.o T.n T.n s.c r.c (natV (fn s.l)) (natV (fn r.l)) (by have := Row.At.ext (HR.out.2 s hsA) x; unfold Row.At at this; rw [hsl, hrl] at this; rw [hsl]; exact this) (HNUM.out W y)) (b := true) ⟨fun _ => ⟨rfl, fun _ _ => by rw [hsl]⟩, fun _ => rfl⟩
      clear hs hsA hag hka hsl hrl
      go_upto_region 20 with fail
      refine wp_region_quiet_below (by kernel_rfl) (by kernel_rfl) ?_
      repeat (go_big_quiet_step (exact Calls.regrown_of (heq _ (hg5 _ _) (hg8 _ _))))
      refine wpQuiet_nil ?_
      intro _ hw'
      obtain ⟨⟨dq, osq⟩, hw''⟩ := hw'
      subst hw''
      have hx20 := hg10 dq osq
      clear hg0 hg1 hg5 hg8 hg10 hg12 hg13
      generalize Sort.grow (redrawn w13 dq) osq = w20 at hx20 ⊢
      clear heq qb q1
      go_wp2_with fail
      go_roundg (nc - (i + 1))
      case rel => exact ⟨i + 1, kk + 1, by omega, rfl, by go_num, by go_num, HS.out.symm, hx20⟩
      case measure => omega
   ·have b3 : decide ((na : Int) ≤ 120) = false := decide_eq_false (by omega)
    have b3' : decide (na ≤ 120) = false := decide_eq_false h120
    have hx110 := hx19
    have hxw10 := hxw9
    have hx510 := hx59
    have hx810 := hx89
    obtain ⟨w10, hw10⟩ : ∃ z, z = w9 := ⟨_, rfl⟩
    rw [← hw10] at hx110 hxw10 hx510 hx810 ⊢
    clear hw10
    obtain ⟨aa', ag, ao, ac', ea1, _, ea3, ea4⟩ := HR.out.get
    rw [← HNA.out] at ea1 ea3
    simp only [Value.slice.injEq] at ea1
    obtain ⟨rfl, _, rfl⟩ := ea1
    obtain ⟨ca', cg, co, cc', ec1, _, ec3, ec4⟩ := HRA.out.get
    rw [← HNC.out] at ec1 ec3
    simp only [Value.slice.injEq] at ec1
    obtain ⟨rfl, _, rfl⟩ := ec1
    have EA := Lib.hid (And.intro ea3 ea4)
    have EC := Lib.hid (And.intro ec3 ec4)
    clear ea3 ea4 ec3 ec4 hx19 hxw9 hx59 hx89
    go_wp2_with fail
    go_loopg [13, 90] nc (fun gg v13 v90 wr => ∃ (i kk : Nat), i ≤ nc ∧ gg = nc - i ∧ v90 = .int .i64 i ∧ v13 = .int .i64 kk ∧ kk = (((RA.map Row.l).take i).filter (okB D.l)).length ∧ Ext w10 wr)
    case atStart => exact ⟨0, 0, by omega, rfl, rfl, rfl, rfl, Ext.refl _⟩
    case round =>
     obtain ⟨i, kk, hi, rfl, rfl, rfl, hkk, hxr⟩ := hrel
     have HKK := Lib.hid hkk
     have hxwr := hxw10.trans hxr
     clear hkk
     by_cases hin : i < nc
     case neg =>
      obtain rfl : i = nc := by omega
      go_wp2_with fail
      go_ret
      exact ⟨ret_bool (by first | rfl | simp), hxwr⟩
     have hin' : (i : Int) < (nc : Int) := by omega
     have hiA : i < RA.length := by rw [← HNC.out]; exact hin
     obtain ⟨rfl, _, hcg⟩ := EC.out.1 (by omega)
     obtain ⟨r, hr⟩ : ∃ r, r = RA[i] := ⟨_, rfl⟩
     have hrA : r ∈ RA := by rw [hr]; exact List.getElem_mem hiA
     have hri : (RA.map Row.l)[i]? = some r.l := by rw [List.getElem?_map, List.getElem?_eq_getElem hiA, ← hr]; rfl
     have hrl : r.l.length = T.n := by
      rcases HCH.out with ⟨_, h1⟩ | ⟨_, h1⟩
      ·exact ((h1.2 _).1 (List.mem_map_of_mem hrA)).1
      ·rw [h1] at hrA; cases hrA
     have pb := fun w' (x : Ext w8 w') => Nat.lt_of_lt_of_le hcg x.le
     have p1 : ∀ w', Ext w8 w' → w'.cell? ⟨cg, co + i, none⟩ = some (.slice r.a T.n r.c) := fun w' x => by rw [← hrl, hr]; exact EC.out.2 i hiA w' x
     have hnum : ∀ W, Ext w8 W → NumAt W T.n r.a r.g r.o (natV (fn r.l)) := fun W x => by have := Row.At.ext (HRA.out.2 r hrA) x; unfold Row.At at this; rw [hrl] at this; exact this
     have HNUM := Lib.hid hnum
     have hx8r := hx810.trans hxr
     have hx5r := hx510.trans hxr
     have hx1r := hx110.trans hxr
     clear hcg hr hrA
     go_upto_region 19 with fail
     refine boxed1 (w := wr) (G := fun x => Code.wp _ _ _ _ x) ?_
     intro w12 hx12 hs12 ⟨l15, c15, _, k15⟩
     have hx1212 : Ext w12 w12 := Ext.refl _
     have hx812 := hx8r.trans hx12
     have hx512 := hx5r.trans hx12
     have hx112 := hx1r.trans hx12
     have hxw12 := hxwr.trans hx12
     have hx1012 := hxr.trans hx12
     have HHD := Lib.hid (HD.out.ext hxw12)
     have HHN := Lib.hid (HNUM.out w12 hx812)
     have HK15 := Lib.hid (show Hold w12 wr.heap.size #[.slice r.a T.n r.c] from k15)
     have hhs := has_Sync w12 D.s.a D.s.b D.s.o D.s.n D.s.c (fun i => .int .i64 (D.x i).1) (fun i => .int .i64 (D.x i).2) (fun i => .int .i64 (D.y i).1) (fun i => .int .i64 (D.y i).2) 43 #[.pointer (some ⟨wr.heap.size, 0, none⟩)] (fun i => brk (natV (fn r.l)) (D.at i)) HD.out.hn HD.out.ha
      (fun w' y i hi => (HHD.out.ext y).c0 i hi) (fun w' y i hi => (HHD.out.ext y).c1 i hi) (fun w' y i hi => (HHD.out.ext y).c2 i hi) (fun w' y i hi => (HHD.out.ext y).c3 i hi) (enters_of Tryz.func43 (by kernel_rfl) rfl)
      (fun i hi w' y => lat1_any w' (T := T.toTr) r.a r.g r.o r.c (natV (fn r.l)) (HHN.out.ext y) (D.at i) (HF.out.ok.2.2.1 _ (SyD.mem.2 ⟨i, hi, rfl⟩)).1 (HF.out.ok.2.2.1 _ (SyD.mem.2 ⟨i, hi, rfl⟩)).2 wr.heap.size (HK15.out.ext y))
     obtain ⟨q, hq⟩ : ∃ q, q = anyB (fun i => brk (natV (fn r.l)) (D.at i)) D.s.n := ⟨_, rfl⟩
     have HQ := Lib.hid (show q = false ↔ okB D.l r.l = true from by
      rw [hq, okB_iff, brk_iff, Bool.eq_false_iff, ne_eq, anyB_iff]
      constructor
      ·intro h s hs
       obtain ⟨i, hi, rfl⟩ := SyD.mem.1 hs
       exact Bool.eq_false_iff.2 fun hn => h ⟨i, hi, hn⟩
      ·rintro h ⟨i, hi, h1⟩
       rw [h _ (SyD.mem.2 ⟨i, hi, rfl⟩)] at h1; cases h1)
     rw [← hq, ← HDN.out.1, ← HDN.out.2] at hhs
     have HRI := Lib.hid hri
     clear hs12 hq k15 hri p1 pb hnum
     go_wp2_with fail
     go_at_call 42
     refine hhs.mono ?_
     rintro e w13 ⟨rfl, hx13⟩
     have hx813 := hx812.trans hx13
     have hx513 := hx512.trans hx13
     have hx113 := hx112.trans hx13
     have hx1013 := hx1012.trans hx13
     have hxw13 := hxw12.trans hx13
     clear hhs
     have hg0 : ∀ d os, Ext w (Sort.grow (redrawn w13 d) os) := fun d os => hxw13.trans (below_regrown w13 d os)
     have hg1 : ∀ d os, Ext w1 (Sort.grow (redrawn w13 d) os) := fun d os => hx113.trans (below_regrown w13 d os)
     have hg5 : ∀ d os, Ext w5 (Sort.grow (redrawn w13 d) os) := fun d os => hx513.trans (below_regrown w13 d os)
     have hg8 : ∀ d os, Ext w8 (Sort.grow (redrawn w13 d) os) := fun d os => hx813.trans (below_regrown w13 d os)
     have hg10 : ∀ d os, Ext w10 (Sort.grow (redrawn w13 d) os) := fun d os => hx1013.trans (below_regrown w13 d os)
     have hg12 : ∀ d os, Ext w12 (Sort.grow (redrawn w13 d) os) := fun d os => hx13.trans (below_regrown w13 d os)
     have hg13 : ∀ d os, Ext w13 (Sort.grow (redrawn w13 d) os) := fun d os => below_regrown w13 d os
     cases q with
     | true =>
      have HS := Lib.hid (show (((RA.map Row.l).take (i + 1)).filter (okB D.l)).length = kk from by
       have h1 : okB D.l r.l = false := Bool.eq_false_iff.2 fun h => absurd (HQ.out.2 h) (by decide)
       rw [HKK.out, List.take_add_one, HRI.out, List.filter_append, List.length_append]
       simp [h1])
      go_upto_region 20 with fail
      refine wp_region_quiet_below (by kernel_rfl) (by kernel_rfl) ?_
      repeat (go_big_quiet_step (fail))
      refine wpQuiet_nil ?_
      intro _ hw'
      obtain ⟨⟨dq, osq⟩, hw''⟩ := hw'
      subst hw''
      have hx20 := hg10 dq osq
      clear hg0 hg1 hg5 hg8 hg10 hg12 hg13
      generalize Sort.grow (redrawn w13 dq) osq = w20 at hx20 ⊢
      go_wp2_with fail
      go_roundg (nc - (i + 1))
      case rel => exact ⟨i + 1, kk, by omega, rfl, by go_num, rfl, HS.out.symm, hx20⟩
      case measure => omega
     | false =>
      have HOK := Lib.hid (HQ.out.1 rfl)
      have HS := Lib.hid (show (((RA.map Row.l).take (i + 1)).filter (okB D.l)).length = kk + 1 from by
       rw [HKK.out, List.take_add_one, HRI.out, List.filter_append, List.length_append]
       simp [HOK.out])
      have HAK := Lib.hid (show (R.map Row.l)[kk]? = some r.l from by rw [← HFF.out (by omega), HKK.out]; exact filter_at HRI.out HOK.out)
      have hka : kk < R.length := by have := (List.getElem?_eq_some_iff.1 HAK.out).1; rw [List.length_map] at this; exact this
      have hkn : kk < na := by rw [HNA.out]; exact hka
      have hkn1 : (kk : Int) < (na : Int) := by omega
      have hkn2 : ¬ (na : Int) ≤ (kk : Int) := by omega
      have hkn3 : ¬ na ≤ kk := by omega
      have b9 : decide ((na : Int) ≤ (kk : Int)) = false := decide_eq_false hkn2
      have b9' : decide (na ≤ kk) = false := decide_eq_false hkn3
      obtain ⟨rfl, _, hag⟩ := EA.out.1 (by omega)
      obtain ⟨s, hs⟩ : ∃ s, s = R[kk] := ⟨_, rfl⟩
      have hsl : s.l = r.l := by
       have h1 := HAK.out
       rw [List.getElem?_map, List.getElem?_eq_getElem hka, ← hs] at h1
       exact Option.some.inj h1
      have qb := fun w' (x : Ext w5 w') => Nat.lt_of_lt_of_le hag x.le
      have q1 : ∀ w', Ext w5 w' → w'.cell? ⟨ag, ao + kk, none⟩ = some (.slice s.a T.n s.c) := fun w' x => by rw [← hrl, ← hsl, hs]; exact EA.out.2 kk hka w' x
      have hsA : s ∈ R := by rw [hs]; exact List.getElem_mem hka
      have heq := fun W (x : Ext w5 W) (y : Ext w8 W) => bool_fix (eqi_any W s.a r.a s.g s.o r.g r.o T.n T.n s.c r.c (natV (fn s.l)) (natV (fn r.l)) (by have := Row.At.ext (HR.out.2 s hsA) x; unfold Row.At at this; rw [hsl, hrl] at this; rw [hsl]; exact this) (HNUM.out W y)) (b := true) ⟨fun _ => ⟨rfl, fun _ _ => by rw [hsl]⟩, fun _ => rfl⟩
      clear hs hsA hag hka hsl hrl
      go_upto_region 20 with fail
      refine wp_region_quiet_below (by kernel_rfl) (by kernel_rfl) ?_
      repeat (go_big_quiet_step (exact Calls.regrown_of (heq _ (hg5 _ _) (hg8 _ _))))
      refine wpQuiet_nil ?_
      intro _ hw'
      obtain ⟨⟨dq, osq⟩, hw''⟩ := hw'
      subst hw''
      have hx20 := hg10 dq osq
      clear hg0 hg1 hg5 hg8 hg10 hg12 hg13
      generalize Sort.grow (redrawn w13 dq) osq = w20 at hx20 ⊢
      clear heq qb q1
      go_wp2_with fail
      go_roundg (nc - (i + 1))
      case rel => exact ⟨i + 1, kk + 1, by omega, rfl, by go_num, by go_num, HS.out.symm, hx20⟩
      case measure => omega
 ·clear hM hf
  go_wp2_with fail
  go_ret
  exact ⟨rfl, hxw5⟩
set_option maxRecDepth 100000 in
theorem lifted (os : Os) (started : os.Started) (H : Type) (enc : TypeId × Value → H) :
    ReturnsInHanded {} Tryz.checked os 8 .any (Rows.replayLatticeSpec.pre6 enc Tryz.prog Tryz.f8 Rows.replayLatticeRow.domain false) (Rows.replayLatticeSpec.post enc Tryz.prog Tryz.f8 false true false false) := by
 refine returnsInHanded_of_change_sized (C := Tryz.checked) own14 started (by kernel_rfl) Tryz.func8
  (ChangeSpec.witness6 (enc := enc) (C := Tryz.checked) false ⟨#[], #[.agg #[.slice none 0 0], .slice none 0 0], []⟩ 8 (by kernel_rfl) (by kernel_rfl) (by kernel_rfl) (by kernel_rfl)) ?_
 intro W base args ds gs before hval0 hW _ hsz0 _
 have hsz1 : (DataW.weightsEach Tryz.prog (Tryz.f8.params.toList ++ Rows.replayLatticeSpec.plain.varTypes Tryz.prog) (ds ++ gs)).all (· ≤ reachBytes) = true := hsz0
 clear hsz0
 have hval : ∀ (j : Nat) t v, Tryz.f8.params[j]? = some t → args[j]? = some v → Value.okWide Tryz.prog W .any base t v := hval0
 have hW' := hW
 obtain ⟨p, q, hA0, hV, rfl, hfz, hnd⟩ := hW
 have hA : DataW.TrodAll enc Tryz.prog W 0 (fun _ => true) true Tryz.f8.params.toList args.toList ds p := hA0
 rw [Tryz.params8] at hA hval hsz1
 obtain ⟨v0, vs0, d0, ds0, p0, q0, hargs, rfl, rfl, h0, r0⟩ := trodAll_cons hA
 obtain ⟨v1, vs1, d1, ds1, p1, q1, rfl, rfl, rfl, h1, r1⟩ := trodAll_cons r0
 obtain ⟨rfl, rfl, rfl⟩ := trodAll_nil r1
 obtain rfl : args = #[v0, v1] := by cases args; simp_all
 obtain ⟨rfl, rfl⟩ := trodVars_none hV
 obtain ⟨T0, rfl, hT0⟩ := arg_trace (hval 0 24 v0 rfl rfl) h0 (small_of hsz1 (j := 0) rfl rfl)
 obtain ⟨D1, rfl, hD1⟩ := arg_syncs (hval 1 25 v1 rfl rfl) h1 (small_of hsz1 (j := 1) rfl rfl)
 clear hA0 hval0 hsz1
 simp only [List.append_nil] at hW'
 have hl1 : ∀ x ∈ p1, x.block < W.heap.size := fun x hx => hW'.lt x (by simp [hx])
 have hl0 : ∀ x ∈ p0, x.block < W.heap.size := fun x hx => hW'.lt x (by simp [hx])
 refine (walk T0 D1 W hT0 hD1).mono fun e W' ⟨he, hg⟩ => ?_
 subst he
 exact ⟨_, rfl, post_ext1 (pa := (p0 ++ (p1 ++ []))) (pv := []) hW' (fun _ _ _ => (trodAll_cons_mk (shut_bool Tryz.underlying4 _) trodAll_mk0)) (trodAll_cons_mk (Below.trod laid14 (by kernel_rfl) (of_decide_eq_true (by kernel_rfl)) h0 hg.below hl0) (trodAll_cons_mk (Below.trod laid14 (by kernel_rfl) (of_decide_eq_true (by kernel_rfl)) h1 hg.below hl1) trodAll_mk0)) rfl hg⟩
theorem j0 : (Rows.replayLatticeRow.wf (OpenSpec.ofChange Rows.replayLatticeSpec)) = true := by kernel_rfl
theorem j1 : (laidOutB Tryz.pinned.checked.prog) = true := by kernel_rfl
theorem j2 : (mapsRowed Tryz.pinned.checked.prog) = true := by kernel_rfl
theorem j3 : (Tryz.f8.params.all (Tryz.pinned.checked.prog.readableRec ·)) = true := by kernel_rfl
theorem j4 : (namedTie Tryz.pinned.checked.prog Rows.replayLatticeRow.named Rows.replayLatticeSpec.vars) = true := by kernel_rfl
theorem j5 : (Rows.replayLatticeRow.stops == []) = true := by kernel_rfl
theorem j6 : (Tryz.pinned.checked.prog.stops == []) = true := by kernel_rfl
theorem j7 : (Rows.replayLatticeRow.knobs == []) = true := by kernel_rfl
theorem j8 : (Tryz.pinned.checked.prog.stopKnobs == []) = true := by kernel_rfl
theorem j9 : (Rows.replayLatticeRow.inPlace == Tryz.pinned.checked.prog.inPlace 8) = true := by kernel_rfl
theorem j10 : (Rows.replayLatticeRow.unfollowed == Tryz.pinned.checked.prog.unfollowed 8) = true := by kernel_rfl
theorem j11 : (Rows.replayLatticeRow.recurses == Tryz.pinned.checked.prog.recurses 8) = true := by kernel_rfl
theorem j12 : (Rows.replayLatticeRow.named == Tryz.pinned.checked.prog.varsNamed 8) = true := by kernel_rfl
theorem j13 : (Rows.replayLatticeRow.maps == (Tryz.f8.params.toList ++ Rows.replayLatticeSpec.plain.varTypes Tryz.pinned.checked.prog).any (Tryz.pinned.checked.prog.mapsRec ·)) = true := by kernel_rfl
theorem j14 : (Rows.replayLatticeRow.ifaces == (Tryz.f8.params.toList ++ Rows.replayLatticeSpec.plain.varTypes Tryz.pinned.checked.prog).any (Tryz.pinned.checked.prog.ifacesRec ·)) = true := by kernel_rfl
theorem j15 : (Rows.replayLatticeRow.mapsOut == Tryz.pinned.checked.prog.mapsAmong Tryz.f8.resultTypes.toList) = true := by kernel_rfl
theorem j16 : (Rows.replayLatticeRow.loops == (Tryz.f8.params.toList ++ Rows.replayLatticeSpec.plain.varTypes Tryz.pinned.checked.prog).any (Tryz.pinned.checked.prog.loopsFrom ·)) = true := by kernel_rfl
theorem j17 : (Rows.replayLatticeRow.wideKeys == (Tryz.f8.params.toList ++ Rows.replayLatticeSpec.plain.varTypes Tryz.pinned.checked.prog ++ Tryz.f8.resultTypes.toList).any (Tryz.pinned.checked.prog.wideKeysFrom ·)) = true := by kernel_rfl
theorem j18 : (Rows.replayLatticeSpec.vars.all (Tryz.pinned.checked.prog.varReadable ·)) = true := by kernel_rfl
theorem j19 : (Tryz.f8.resultTypes.all (fun t => Tryz.pinned.checked.prog.readableRec t && decide (t < Tryz.pinned.checked.prog.types.size))) = true := by kernel_rfl
theorem j20 : (Rows.replayLatticeRow.ifacesOut == Tryz.f8.resultTypes.toList.any (Tryz.pinned.checked.prog.ifacesRec ·)) = true := by kernel_rfl
theorem j21 : (Rows.replayLatticeRow.loopsOut == Tryz.f8.resultTypes.toList.any (Tryz.pinned.checked.prog.loopsFrom ·)) = true := by kernel_rfl
theorem j22 : (Rows.replayLatticeRow.plainKeys == Tryz.pinned.checked.prog.plainKeys) = true := by kernel_rfl
theorem j23 : (Rows.replayLatticeRow.shortTexts.isNone) = true := by kernel_rfl
theorem j24 : (Tryz.pinned.checked.prog.stopsHeard) = true := by kernel_rfl
theorem j25 : (Tryz.pinned.checked.prog.mayEnter) = true := by kernel_rfl
theorem j26 : (Rows.replayLatticeRow.lifted == Tryz.pinned.checked.prog.liftsFinal) = true := by kernel_rfl
theorem j27 : (Tryz.pinned.checked.prog.make == some Rows.replayLatticeRow.make) = true := by kernel_rfl
theorem j28 : (Rows.replayLatticeRow.kinds == (if Rows.replayLatticeRow.domain.isEmpty then [] else Tryz.f8.params.toList.map fun t => match Tryz.pinned.checked.prog.underlying t with | some (.int k) => some k | _ => none)) = true := by kernel_rfl
theorem j29 : (Rows.replayLatticeRow.pinned == Rows.replayLatticeRow.pinnedBy) = true := by kernel_rfl
theorem j30 : (Rows.replayLatticeRow.veiled == (Tryz.f8.params.toList ++ Rows.replayLatticeSpec.plain.varTypes Tryz.pinned.checked.prog ++ Tryz.f8.resultTypes.toList).any (Tryz.pinned.checked.prog.veiledRec ·)) = true := by kernel_rfl
theorem j31 : (Rows.replayLatticeRow.veiledFits Tryz.pinned.checked.prog Tryz.f8.params.toList (Tryz.f8.params.toList ++ Rows.replayLatticeSpec.plain.varTypes Tryz.pinned.checked.prog ++ Tryz.f8.resultTypes.toList)) = true := by kernel_rfl
set_option maxRecDepth 100000 in
theorem closed : joinedFacts Tryz.pinned.checked.prog 8 Tryz.f8 Rows.replayLatticeSpec Rows.replayLatticeRow = true := by
 unfold joinedFacts
 rw [j0, j1, j2, j3, j4, j5, j6, j7, j8, j9, j10, j11, j12, j13, j14, j15, j16, j17, j18, j19, j20, j21, j22, j23, j24, j25, j26, j27, j29, j30, j31]
 simp only [Bool.true_and, Bool.and_true]
 first | exact j28 | kernel_rfl
theorem over : Rows.replayLatticeRow.holds Tryz.pinned (OpenSpec.ofChange Rows.replayLatticeSpec) :=
 OpenClaim.holds_of_wide 8 Tryz.f8 rfl rfl rfl rfl rfl rfl rfl ⟨rfl, rfl, rfl, rfl, rfl⟩ rfl rfl rfl rfl rfl (by kernel_rfl) Tryz.func8 closed
  (of_decide_eq_true (by kernel_rfl)) (by unfold Func.isWrapper; first | (rw [if_pos (by decide +kernel)]; kernel_rfl) | (rw [if_neg (by decide +kernel)]; exact ⟨rfl, rfl⟩))
  (fun os started H enc _ => lifted os started H enc)
theorem proved : Rows.ReplayLatticeSaid :=
 over
#print axioms proved
end Go.Proofs.YtkhgpockmaghjaaGreat.replayLattice
