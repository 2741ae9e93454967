/- Contract of predtype.resolve: nodes with names. Contract of predtype.resolve: counts and channels. -/
import Derived.Test.YtdplphoohnnbcaaDoorIv
namespace Go.Proofs.YtdplphoohnnbcaaDoor
open Go.RowKit Go.Shelf

theorem ok0' : okI 0 := ⟨by decide, by decide⟩
theorem ok2' : okI 2 := ⟨by decide, by decide⟩
theorem ok3' : okI 3 := ⟨by decide, by decide⟩
theorem ok4' : okI 4 := ⟨by decide, by decide⟩
set_option maxRecDepth 100000 in
set_option maxHeartbeats 4000000 in
/-- a variable -/
theorem resolve2_any (w0 : World) (T : TM) (hT : T.At w0) (p : Pr) (hp : p.NodeAt w0) (h0 : p.len = 0) (hk : p.kind = 2) (hq : p.proc = 0 ∧ p.peer = 0) (w : World) (hx : Ext w0 w) :
    Calls Tryd.prog 44 #[T.val, p.val] w (RslPost T.toTr p w) := by
  have hrs0 : T.toTr.rsN p.kind p.proc p.peer p.name = if cutB p.name 46 = true ∧ 0 ≤ T.toTr.procI (cutL p.name 46) ∧ T.toTr.hasV (T.toTr.procI (cutL p.name 46)).toNat (cutR p.name 46) = true then some (T.toTr.procI (cutL p.name 46), 0, cutR p.name 46) else none := by
    unfold Tr.rsN; rw [if_pos (by omega), if_pos hq, if_pos hk]
  have hbad : ¬ (cutB p.name 46 = true ∧ 0 ≤ T.toTr.procI (cutL p.name 46) ∧ T.toTr.hasV (T.toTr.procI (cutL p.name 46)).toNat (cutR p.name 46) = true) → ¬ T.toTr.Can p := fun h hc => (Tr.can_leaf h0).1 hc (by rw [hrs0, if_neg h])
  have hgood : (cutB p.name 46 = true ∧ 0 ≤ T.toTr.procI (cutL p.name 46) ∧ T.toTr.hasV (T.toTr.procI (cutL p.name 46)).toNat (cutR p.name 46) = true) → T.toTr.Can p ∧ ∀ a c, T.toTr.Rsv p (Pr.leafQ 2 p.num (T.toTr.procI (cutL p.name 46)) 0 (cutR p.name 46) a c) := fun h => by
    rw [if_pos h] at hrs0
    refine ⟨(Tr.can_leaf h0).2 (by unfold Tr.RsOk; rw [hrs0]; simp), fun a c => ?_⟩
    have := Tr.rsv_leaf h0 hrs0 a c
    rw [hk] at this; exact this
  have HBAD := Lib.hid hbad
  have HGOOD := Lib.hid hgood
  have hoI := okI_proc (T := T.toTr) hT.P.hn (cutL p.name 46)
  have hlt := fun h => Tr.procI_lt (T := T.toTr) (nm := cutL p.name 46) h
  have hsz : (cutR p.name 46).size ≤ 9223372036854775807 := Nat.le_trans (cutR_size _ _) hp.nameI
  have HN := Lib.hid (show namedB 2 = true from by decide)
  have HF := Lib.hid hp.fine
  obtain ⟨hq1, hq2⟩ := hq
  have hPI := fun nm W (h : Ext w0 W) => process_any W T (hT.ext h) nm
  have hKN := fun k hk nm W (h : Ext w0 W) => known_any W T (hT.ext h) k hk nm
  have hn := hT.P.hn
  simp only [Pr.val, TM.val] at hPI hKN ⊢
  have HPI := Lib.hid hPI
  have HKN := Lib.hid hKN
  rw [h0, hk, hq1, hq2]
  have HRS := Lib.hid (show ∀ x, T.toTr.rsN p.kind p.proc p.peer p.name = x → T.toTr.rsN p.kind p.proc p.peer p.name = x from fun _ h => h)
  clear hPI hKN hp hT
  clear hrs0 hbad hgood
  have HOI := Lib.hid hoI
  have HLT := Lib.hid hlt
  have HSZ := Lib.hid hsz
  clear hoI hlt hsz h0 hk hq1 hq2
  go_enter Tryd.func44, Tryd.ntmps44
  go_upto_region 1 with fail
  refine boxed3 (w := w) (G := fun x => Code.wp _ _ _ _ x) ?_
  intro w1 hx1 hs1 ⟨l0, c0, f0, k0⟩ ⟨l1, c1, f1, k1⟩ ⟨l2, c2, f2, k2⟩
  have hx11 : Ext w1 w1 := Ext.refl _
  have HK0 := Lib.hid (show Hold w1 w.heap.size _ from k0)
  have HK1 := Lib.hid (show Hold w1 (w.heap.size + 1) _ from k1)
  have HK2 := Lib.hid (show Hold w1 (w.heap.size + 1 + 1) _ from k2)
  clear hs1 k0 k1 k2
  go_wp2_with fail
  go_at_call 69
  refine (named_any _ _).mono ?_
  rintro e w' ⟨rfl, rfl⟩
  rw [HN.out]
  go_wp2_with fail
  go_at_call 70
  refine (cut_any _ _ HF.out.nameI _).mono ?_
  rintro e w2 ⟨rfl, hx2⟩
  have hxw2 := hx1.trans hx2
  have HK02 := Lib.hid (Hold.ext HK0.out hx2)
  have HK12 := Lib.hid (Hold.ext HK1.out hx2)
  have HK22 := Lib.hid (Hold.ext HK2.out hx2)
  go_wp2_with fail
  go_at_call 71
  refine (HPI.out _ _ (hx.trans hxw2)).mono ?_
  rintro e w3 ⟨rfl, hx3⟩
  have hx13 := hx2.trans hx3
  go_upto_region 12 with fail
  have HK03 := Lib.hid (Hold.ext HK02.out hx3)
  have HK13 := Lib.hid (Hold.ext HK12.out hx3)
  have HK23 := Lib.hid (Hold.ext HK22.out hx3)
  have hxw3 := hxw2.trans hx3
  refine setw2 (w := w3) (G := fun x => Code.wp _ _ _ _ x) ?_
  intro w4 hw4
  have hp4 : Hold w4 (w.heap.size + 1) #[.int .i64 2, .int .i64 p.num, .int .i64 (T.toTr.procI (cutL p.name 46)), .int .i64 0, .string (cutR p.name 46), .slice p.a 0 p.cap] := by rw [hw4]; simpa using (HK13.out.set 2 _).set 4 _
  have ht4 : Hold w4 w.heap.size #[.slice T.a T.n T.cap] := by rw [hw4]; exact (HK03.out.other _ _ (by show w.heap.size ≠ w.heap.size + 1; omega)).other _ _ (by show w.heap.size ≠ w.heap.size + 1; omega)
  have hr4 : Hold w4 (w.heap.size + 1 + 1) #[.int .i64 0, .int .i64 0, .int .i64 0, .int .i64 0, .string ⟨#[]⟩, .slice none 0 0] := by rw [hw4]; exact (HK23.out.other _ _ (by show w.heap.size + 1 + 1 ≠ w.heap.size + 1; omega)).other _ _ (by show w.heap.size + 1 + 1 ≠ w.heap.size + 1; omega)
  have hxw4 : Ext w w4 := by rw [hw4]; exact (hxw3.setCell (by show w.heap.size ≤ w.heap.size + 1; omega) _).setCell (by show w.heap.size ≤ w.heap.size + 1; omega) _
  have hx44 : Ext w4 w4 := Ext.refl _
  have HP4 := Lib.hid hp4
  have HR4 := Lib.hid hr4
  obtain ⟨lt4, ct4, _, _⟩ := ht4.box
  obtain ⟨lp4, cp4, fp4, _⟩ := hp4.box
  clear hw4 hp4 ht4 hr4 l0 c0 f0 l1 c1 f1 l2 c2 f2
  cases hb : cutB p.name 46 with
  | false =>
    have HC := Lib.hid (HBAD.out (by rw [hb]; exact fun h => by cases h.1))
    go_wp2_with fail
    go_at_call 73
    refine (clonep0_any _ _ _).mono ?_
    rintro e w2 ⟨a', c', rfl, hx2⟩
    have hx22 : Ext w2 w2 := Ext.refl _
    have HP2 := Lib.hid (Hold.ext HP4.out hx2)
    have HR2 := Lib.hid (Hold.ext HR4.out hx2)
    have hxw2 := Ext.trans hxw4 hx2
    obtain ⟨l6, c6, f6, _⟩ := HP2.out.box
    go_upto_region 17 with fail
    refine setw1 (w := w2) (G := fun x => Code.wp _ _ _ _ x) ?_
    intro w3 hw3
    have hk3 : Hold w3 (w.heap.size + 1) #[.int .i64 2, .int .i64 p.num, .int .i64 (T.toTr.procI (cutL p.name 46)), .int .i64 0, .string (cutR p.name 46), .slice a' 0 c'] := by rw [hw3]; simpa using HP2.out.set 5 _
    have HR3 := Lib.hid (show Hold w3 (w.heap.size + 1 + 1) _ from by rw [hw3]; exact HR2.out.other _ _ (by show w.heap.size + 1 + 1 ≠ w.heap.size + 1; omega))
    have hxw3 : Ext w w3 := by rw [hw3]; exact hxw2.setCell (by show w.heap.size ≤ w.heap.size + 1; omega) _
    have hx33 : Ext w3 w3 := Ext.refl _
    obtain ⟨l7, c7, f7, _⟩ := hk3.box
    obtain ⟨l8, c8, f8, _⟩ := HR3.out.box
    clear hw3 l6 c6 f6 hk3
    go_wp2_with fail
    go_loopg [6, 109] 0 (fun gg v6 v wr => gg = 0 ∧ v6 = .bool false ∧ v = .int .i64 0 ∧ wr = w3)
    case atStart => exact ⟨rfl, rfl, rfl, rfl⟩
    case round =>
      obtain ⟨rfl, rfl, rfl, rfl⟩ := hrel
      go_wp2_with fail
      have hk9 := Hold.all6 HR3.out (.int .i64 2) (.int .i64 p.num) (.int .i64 (T.toTr.procI (cutL p.name 46))) (.int .i64 0) (.string (cutR p.name 46)) (.slice a' 0 c')
      refine bodyPost_ret (rsl_results _ _ (w.heap.size + 1 + 1) _ _ _ _ _ _ _ rfl rfl (hk9.cell0 0) (hk9.cell0 1) (hk9.cell0 2) (hk9.cell0 3) (hk9.cell0 4) (hk9.cell0 5)) rfl ?_
      exact ⟨hxw3.put6 (by omega) 0 _ _ _ _ _ _, Pr.leafQ 2 p.num (T.toTr.procI (cutL p.name 46)) 0 (cutR p.name 46) a' c', false, rfl, Pr.leafQ_held ok2' HF.out.numI HOI.out ok0' HSZ.out _ _, ⟨(fun h => by cases h), fun h => absurd h HC.out⟩, (fun h => by cases h)⟩
  | true =>
    by_cases hge : 0 ≤ T.toTr.procI (cutL p.name 46)
    · have hisp := HLT.out hge
      obtain ⟨k, hk⟩ : ∃ k : Nat, T.toTr.procI (cutL p.name 46) = k := ⟨(T.toTr.procI (cutL p.name 46)).toNat, by omega⟩
      have hkn : k < T.n := by have := hisp.2; omega
      have hKK := HKN.out k hkn (cutR p.name 46) w4 (hx.trans hxw4)
      have HG2 := Lib.hid (show T.toTr.hasV k (cutR p.name 46) = true → T.toTr.Can p ∧ ∀ a c, T.toTr.Rsv p (Pr.leafQ 2 p.num k 0 (cutR p.name 46) a c) from fun h => by
        have := HGOOD.out ⟨hb, hge, by rw [hk, Int.toNat_natCast]; exact h⟩
        rw [hk] at this; exact this)
      have HB2 := Lib.hid (show T.toTr.hasV k (cutR p.name 46) = false → ¬ T.toTr.Can p from fun h => HBAD.out fun h2 => by
        have := h2.2.2; rw [hk, Int.toNat_natCast, h] at this; cases this)
      have HOI2 := Lib.hid HOI.out
      rw [hk] at HOI2 HP4 cp4 ⊢
      clear hge hisp hk hb
      go_wp2_with fail
      go_at_call 72
      refine hKK.mono ?_
      rintro e w5 ⟨rfl, hx5⟩
      have HP5 := Lib.hid (Hold.ext HP4.out hx5)
      have HR5 := Lib.hid (Hold.ext HR4.out hx5)
      have hxw5 := hxw4.trans hx5
      clear hKK
      cases hv : T.toTr.hasV k (cutR p.name 46) with
      | false =>
        have HC := Lib.hid (HB2.out hv)
        clear hv
        go_wp2_with fail
        go_at_call 73
        refine (clonep0_any _ _ _).mono ?_
        rintro e w2 ⟨a', c', rfl, hx2⟩
        have hx22 : Ext w2 w2 := Ext.refl _
        have HP2 := Lib.hid (Hold.ext HP5.out hx2)
        have HR2 := Lib.hid (Hold.ext HR5.out hx2)
        have hxw2 := Ext.trans hxw5 hx2
        obtain ⟨l6, c6, f6, _⟩ := HP2.out.box
        go_upto_region 17 with fail
        refine setw1 (w := w2) (G := fun x => Code.wp _ _ _ _ x) ?_
        intro w3 hw3
        have hk3 : Hold w3 (w.heap.size + 1) #[.int .i64 2, .int .i64 p.num, .int .i64 (k : Int), .int .i64 0, .string (cutR p.name 46), .slice a' 0 c'] := by rw [hw3]; simpa using HP2.out.set 5 _
        have HR3 := Lib.hid (show Hold w3 (w.heap.size + 1 + 1) _ from by rw [hw3]; exact HR2.out.other _ _ (by show w.heap.size + 1 + 1 ≠ w.heap.size + 1; omega))
        have hxw3 : Ext w w3 := by rw [hw3]; exact hxw2.setCell (by show w.heap.size ≤ w.heap.size + 1; omega) _
        have hx33 : Ext w3 w3 := Ext.refl _
        obtain ⟨l7, c7, f7, _⟩ := hk3.box
        obtain ⟨l8, c8, f8, _⟩ := HR3.out.box
        clear hw3 l6 c6 f6 hk3
        go_wp2_with fail
        go_loopg [6, 109] 0 (fun gg v6 v wr => gg = 0 ∧ v6 = .bool false ∧ v = .int .i64 0 ∧ wr = w3)
        case atStart => exact ⟨rfl, rfl, rfl, rfl⟩
        case round =>
          obtain ⟨rfl, rfl, rfl, rfl⟩ := hrel
          go_wp2_with fail
          have hk9 := Hold.all6 HR3.out (.int .i64 2) (.int .i64 p.num) (.int .i64 (k : Int)) (.int .i64 0) (.string (cutR p.name 46)) (.slice a' 0 c')
          refine bodyPost_ret (rsl_results _ _ (w.heap.size + 1 + 1) _ _ _ _ _ _ _ rfl rfl (hk9.cell0 0) (hk9.cell0 1) (hk9.cell0 2) (hk9.cell0 3) (hk9.cell0 4) (hk9.cell0 5)) rfl ?_
          exact ⟨hxw3.put6 (by omega) 0 _ _ _ _ _ _, Pr.leafQ 2 p.num (k : Int) 0 (cutR p.name 46) a' c', false, rfl, Pr.leafQ_held ok2' HF.out.numI HOI2.out ok0' HSZ.out _ _, ⟨(fun h => by cases h), fun h => absurd h HC.out⟩, (fun h => by cases h)⟩
      | true =>
        have HC := Lib.hid (HG2.out hv).1
        have HR := Lib.hid (HG2.out hv).2
        clear hv
        go_wp2_with fail
        go_at_call 73
        refine (clonep0_any _ _ _).mono ?_
        rintro e w2 ⟨a', c', rfl, hx2⟩
        have hx22 : Ext w2 w2 := Ext.refl _
        have HP2 := Lib.hid (Hold.ext HP5.out hx2)
        have HR2 := Lib.hid (Hold.ext HR5.out hx2)
        have hxw2 := Ext.trans hxw5 hx2
        obtain ⟨l6, c6, f6, _⟩ := HP2.out.box
        go_upto_region 17 with fail
        refine setw1 (w := w2) (G := fun x => Code.wp _ _ _ _ x) ?_
        intro w3 hw3
        have hk3 : Hold w3 (w.heap.size + 1) #[.int .i64 2, .int .i64 p.num, .int .i64 (k : Int), .int .i64 0, .string (cutR p.name 46), .slice a' 0 c'] := by rw [hw3]; simpa using HP2.out.set 5 _
        have HR3 := Lib.hid (show Hold w3 (w.heap.size + 1 + 1) _ from by rw [hw3]; exact HR2.out.other _ _ (by show w.heap.size + 1 + 1 ≠ w.heap.size + 1; omega))
        have hxw3 : Ext w w3 := by rw [hw3]; exact hxw2.setCell (by show w.heap.size ≤ w.heap.size + 1; omega) _
        have hx33 : Ext w3 w3 := Ext.refl _
        obtain ⟨l7, c7, f7, _⟩ := hk3.box
        obtain ⟨l8, c8, f8, _⟩ := HR3.out.box
        clear hw3 l6 c6 f6 hk3
        go_wp2_with fail
        go_loopg [6, 109] 0 (fun gg v6 v wr => gg = 0 ∧ v6 = .bool true ∧ v = .int .i64 0 ∧ wr = w3)
        case atStart => exact ⟨rfl, rfl, rfl, rfl⟩
        case round =>
          obtain ⟨rfl, rfl, rfl, rfl⟩ := hrel
          go_wp2_with fail
          have hk9 := Hold.all6 HR3.out (.int .i64 2) (.int .i64 p.num) (.int .i64 (k : Int)) (.int .i64 0) (.string (cutR p.name 46)) (.slice a' 0 c')
          refine bodyPost_ret (rsl_results _ _ (w.heap.size + 1 + 1) _ _ _ _ _ _ _ rfl rfl (hk9.cell0 0) (hk9.cell0 1) (hk9.cell0 2) (hk9.cell0 3) (hk9.cell0 4) (hk9.cell0 5)) rfl ?_
          exact ⟨hxw3.put6 (by omega) 0 _ _ _ _ _ _, Pr.leafQ 2 p.num (k : Int) 0 (cutR p.name 46) a' c', true, rfl, Pr.leafQ_held ok2' HF.out.numI HOI2.out ok0' HSZ.out _ _, ⟨fun _ => HC.out, fun _ => rfl⟩, fun _ => HR.out _ _⟩
    · have HC := Lib.hid (HBAD.out (fun h => hge h.2.1))
      go_wp2_with fail
      go_at_call 73
      refine (clonep0_any _ _ _).mono ?_
      rintro e w2 ⟨a', c', rfl, hx2⟩
      have hx22 : Ext w2 w2 := Ext.refl _
      have HP2 := Lib.hid (Hold.ext HP4.out hx2)
      have HR2 := Lib.hid (Hold.ext HR4.out hx2)
      have hxw2 := Ext.trans hxw4 hx2
      obtain ⟨l6, c6, f6, _⟩ := HP2.out.box
      go_upto_region 17 with fail
      refine setw1 (w := w2) (G := fun x => Code.wp _ _ _ _ x) ?_
      intro w3 hw3
      have hk3 : Hold w3 (w.heap.size + 1) #[.int .i64 2, .int .i64 p.num, .int .i64 (T.toTr.procI (cutL p.name 46)), .int .i64 0, .string (cutR p.name 46), .slice a' 0 c'] := by rw [hw3]; simpa using HP2.out.set 5 _
      have HR3 := Lib.hid (show Hold w3 (w.heap.size + 1 + 1) _ from by rw [hw3]; exact HR2.out.other _ _ (by show w.heap.size + 1 + 1 ≠ w.heap.size + 1; omega))
      have hxw3 : Ext w w3 := by rw [hw3]; exact hxw2.setCell (by show w.heap.size ≤ w.heap.size + 1; omega) _
      have hx33 : Ext w3 w3 := Ext.refl _
      obtain ⟨l7, c7, f7, _⟩ := hk3.box
      obtain ⟨l8, c8, f8, _⟩ := HR3.out.box
      clear hw3 l6 c6 f6 hk3
      go_wp2_with fail
      go_loopg [6, 109] 0 (fun gg v6 v wr => gg = 0 ∧ v6 = .bool false ∧ v = .int .i64 0 ∧ wr = w3)
      case atStart => exact ⟨rfl, rfl, rfl, rfl⟩
      case round =>
        obtain ⟨rfl, rfl, rfl, rfl⟩ := hrel
        go_wp2_with fail
        have hk9 := Hold.all6 HR3.out (.int .i64 2) (.int .i64 p.num) (.int .i64 (T.toTr.procI (cutL p.name 46))) (.int .i64 0) (.string (cutR p.name 46)) (.slice a' 0 c')
        refine bodyPost_ret (rsl_results _ _ (w.heap.size + 1 + 1) _ _ _ _ _ _ _ rfl rfl (hk9.cell0 0) (hk9.cell0 1) (hk9.cell0 2) (hk9.cell0 3) (hk9.cell0 4) (hk9.cell0 5)) rfl ?_
        exact ⟨hxw3.put6 (by omega) 0 _ _ _ _ _ _, Pr.leafQ 2 p.num (T.toTr.procI (cutL p.name 46)) 0 (cutR p.name 46) a' c', false, rfl, Pr.leafQ_held ok2' HF.out.numI HOI.out ok0' HSZ.out _ _, ⟨(fun h => by cases h), fun h => absurd h HC.out⟩, (fun h => by cases h)⟩

end Go.Proofs.YtdplphoohnnbcaaDoor

namespace Go.Proofs.YtdplphoohnnbcaaDoor
open Go.RowKit Go.Shelf

set_option maxRecDepth 100000 in
set_option maxHeartbeats 4000000 in
/-- a count -/
theorem resolve3_any (w0 : World) (T : TM) (hT : T.At w0) (p : Pr) (hp : p.NodeAt w0) (h0 : p.len = 0) (hk : p.kind = 3) (hq : p.proc = 0 ∧ p.peer = 0) (w : World) (hx : Ext w0 w) :
    Calls Tryd.prog 44 #[T.val, p.val] w (RslPost T.toTr p w) := by
  have hrs0 : T.toTr.rsN p.kind p.proc p.peer p.name = if 0 ≤ T.toTr.procI p.name then some (T.toTr.procI p.name, 0, nmNo) else none := by
    unfold Tr.rsN; rw [if_pos (by omega), if_pos hq, if_neg (by omega), if_pos hk]
  have hbad : ¬ (0 ≤ T.toTr.procI p.name) → ¬ T.toTr.Can p := fun h hc => (Tr.can_leaf h0).1 hc (by rw [hrs0, if_neg h])
  have hgood : (0 ≤ T.toTr.procI p.name) → T.toTr.Can p ∧ ∀ a c, T.toTr.Rsv p (Pr.leafQ 3 p.num (T.toTr.procI p.name) 0 nmNo a c) := fun h => by
    rw [if_pos h] at hrs0
    refine ⟨(Tr.can_leaf h0).2 (by unfold Tr.RsOk; rw [hrs0]; simp), fun a c => ?_⟩
    have := Tr.rsv_leaf h0 hrs0 a c
    rw [hk] at this; exact this
  have HBAD := Lib.hid hbad
  have HGOOD := Lib.hid hgood
  have hoI := okI_proc (T := T.toTr) hT.P.hn p.name
  have HSZ := Lib.hid (show (⟨#[]⟩ : ByteArray).size ≤ 9223372036854775807 from Nat.zero_le _)
  have HN := Lib.hid (show namedB 3 = true from by decide)
  have HF := Lib.hid hp.fine
  obtain ⟨hq1, hq2⟩ := hq
  have hPI := fun nm W (h : Ext w0 W) => process_any W T (hT.ext h) nm
  have hKN := fun k hk nm W (h : Ext w0 W) => known_any W T (hT.ext h) k hk nm
  have hn := hT.P.hn
  simp only [Pr.val, TM.val] at hPI hKN ⊢
  have HPI := Lib.hid hPI
  have HKN := Lib.hid hKN
  rw [h0, hk, hq1, hq2]
  have HRS := Lib.hid (show ∀ x, T.toTr.rsN p.kind p.proc p.peer p.name = x → T.toTr.rsN p.kind p.proc p.peer p.name = x from fun _ h => h)
  clear hPI hKN hp hT
  clear hrs0 hbad hgood
  have HOI := Lib.hid hoI
  clear hoI h0 hk hq1 hq2
  go_enter Tryd.func44, Tryd.ntmps44
  go_upto_region 1 with fail
  refine boxed3 (w := w) (G := fun x => Code.wp _ _ _ _ x) ?_
  intro w1 hx1 hs1 ⟨l0, c0, f0, k0⟩ ⟨l1, c1, f1, k1⟩ ⟨l2, c2, f2, k2⟩
  have hx11 : Ext w1 w1 := Ext.refl _
  have HK0 := Lib.hid (show Hold w1 w.heap.size _ from k0)
  have HK1 := Lib.hid (show Hold w1 (w.heap.size + 1) _ from k1)
  have HK2 := Lib.hid (show Hold w1 (w.heap.size + 1 + 1) _ from k2)
  clear hs1 k0 k1 k2
  go_wp2_with fail
  go_at_call 69
  refine (named_any _ _).mono ?_
  rintro e w' ⟨rfl, rfl⟩
  rw [HN.out]
  have hxw2 := hx1
  have HK02 := Lib.hid HK0.out
  have HK12 := Lib.hid HK1.out
  have HK22 := Lib.hid HK2.out
  go_wp2_with fail
  go_at_call 71
  refine (HPI.out _ _ (hx.trans hxw2)).mono ?_
  rintro e w3 ⟨rfl, hx3⟩
  have hx13 := hx3
  go_upto_region 15 with fail
  have HK03 := Lib.hid (Hold.ext HK02.out hx3)
  have HK13 := Lib.hid (Hold.ext HK12.out hx3)
  have HK23 := Lib.hid (Hold.ext HK22.out hx3)
  have hxw3 := hxw2.trans hx3
  refine setw2 (w := w3) (G := fun x => Code.wp _ _ _ _ x) ?_
  intro w4 hw4
  have hp4 : Hold w4 (w.heap.size + 1) #[.int .i64 3, .int .i64 p.num, .int .i64 (T.toTr.procI p.name), .int .i64 0, .string ⟨#[]⟩, .slice p.a 0 p.cap] := by rw [hw4]; simpa using (HK13.out.set 2 _).set 4 _
  have ht4 : Hold w4 w.heap.size #[.slice T.a T.n T.cap] := by rw [hw4]; exact (HK03.out.other _ _ (by show w.heap.size ≠ w.heap.size + 1; omega)).other _ _ (by show w.heap.size ≠ w.heap.size + 1; omega)
  have hr4 : Hold w4 (w.heap.size + 1 + 1) #[.int .i64 0, .int .i64 0, .int .i64 0, .int .i64 0, .string ⟨#[]⟩, .slice none 0 0] := by rw [hw4]; exact (HK23.out.other _ _ (by show w.heap.size + 1 + 1 ≠ w.heap.size + 1; omega)).other _ _ (by show w.heap.size + 1 + 1 ≠ w.heap.size + 1; omega)
  have hxw4 : Ext w w4 := by rw [hw4]; exact (hxw3.setCell (by show w.heap.size ≤ w.heap.size + 1; omega) _).setCell (by show w.heap.size ≤ w.heap.size + 1; omega) _
  have hx44 : Ext w4 w4 := Ext.refl _
  have HP4 := Lib.hid hp4
  have HR4 := Lib.hid hr4
  obtain ⟨lt4, ct4, _, _⟩ := ht4.box
  obtain ⟨lp4, cp4, fp4, _⟩ := hp4.box
  clear hw4 hp4 ht4 hr4 l0 c0 f0 l1 c1 f1 l2 c2 f2
  by_cases hge : 0 ≤ T.toTr.procI p.name
  · have HC := Lib.hid (HGOOD.out hge).1
    have HR := Lib.hid (HGOOD.out hge).2
    go_wp2_with fail
    go_at_call 73
    refine (clonep0_any _ _ _).mono ?_
    rintro e w2 ⟨a', c', rfl, hx2⟩
    have hx22 : Ext w2 w2 := Ext.refl _
    have HP2 := Lib.hid (Hold.ext HP4.out hx2)
    have HR2 := Lib.hid (Hold.ext HR4.out hx2)
    have hxw2 := Ext.trans hxw4 hx2
    obtain ⟨l6, c6, f6, _⟩ := HP2.out.box
    go_upto_region 17 with fail
    refine setw1 (w := w2) (G := fun x => Code.wp _ _ _ _ x) ?_
    intro w3 hw3
    have hk3 : Hold w3 (w.heap.size + 1) #[.int .i64 3, .int .i64 p.num, .int .i64 (T.toTr.procI p.name), .int .i64 0, .string ⟨#[]⟩, .slice a' 0 c'] := by rw [hw3]; simpa using HP2.out.set 5 _
    have HR3 := Lib.hid (show Hold w3 (w.heap.size + 1 + 1) _ from by rw [hw3]; exact HR2.out.other _ _ (by show w.heap.size + 1 + 1 ≠ w.heap.size + 1; omega))
    have hxw3 : Ext w w3 := by rw [hw3]; exact hxw2.setCell (by show w.heap.size ≤ w.heap.size + 1; omega) _
    have hx33 : Ext w3 w3 := Ext.refl _
    obtain ⟨l7, c7, f7, _⟩ := hk3.box
    obtain ⟨l8, c8, f8, _⟩ := HR3.out.box
    clear hw3 l6 c6 f6 hk3
    go_wp2_with fail
    go_loopg [6, 109] 0 (fun gg v6 v wr => gg = 0 ∧ v6 = .bool true ∧ v = .int .i64 0 ∧ wr = w3)
    case atStart => exact ⟨rfl, rfl, rfl, rfl⟩
    case round =>
      obtain ⟨rfl, rfl, rfl, rfl⟩ := hrel
      go_wp2_with fail
      have hk9 := Hold.all6 HR3.out (.int .i64 3) (.int .i64 p.num) (.int .i64 (T.toTr.procI p.name)) (.int .i64 0) (.string ⟨#[]⟩) (.slice a' 0 c')
      refine bodyPost_ret (rsl_results _ _ (w.heap.size + 1 + 1) _ _ _ _ _ _ _ rfl rfl (hk9.cell0 0) (hk9.cell0 1) (hk9.cell0 2) (hk9.cell0 3) (hk9.cell0 4) (hk9.cell0 5)) rfl ?_
      exact ⟨hxw3.put6 (by omega) 0 _ _ _ _ _ _, Pr.leafQ 3 p.num (T.toTr.procI p.name) 0 ⟨#[]⟩ a' c', true, rfl, Pr.leafQ_held ok3' HF.out.numI HOI.out ok0' HSZ.out _ _, ⟨fun _ => HC.out, fun _ => rfl⟩, fun _ => HR.out _ _⟩
  · have HC := Lib.hid (HBAD.out (by omega))
    go_wp2_with fail
    go_at_call 73
    refine (clonep0_any _ _ _).mono ?_
    rintro e w2 ⟨a', c', rfl, hx2⟩
    have hx22 : Ext w2 w2 := Ext.refl _
    have HP2 := Lib.hid (Hold.ext HP4.out hx2)
    have HR2 := Lib.hid (Hold.ext HR4.out hx2)
    have hxw2 := Ext.trans hxw4 hx2
    obtain ⟨l6, c6, f6, _⟩ := HP2.out.box
    go_upto_region 17 with fail
    refine setw1 (w := w2) (G := fun x => Code.wp _ _ _ _ x) ?_
    intro w3 hw3
    have hk3 : Hold w3 (w.heap.size + 1) #[.int .i64 3, .int .i64 p.num, .int .i64 (T.toTr.procI p.name), .int .i64 0, .string ⟨#[]⟩, .slice a' 0 c'] := by rw [hw3]; simpa using HP2.out.set 5 _
    have HR3 := Lib.hid (show Hold w3 (w.heap.size + 1 + 1) _ from by rw [hw3]; exact HR2.out.other _ _ (by show w.heap.size + 1 + 1 ≠ w.heap.size + 1; omega))
    have hxw3 : Ext w w3 := by rw [hw3]; exact hxw2.setCell (by show w.heap.size ≤ w.heap.size + 1; omega) _
    have hx33 : Ext w3 w3 := Ext.refl _
    obtain ⟨l7, c7, f7, _⟩ := hk3.box
    obtain ⟨l8, c8, f8, _⟩ := HR3.out.box
    clear hw3 l6 c6 f6 hk3
    go_wp2_with fail
    go_loopg [6, 109] 0 (fun gg v6 v wr => gg = 0 ∧ v6 = .bool false ∧ v = .int .i64 0 ∧ wr = w3)
    case atStart => exact ⟨rfl, rfl, rfl, rfl⟩
    case round =>
      obtain ⟨rfl, rfl, rfl, rfl⟩ := hrel
      go_wp2_with fail
      have hk9 := Hold.all6 HR3.out (.int .i64 3) (.int .i64 p.num) (.int .i64 (T.toTr.procI p.name)) (.int .i64 0) (.string ⟨#[]⟩) (.slice a' 0 c')
      refine bodyPost_ret (rsl_results _ _ (w.heap.size + 1 + 1) _ _ _ _ _ _ _ rfl rfl (hk9.cell0 0) (hk9.cell0 1) (hk9.cell0 2) (hk9.cell0 3) (hk9.cell0 4) (hk9.cell0 5)) rfl ?_
      exact ⟨hxw3.put6 (by omega) 0 _ _ _ _ _ _, Pr.leafQ 3 p.num (T.toTr.procI p.name) 0 ⟨#[]⟩ a' c', false, rfl, Pr.leafQ_held ok3' HF.out.numI HOI.out ok0' HSZ.out _ _, ⟨(fun h => by cases h), fun h => absurd h HC.out⟩, (fun h => by cases h)⟩
set_option maxRecDepth 100000 in
set_option maxHeartbeats 4000000 in
/-- a channel -/
theorem resolve4_any (w0 : World) (T : TM) (hT : T.At w0) (p : Pr) (hp : p.NodeAt w0) (h0 : p.len = 0) (hk : p.kind = 4) (hq : p.proc = 0 ∧ p.peer = 0) (w : World) (hx : Ext w0 w) :
    Calls Tryd.prog 44 #[T.val, p.val] w (RslPost T.toTr p w) := by
  have hrs0 : T.toTr.rsN p.kind p.proc p.peer p.name = if cutB p.name 44 = true ∧ 0 ≤ T.toTr.procI (cutL p.name 44) ∧ 0 ≤ T.toTr.procI (cutR p.name 44) ∧ T.toTr.procI (cutL p.name 44) ≠ T.toTr.procI (cutR p.name 44) then some (T.toTr.procI (cutL p.name 44), T.toTr.procI (cutR p.name 44), nmNo) else none := by
    unfold Tr.rsN; rw [if_pos (by omega), if_pos hq, if_neg (by omega), if_neg (by omega)]
  have hbad : ¬ (cutB p.name 44 = true ∧ 0 ≤ T.toTr.procI (cutL p.name 44) ∧ 0 ≤ T.toTr.procI (cutR p.name 44) ∧ T.toTr.procI (cutL p.name 44) ≠ T.toTr.procI (cutR p.name 44)) → ¬ T.toTr.Can p := fun h hc => (Tr.can_leaf h0).1 hc (by rw [hrs0, if_neg h])
  have hgood : (cutB p.name 44 = true ∧ 0 ≤ T.toTr.procI (cutL p.name 44) ∧ 0 ≤ T.toTr.procI (cutR p.name 44) ∧ T.toTr.procI (cutL p.name 44) ≠ T.toTr.procI (cutR p.name 44)) → T.toTr.Can p ∧ ∀ a c, T.toTr.Rsv p (Pr.leafQ 4 p.num (T.toTr.procI (cutL p.name 44)) (T.toTr.procI (cutR p.name 44)) nmNo a c) := fun h => by
    rw [if_pos h] at hrs0
    refine ⟨(Tr.can_leaf h0).2 (by unfold Tr.RsOk; rw [hrs0]; simp), fun a c => ?_⟩
    have := Tr.rsv_leaf h0 hrs0 a c
    rw [hk] at this; exact this
  have hoL := okI_proc (T := T.toTr) hT.P.hn (cutL p.name 44)
  have hoR := okI_proc (T := T.toTr) hT.P.hn (cutR p.name 44)
  have HSZ := Lib.hid (show (⟨#[]⟩ : ByteArray).size ≤ 9223372036854775807 from Nat.zero_le _)
  have HN := Lib.hid (show namedB 4 = true from by decide)
  have HF := Lib.hid hp.fine
  obtain ⟨hq1, hq2⟩ := hq
  have hPI := fun nm W (h : Ext w0 W) => process_any W T (hT.ext h) nm
  have hKN := fun k hk nm W (h : Ext w0 W) => known_any W T (hT.ext h) k hk nm
  have hn := hT.P.hn
  simp only [Pr.val, TM.val] at hPI hKN ⊢
  have HPI := Lib.hid hPI
  have HKN := Lib.hid hKN
  rw [h0, hk, hq1, hq2]
  have HRS := Lib.hid (show ∀ x, T.toTr.rsN p.kind p.proc p.peer p.name = x → T.toTr.rsN p.kind p.proc p.peer p.name = x from fun _ h => h)
  clear hPI hKN hp hT
  have hPL := HPI.out (cutL p.name 44)
  have hPR := HPI.out (cutR p.name 44)
  generalize T.toTr.procI (cutL p.name 44) = pl at hPL hbad hgood hoL hrs0
  generalize T.toTr.procI (cutR p.name 44) = pr at hPR hbad hgood hoR hrs0
  have HPL := Lib.hid hPL
  have HPR := Lib.hid hPR
  have HBAD := Lib.hid hbad
  have HGOOD := Lib.hid hgood
  have HOL := Lib.hid hoL
  have HOR := Lib.hid hoR
  clear hrs0 hbad hgood hPL hPR hoL hoR h0 hk hq1 hq2
  go_enter Tryd.func44, Tryd.ntmps44
  go_upto_region 1 with fail
  refine boxed3 (w := w) (G := fun x => Code.wp _ _ _ _ x) ?_
  intro w1 hx1 hs1 ⟨l0, c0, f0, k0⟩ ⟨l1, c1, f1, k1⟩ ⟨l2, c2, f2, k2⟩
  have hx11 : Ext w1 w1 := Ext.refl _
  have HK0 := Lib.hid (show Hold w1 w.heap.size _ from k0)
  have HK1 := Lib.hid (show Hold w1 (w.heap.size + 1) _ from k1)
  have HK2 := Lib.hid (show Hold w1 (w.heap.size + 1 + 1) _ from k2)
  clear hs1 k0 k1 k2
  go_wp2_with fail
  go_at_call 69
  refine (named_any _ _).mono ?_
  rintro e w' ⟨rfl, rfl⟩
  rw [HN.out]
  go_wp2_with fail
  go_at_call 70
  refine (cut_any _ _ HF.out.nameI _).mono ?_
  rintro e w2 ⟨rfl, hx2⟩
  have hxw2 := hx1.trans hx2
  have HK02 := Lib.hid (Hold.ext HK0.out hx2)
  have HK12 := Lib.hid (Hold.ext HK1.out hx2)
  have HK22 := Lib.hid (Hold.ext HK2.out hx2)
  obtain ⟨sl, hsl⟩ : ∃ s, s = cutL p.name 44 := ⟨_, rfl⟩
  obtain ⟨sr, hsr⟩ : ∃ s, s = cutR p.name 44 := ⟨_, rfl⟩
  obtain ⟨is, his⟩ : ∃ s, s = cutB p.name 44 := ⟨_, rfl⟩
  rw [← hsl] at HPL ⊢
  rw [← hsr] at HPR ⊢
  rw [← his] at HBAD HGOOD ⊢
  clear hsl hsr his
  go_upto_region 7 with fail
  refine wp_region_held_drew (S := fun w' => Ext w w' ∧ Hold w' w.heap.size #[.slice T.a T.n T.cap]) (by kernel_rfl) ⟨hxw2.drew, HK02.out.drew⟩ (fun hHeld => ?_)
  refine heldTake 0 (v := ?_) rfl (by kernel_rfl) (by kernel_rfl) (by kernel_rfl) (fun _ _ _ h => h) (Or.inl ⟨by rfl, ?_⟩) (by assumption) ?_
  rotate_left
  · (intro w' hSw; obtain ⟨hSa, hSb⟩ := hSw; obtain ⟨lS, cS, _, _⟩ := hSb.box; have hSS := Ext.refl w'; go_simp; try with_reducible rfl)
  simp only [Act.put, List.setIfInBounds_toArray, List.set_cons_zero, List.set_cons_succ]
  refine heldTake 1 (v := ?_) rfl (by kernel_rfl) (by kernel_rfl) (by kernel_rfl) (fun _ _ _ h => h) (Or.inl ⟨by rfl, ?_⟩) (by assumption) ?_
  rotate_left
  · (intro w' hSw; obtain ⟨hSa, hSb⟩ := hSw; obtain ⟨lS, cS, _, _⟩ := hSb.box; have hSS := Ext.refl w'; go_simp; try with_reducible rfl)
  simp only [Act.put, List.setIfInBounds_toArray, List.set_cons_zero, List.set_cons_succ]
  refine heldTake 3 (v := ?_) rfl (by kernel_rfl) (by kernel_rfl) (by kernel_rfl) (fun _ _ _ h => h) (Or.inl ⟨by rfl, ?_⟩) (by assumption) ?_
  rotate_left
  · (intro w' hSw; obtain ⟨hSa, hSb⟩ := hSw; obtain ⟨lS, cS, _, _⟩ := hSb.box; have hSS := Ext.refl w'; go_simp; try with_reducible rfl)
  simp only [Act.put, List.setIfInBounds_toArray, List.set_cons_zero, List.set_cons_succ]
  refine heldTake 4 (v := ?_) rfl (by kernel_rfl) (by kernel_rfl) (by kernel_rfl) (fun _ _ _ h => h) (Or.inl ⟨by rfl, ?_⟩) (by assumption) ?_
  rotate_left
  · (intro w' hSw; obtain ⟨hSa, hSb⟩ := hSw; obtain ⟨lS, cS, _, _⟩ := hSb.box; have hSS := Ext.refl w'; go_simp; try with_reducible rfl)
  simp only [Act.put, List.setIfInBounds_toArray, List.set_cons_zero, List.set_cons_succ]
  refine wpAnyH_ready (rs := [2]) (by kernel_rfl) (by simp) ?_
  refine AllReadyH.cons rfl (fun K hK => ?_) AllReadyH.nil
  go_simp
  go_at_call 71
  refine (HPL.out _ (hx.trans hxw2).drew).mono ?_
  rintro e w3 ⟨rfl, hx3⟩
  have H03 := Lib.hid (Hold.ext HK02.out.drew hx3)
  have H13 := Lib.hid (Hold.ext HK12.out.drew hx3)
  have H23 := Lib.hid (Hold.ext HK22.out.drew hx3)
  have hxw3 : Ext w w3 := hxw2.drew.trans hx3
  refine hK.out _ _ ⟨hxw3, H03.out⟩ (fun hHeld2 => ?_)
  clear hK K
  refine heldTake 6 (v := ?_) rfl (by kernel_rfl) (by kernel_rfl) (by kernel_rfl) (fun _ _ _ h => h) (Or.inl ⟨by rfl, ?_⟩) (by assumption) ?_
  rotate_left
  · (intro w' hSw; obtain ⟨hSa, hSb⟩ := hSw; obtain ⟨lS, cS, _, _⟩ := hSb.box; have hSS := Ext.refl w'; go_simp; try with_reducible rfl)
  simp only [Act.put, List.setIfInBounds_toArray, List.set_cons_zero, List.set_cons_succ]
  refine wpAnyH_ready (rs := [5]) (by kernel_rfl) (by simp) ?_
  refine AllReadyH.cons rfl (fun K hK => ?_) AllReadyH.nil
  go_simp
  go_at_call 71
  refine (HPR.out _ (hx.trans hxw3)).mono ?_
  rintro e w4 ⟨rfl, hx4⟩
  have H04 := Lib.hid (Hold.ext H03.out hx4)
  have H14 := Lib.hid (Hold.ext H13.out hx4)
  have H24 := Lib.hid (Hold.ext H23.out hx4)
  have hxw4 : Ext w w4 := hxw3.trans hx4
  refine hK.out _ _ ⟨hxw4, H04.out⟩ (fun hHeld2 => ?_)
  clear hK K
  obtain ⟨lp, cp, fp, _⟩ := (H14.out).box
  have hxx := Ext.refl w4
  refine wpAnyH_ready (rs := [7]) (by kernel_rfl) (by simp) ?_
  refine AllReadyH.cons rfl (fun K hK => ?_) AllReadyH.nil
  go_simp
  refine setw1 (w := w4) (G := fun x => K _ x) ?_
  intro w5 hw9
  have H15 := Lib.hid (show Hold w5 (w.heap.size + 1) #[.int .i64 4, .int .i64 p.num, .int .i64 pl, .int .i64 0, .string p.name, .slice p.a 0 p.cap] from by rw [hw9]; simpa using (H14.out).set 2 _)
  have H05 := Lib.hid (show Hold w5 w.heap.size #[.slice T.a T.n T.cap] from by rw [hw9]; exact (H04.out).other _ _ (by show w.heap.size ≠ w.heap.size + 1; omega))
  have H25 := Lib.hid (show Hold w5 (w.heap.size + 1 + 1) #[.int .i64 0, .int .i64 0, .int .i64 0, .int .i64 0, .string ⟨#[]⟩, .slice none 0 0] from by rw [hw9]; exact (H24.out).other _ _ (by show w.heap.size + 1 + 1 ≠ w.heap.size + 1; omega))
  have hxw5 : Ext w w5 := by rw [hw9]; exact Ext.setCell hxw4 (by show w.heap.size ≤ w.heap.size + 1; omega) _
  clear hw9 lp cp fp hxx
  refine hK.out _ _ ⟨hxw5, (H05).out⟩ (fun hHeld2 => ?_)
  clear hK K
  refine heldTake 8 (v := ?_) rfl (by kernel_rfl) (by kernel_rfl) (by kernel_rfl) (fun _ _ _ h => h) (Or.inl ⟨by rfl, ?_⟩) (by assumption) ?_
  rotate_left
  · (intro w' hSw; obtain ⟨hSa, hSb⟩ := hSw; obtain ⟨lS, cS, _, _⟩ := hSb.box; have hSS := Ext.refl w'; go_simp; try with_reducible rfl)
  simp only [Act.put, List.setIfInBounds_toArray, List.set_cons_zero, List.set_cons_succ]
  obtain ⟨lp, cp, fp, _⟩ := (H15.out).box
  have hxx := Ext.refl w5
  refine wpAnyH_ready (rs := [9]) (by kernel_rfl) (by simp) ?_
  refine AllReadyH.cons rfl (fun K hK => ?_) AllReadyH.nil
  go_simp
  refine setw1 (w := w5) (G := fun x => K _ x) ?_
  intro w6 hw9
  have H16 := Lib.hid (show Hold w6 (w.heap.size + 1) #[.int .i64 4, .int .i64 p.num, .int .i64 pl, .int .i64 pr, .string p.name, .slice p.a 0 p.cap] from by rw [hw9]; simpa using (H15.out).set 3 _)
  have H06 := Lib.hid (show Hold w6 w.heap.size #[.slice T.a T.n T.cap] from by rw [hw9]; exact (H05.out).other _ _ (by show w.heap.size ≠ w.heap.size + 1; omega))
  have H26 := Lib.hid (show Hold w6 (w.heap.size + 1 + 1) #[.int .i64 0, .int .i64 0, .int .i64 0, .int .i64 0, .string ⟨#[]⟩, .slice none 0 0] from by rw [hw9]; exact (H25.out).other _ _ (by show w.heap.size + 1 + 1 ≠ w.heap.size + 1; omega))
  have hxw6 : Ext w w6 := by rw [hw9]; exact Ext.setCell hxw5 (by show w.heap.size ≤ w.heap.size + 1; omega) _
  clear hw9 lp cp fp hxx
  refine hK.out _ _ ⟨hxw6, (H06).out⟩ (fun hHeld2 => ?_)
  clear hK K
  refine heldTake 10 (v := ?_) rfl (by kernel_rfl) (by kernel_rfl) (by kernel_rfl) (fun _ _ _ h => h) (Or.inl ⟨by rfl, ?_⟩) (by assumption) ?_
  rotate_left
  · (intro w' hSw; obtain ⟨hSa, hSb⟩ := hSw; obtain ⟨lS, cS, _, _⟩ := hSb.box; have hSS := Ext.refl w'; go_simp; try with_reducible rfl)
  simp only [Act.put, List.setIfInBounds_toArray, List.set_cons_zero, List.set_cons_succ]
  obtain ⟨lp, cp, fp, _⟩ := (H16.out).box
  have hxx := Ext.refl w6
  refine wpAnyH_ready (rs := [11]) (by kernel_rfl) (by simp) ?_
  refine AllReadyH.cons rfl (fun K hK => ?_) AllReadyH.nil
  go_simp
  refine setw1 (w := w6) (G := fun x => K _ x) ?_
  intro w7 hw9
  have H17 := Lib.hid (show Hold w7 (w.heap.size + 1) #[.int .i64 4, .int .i64 p.num, .int .i64 pl, .int .i64 pr, .string ⟨#[]⟩, .slice p.a 0 p.cap] from by rw [hw9]; simpa using (H16.out).set 4 _)
  have H07 := Lib.hid (show Hold w7 w.heap.size #[.slice T.a T.n T.cap] from by rw [hw9]; exact (H06.out).other _ _ (by show w.heap.size ≠ w.heap.size + 1; omega))
  have H27 := Lib.hid (show Hold w7 (w.heap.size + 1 + 1) #[.int .i64 0, .int .i64 0, .int .i64 0, .int .i64 0, .string ⟨#[]⟩, .slice none 0 0] from by rw [hw9]; exact (H26.out).other _ _ (by show w.heap.size + 1 + 1 ≠ w.heap.size + 1; omega))
  have hxw7 : Ext w w7 := by rw [hw9]; exact Ext.setCell hxw6 (by show w.heap.size ≤ w.heap.size + 1; omega) _
  clear hw9 lp cp fp hxx
  refine hK.out _ _ ⟨hxw7, (H07).out⟩ (fun hHeld2 => ?_)
  clear hK K
  refine wpAnyH_done (by kernel_rfl) ?_ _
  obtain ⟨lp7, cp7, fp7, _⟩ := H17.out.box
  have hx77 : Ext w7 w7 := Ext.refl _
  clear l0 c0 f0 l1 c1 f1 l2 c2 f2
  cases is with
  | false =>
    have HC := Lib.hid (HBAD.out (fun h => by cases h.1))
    go_wp2_with fail
    go_at_call 73
    refine (clonep0_any _ _ _).mono ?_
    rintro e w2 ⟨a', c', rfl, hx2⟩
    have hx22 : Ext w2 w2 := Ext.refl _
    have HP2 := Lib.hid (Hold.ext H17.out hx2)
    have HR2 := Lib.hid (Hold.ext H27.out hx2)
    have hxw2 := Ext.trans hxw7 hx2
    obtain ⟨l6, c6, f6, _⟩ := HP2.out.box
    go_upto_region 17 with fail
    refine setw1 (w := w2) (G := fun x => Code.wp _ _ _ _ x) ?_
    intro w3 hw3
    have hk3 : Hold w3 (w.heap.size + 1) #[.int .i64 4, .int .i64 p.num, .int .i64 pl, .int .i64 pr, .string ⟨#[]⟩, .slice a' 0 c'] := by rw [hw3]; simpa using HP2.out.set 5 _
    have HR3 := Lib.hid (show Hold w3 (w.heap.size + 1 + 1) _ from by rw [hw3]; exact HR2.out.other _ _ (by show w.heap.size + 1 + 1 ≠ w.heap.size + 1; omega))
    have hxw3 : Ext w w3 := by rw [hw3]; exact hxw2.setCell (by show w.heap.size ≤ w.heap.size + 1; omega) _
    have hx33 : Ext w3 w3 := Ext.refl _
    obtain ⟨l7, c7, f7, _⟩ := hk3.box
    obtain ⟨l8, c8, f8, _⟩ := HR3.out.box
    clear hw3 l6 c6 f6 hk3
    go_wp2_with fail
    go_loopg [6, 109] 0 (fun gg v6 v wr => gg = 0 ∧ v6 = .bool false ∧ v = .int .i64 0 ∧ wr = w3)
    case atStart => exact ⟨rfl, rfl, rfl, rfl⟩
    case round =>
      obtain ⟨rfl, rfl, rfl, rfl⟩ := hrel
      go_wp2_with fail
      have hk9 := Hold.all6 HR3.out (.int .i64 4) (.int .i64 p.num) (.int .i64 pl) (.int .i64 pr) (.string ⟨#[]⟩) (.slice a' 0 c')
      refine bodyPost_ret (rsl_results _ _ (w.heap.size + 1 + 1) _ _ _ _ _ _ _ rfl rfl (hk9.cell0 0) (hk9.cell0 1) (hk9.cell0 2) (hk9.cell0 3) (hk9.cell0 4) (hk9.cell0 5)) rfl ?_
      exact ⟨hxw3.put6 (by omega) 0 _ _ _ _ _ _, Pr.leafQ 4 p.num pl pr ⟨#[]⟩ a' c', false, rfl, Pr.leafQ_held ok4' HF.out.numI HOL.out HOR.out HSZ.out _ _, ⟨(fun h => by cases h), fun h => absurd h HC.out⟩, (fun h => by cases h)⟩
  | true =>
    by_cases h1 : 0 ≤ pl
    · by_cases h2 : 0 ≤ pr
      · by_cases h3 : pl = pr
        · have d3 : (pl != pr) = false := by simp [h3]
          have HC := Lib.hid (HBAD.out (fun h => h.2.2.2 h3))
          clear h3
          go_wp2_with fail
          go_at_call 73
          refine (clonep0_any _ _ _).mono ?_
          rintro e w2 ⟨a', c', rfl, hx2⟩
          have hx22 : Ext w2 w2 := Ext.refl _
          have HP2 := Lib.hid (Hold.ext H17.out hx2)
          have HR2 := Lib.hid (Hold.ext H27.out hx2)
          have hxw2 := Ext.trans hxw7 hx2
          obtain ⟨l6, c6, f6, _⟩ := HP2.out.box
          go_upto_region 17 with fail
          refine setw1 (w := w2) (G := fun x => Code.wp _ _ _ _ x) ?_
          intro w3 hw3
          have hk3 : Hold w3 (w.heap.size + 1) #[.int .i64 4, .int .i64 p.num, .int .i64 pl, .int .i64 pr, .string ⟨#[]⟩, .slice a' 0 c'] := by rw [hw3]; simpa using HP2.out.set 5 _
          have HR3 := Lib.hid (show Hold w3 (w.heap.size + 1 + 1) _ from by rw [hw3]; exact HR2.out.other _ _ (by show w.heap.size + 1 + 1 ≠ w.heap.size + 1; omega))
          have hxw3 : Ext w w3 := by rw [hw3]; exact hxw2.setCell (by show w.heap.size ≤ w.heap.size + 1; omega) _
          have hx33 : Ext w3 w3 := Ext.refl _
          obtain ⟨l7, c7, f7, _⟩ := hk3.box
          obtain ⟨l8, c8, f8, _⟩ := HR3.out.box
          clear hw3 l6 c6 f6 hk3
          go_wp2_with fail
          go_loopg [6, 109] 0 (fun gg v6 v wr => gg = 0 ∧ v6 = .bool false ∧ v = .int .i64 0 ∧ wr = w3)
          case atStart => exact ⟨rfl, rfl, rfl, rfl⟩
          case round =>
            obtain ⟨rfl, rfl, rfl, rfl⟩ := hrel
            go_wp2_with fail
            have hk9 := Hold.all6 HR3.out (.int .i64 4) (.int .i64 p.num) (.int .i64 pl) (.int .i64 pr) (.string ⟨#[]⟩) (.slice a' 0 c')
            refine bodyPost_ret (rsl_results _ _ (w.heap.size + 1 + 1) _ _ _ _ _ _ _ rfl rfl (hk9.cell0 0) (hk9.cell0 1) (hk9.cell0 2) (hk9.cell0 3) (hk9.cell0 4) (hk9.cell0 5)) rfl ?_
            exact ⟨hxw3.put6 (by omega) 0 _ _ _ _ _ _, Pr.leafQ 4 p.num pl pr ⟨#[]⟩ a' c', false, rfl, Pr.leafQ_held ok4' HF.out.numI HOL.out HOR.out HSZ.out _ _, ⟨(fun h => by cases h), fun h => absurd h HC.out⟩, (fun h => by cases h)⟩
        · have d3 : (pl != pr) = true := by simp [h3]
          have HC := Lib.hid (HGOOD.out ⟨rfl, h1, h2, h3⟩).1
          have HR := Lib.hid (HGOOD.out ⟨rfl, h1, h2, h3⟩).2
          clear h3
          go_wp2_with fail
          go_at_call 73
          refine (clonep0_any _ _ _).mono ?_
          rintro e w2 ⟨a', c', rfl, hx2⟩
          have hx22 : Ext w2 w2 := Ext.refl _
          have HP2 := Lib.hid (Hold.ext H17.out hx2)
          have HR2 := Lib.hid (Hold.ext H27.out hx2)
          have hxw2 := Ext.trans hxw7 hx2
          obtain ⟨l6, c6, f6, _⟩ := HP2.out.box
          go_upto_region 17 with fail
          refine setw1 (w := w2) (G := fun x => Code.wp _ _ _ _ x) ?_
          intro w3 hw3
          have hk3 : Hold w3 (w.heap.size + 1) #[.int .i64 4, .int .i64 p.num, .int .i64 pl, .int .i64 pr, .string ⟨#[]⟩, .slice a' 0 c'] := by rw [hw3]; simpa using HP2.out.set 5 _
          have HR3 := Lib.hid (show Hold w3 (w.heap.size + 1 + 1) _ from by rw [hw3]; exact HR2.out.other _ _ (by show w.heap.size + 1 + 1 ≠ w.heap.size + 1; omega))
          have hxw3 : Ext w w3 := by rw [hw3]; exact hxw2.setCell (by show w.heap.size ≤ w.heap.size + 1; omega) _
          have hx33 : Ext w3 w3 := Ext.refl _
          obtain ⟨l7, c7, f7, _⟩ := hk3.box
          obtain ⟨l8, c8, f8, _⟩ := HR3.out.box
          clear hw3 l6 c6 f6 hk3
          go_wp2_with fail
          go_loopg [6, 109] 0 (fun gg v6 v wr => gg = 0 ∧ v6 = .bool true ∧ v = .int .i64 0 ∧ wr = w3)
          case atStart => exact ⟨rfl, rfl, rfl, rfl⟩
          case round =>
            obtain ⟨rfl, rfl, rfl, rfl⟩ := hrel
            go_wp2_with fail
            have hk9 := Hold.all6 HR3.out (.int .i64 4) (.int .i64 p.num) (.int .i64 pl) (.int .i64 pr) (.string ⟨#[]⟩) (.slice a' 0 c')
            refine bodyPost_ret (rsl_results _ _ (w.heap.size + 1 + 1) _ _ _ _ _ _ _ rfl rfl (hk9.cell0 0) (hk9.cell0 1) (hk9.cell0 2) (hk9.cell0 3) (hk9.cell0 4) (hk9.cell0 5)) rfl ?_
            exact ⟨hxw3.put6 (by omega) 0 _ _ _ _ _ _, Pr.leafQ 4 p.num pl pr ⟨#[]⟩ a' c', true, rfl, Pr.leafQ_held ok4' HF.out.numI HOL.out HOR.out HSZ.out _ _, ⟨fun _ => HC.out, fun _ => rfl⟩, fun _ => HR.out _ _⟩
      · have HC := Lib.hid (HBAD.out (fun h => h2 h.2.2.1))
        go_wp2_with fail
        go_at_call 73
        refine (clonep0_any _ _ _).mono ?_
        rintro e w2 ⟨a', c', rfl, hx2⟩
        have hx22 : Ext w2 w2 := Ext.refl _
        have HP2 := Lib.hid (Hold.ext H17.out hx2)
        have HR2 := Lib.hid (Hold.ext H27.out hx2)
        have hxw2 := Ext.trans hxw7 hx2
        obtain ⟨l6, c6, f6, _⟩ := HP2.out.box
        go_upto_region 17 with fail
        refine setw1 (w := w2) (G := fun x => Code.wp _ _ _ _ x) ?_
        intro w3 hw3
        have hk3 : Hold w3 (w.heap.size + 1) #[.int .i64 4, .int .i64 p.num, .int .i64 pl, .int .i64 pr, .string ⟨#[]⟩, .slice a' 0 c'] := by rw [hw3]; simpa using HP2.out.set 5 _
        have HR3 := Lib.hid (show Hold w3 (w.heap.size + 1 + 1) _ from by rw [hw3]; exact HR2.out.other _ _ (by show w.heap.size + 1 + 1 ≠ w.heap.size + 1; omega))
        have hxw3 : Ext w w3 := by rw [hw3]; exact hxw2.setCell (by show w.heap.size ≤ w.heap.size + 1; omega) _
        have hx33 : Ext w3 w3 := Ext.refl _
        obtain ⟨l7, c7, f7, _⟩ := hk3.box
        obtain ⟨l8, c8, f8, _⟩ := HR3.out.box
        clear hw3 l6 c6 f6 hk3
        go_wp2_with fail
        go_loopg [6, 109] 0 (fun gg v6 v wr => gg = 0 ∧ v6 = .bool false ∧ v = .int .i64 0 ∧ wr = w3)
        case atStart => exact ⟨rfl, rfl, rfl, rfl⟩
        case round =>
          obtain ⟨rfl, rfl, rfl, rfl⟩ := hrel
          go_wp2_with fail
          have hk9 := Hold.all6 HR3.out (.int .i64 4) (.int .i64 p.num) (.int .i64 pl) (.int .i64 pr) (.string ⟨#[]⟩) (.slice a' 0 c')
          refine bodyPost_ret (rsl_results _ _ (w.heap.size + 1 + 1) _ _ _ _ _ _ _ rfl rfl (hk9.cell0 0) (hk9.cell0 1) (hk9.cell0 2) (hk9.cell0 3) (hk9.cell0 4) (hk9.cell0 5)) rfl ?_
          exact ⟨hxw3.put6 (by omega) 0 _ _ _ _ _ _, Pr.leafQ 4 p.num pl pr ⟨#[]⟩ a' c', false, rfl, Pr.leafQ_held ok4' HF.out.numI HOL.out HOR.out HSZ.out _ _, ⟨(fun h => by cases h), fun h => absurd h HC.out⟩, (fun h => by cases h)⟩
    · have HC := Lib.hid (HBAD.out (fun h => h1 h.2.1))
      go_wp2_with fail
      go_at_call 73
      refine (clonep0_any _ _ _).mono ?_
      rintro e w2 ⟨a', c', rfl, hx2⟩
      have hx22 : Ext w2 w2 := Ext.refl _
      have HP2 := Lib.hid (Hold.ext H17.out hx2)
      have HR2 := Lib.hid (Hold.ext H27.out hx2)
      have hxw2 := Ext.trans hxw7 hx2
      obtain ⟨l6, c6, f6, _⟩ := HP2.out.box
      go_upto_region 17 with fail
      refine setw1 (w := w2) (G := fun x => Code.wp _ _ _ _ x) ?_
      intro w3 hw3
      have hk3 : Hold w3 (w.heap.size + 1) #[.int .i64 4, .int .i64 p.num, .int .i64 pl, .int .i64 pr, .string ⟨#[]⟩, .slice a' 0 c'] := by rw [hw3]; simpa using HP2.out.set 5 _
      have HR3 := Lib.hid (show Hold w3 (w.heap.size + 1 + 1) _ from by rw [hw3]; exact HR2.out.other _ _ (by show w.heap.size + 1 + 1 ≠ w.heap.size + 1; omega))
      have hxw3 : Ext w w3 := by rw [hw3]; exact hxw2.setCell (by show w.heap.size ≤ w.heap.size + 1; omega) _
      have hx33 : Ext w3 w3 := Ext.refl _
      obtain ⟨l7, c7, f7, _⟩ := hk3.box
      obtain ⟨l8, c8, f8, _⟩ := HR3.out.box
      clear hw3 l6 c6 f6 hk3
      go_wp2_with fail
      go_loopg [6, 109] 0 (fun gg v6 v wr => gg = 0 ∧ v6 = .bool false ∧ v = .int .i64 0 ∧ wr = w3)
      case atStart => exact ⟨rfl, rfl, rfl, rfl⟩
      case round =>
        obtain ⟨rfl, rfl, rfl, rfl⟩ := hrel
        go_wp2_with fail
        have hk9 := Hold.all6 HR3.out (.int .i64 4) (.int .i64 p.num) (.int .i64 pl) (.int .i64 pr) (.string ⟨#[]⟩) (.slice a' 0 c')
        refine bodyPost_ret (rsl_results _ _ (w.heap.size + 1 + 1) _ _ _ _ _ _ _ rfl rfl (hk9.cell0 0) (hk9.cell0 1) (hk9.cell0 2) (hk9.cell0 3) (hk9.cell0 4) (hk9.cell0 5)) rfl ?_
        exact ⟨hxw3.put6 (by omega) 0 _ _ _ _ _ _, Pr.leafQ 4 p.num pl pr ⟨#[]⟩ a' c', false, rfl, Pr.leafQ_held ok4' HF.out.numI HOL.out HOR.out HSZ.out _ _, ⟨(fun h => by cases h), fun h => absurd h HC.out⟩, (fun h => by cases h)⟩

end Go.Proofs.YtdplphoohnnbcaaDoor
