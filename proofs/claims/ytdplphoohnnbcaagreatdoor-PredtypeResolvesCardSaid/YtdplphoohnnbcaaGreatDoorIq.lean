/- Contracts of antecederef12: Fault, Valid. -/
import Derived.Test.YtdplphoohnnbcaaGreatDoorIn
import Derived.Test.YtdplphoohnnbcaaGreatDoorIp
namespace Go.Proofs.YtdplphoohnnbcaaGreatDoor
open Go.RowKit Go.Shelf

theorem rfault_results (tmps : Array Value) (W : World) (b : Nat) (x y z : Value) (t2 : tmps[2]? = some (.pointer (some ⟨b, 0, none⟩))) (t3 : tmps[3]? = some z) (c : W.cell? ⟨b, 0, none⟩ = some x) (c' : W.cell? ⟨b, 1, none⟩ = some y) :
    (results Tryz.f73 tmps).run Tryz.prog W = .ok (.tuple #[.agg #[x, y], z]) W := by
  simp [results, Tryz.results73, go_sem, t2, t3, c, c']
set_option maxRecDepth 100000 in
set_option maxHeartbeats 4000000 in
theorem rfault_any (w : World) (T : TM) (hT : T.At w) : Calls Tryz.prog 73 #[T.val] w (FaultPost T w) := by
  have hn := hT.P.hn
  by_cases h1 : T.n < 1
  · have d1 : decide ((T.n : Int) < 1) = true := decide_eq_true (by omega)
    have d1' : decide (T.n < 1) = true := decide_eq_true h1
    have HV := Lib.hid (show (1 : Int) = 0 ↔ T.toTr.Valid from ⟨fun h => absurd h (by decide), fun h => absurd h.n1 (by omega)⟩)
    clear hT h1
    go_enter Tryz.func73, Tryz.ntmps73
    go_upto_region 1 with fail
    refine boxed2 (w := w) (G := fun x => Code.wp _ _ _ _ x) ?_
    intro w1 hx1 hs1 ⟨l0, c0, _, _⟩ ⟨l1, c1, f1, k1⟩
    have hx11 : Ext w1 w1 := Ext.refl _
    have HK1 := Lib.hid (show Hold w1 (w.heap.size + 1) #[.int .i64 0, .int .i64 0] from k1)
    clear hs1 k1
    have hh := Hold.ext HK1.out hx11
    obtain ⟨l9, c9, f9, _⟩ := hh.box
    have hh9 := Hold.set (Hold.set hh 0 (.int .i64 0)) 1 (.int .i64 0)
    have G4 := Lib.hid hh9
    have hWW : Ext w1 w1 := Ext.refl _
    clear hh hh9 l1 c1 f1
    go_wp2_with fail
    refine bodyPost_ret (rfault_results _ _ _ _ _ _ rfl rfl (G4.out.cell0 0) (G4.out.cell0 1)) rfl ?_
    have hb : w.heap.size ≤ w.heap.size + 1 := by omega
    exact ⟨Ext.setCell (Ext.setCell (hx1.trans hx11) hb _) hb _, _, _, _, rfl, HV.out⟩
  · by_cases h8 : 8 < T.n
    · have d1 : decide ((T.n : Int) < 1) = false := decide_eq_false (by omega)
      have d2 : decide ((8 : Int) < (T.n : Int)) = true := decide_eq_true (by omega)
      have d2' : decide (8 < T.n) = true := decide_eq_true h8
      have HV := Lib.hid (show (1 : Int) = 0 ↔ T.toTr.Valid from ⟨fun h => absurd h (by decide), fun h => absurd h.n8 (by omega)⟩)
      clear hT h1 h8
      go_enter Tryz.func73, Tryz.ntmps73
      go_upto_region 1 with fail
      refine boxed2 (w := w) (G := fun x => Code.wp _ _ _ _ x) ?_
      intro w1 hx1 hs1 ⟨l0, c0, _, _⟩ ⟨l1, c1, f1, k1⟩
      have hx11 : Ext w1 w1 := Ext.refl _
      have HK1 := Lib.hid (show Hold w1 (w.heap.size + 1) #[.int .i64 0, .int .i64 0] from k1)
      clear hs1 k1
      have hh := Hold.ext HK1.out hx11
      obtain ⟨l9, c9, f9, _⟩ := hh.box
      have hh9 := Hold.set (Hold.set hh 0 (.int .i64 0)) 1 (.int .i64 0)
      have G4 := Lib.hid hh9
      have hWW : Ext w1 w1 := Ext.refl _
      clear hh hh9 l1 c1 f1
      go_wp2_with fail
      refine bodyPost_ret (rfault_results _ _ _ _ _ _ rfl rfl (G4.out.cell0 0) (G4.out.cell0 1)) rfl ?_
      have hb : w.heap.size ≤ w.heap.size + 1 := by omega
      exact ⟨Ext.setCell (Ext.setCell (hx1.trans hx11) hb _) hb _, _, _, _, rfl, HV.out⟩
    · have hn1 : 1 ≤ T.n := by omega
      have hn8 : T.n ≤ 8 := by omega
      have d1 : decide ((T.n : Int) < 1) = false := decide_eq_false (by omega)
      have d2 : decide ((8 : Int) < (T.n : Int)) = false := decide_eq_false (by omega)
      have d2' : decide (8 < T.n) = false := decide_eq_false h8
      have pa := hT.P.pa (by omega)
      have pb := hT.P.pb (by omega)
      have p2 := hT.P.p2
      have hHd := fun W (hx : Ext w W) p hp => rhead_any W T (hT.ext hx) p hp
      have hFm := fun W (hx : Ext w W) p i hp hi => rform_any W T (hT.ext hx) p i hp hi
      have hPd := fun W (hx : Ext w W) hF p i hp hi => rpaired_any W T (hT.ext hx) hF p i hp hi
      have hAc := fun W (hx : Ext w W) hP => racyclic_any W T (hT.ext hx) hP
      have hPs := fun W (hx : Ext w W) hP x hx' => rpast_any W T (hT.ext hx) hP x hx'
      simp only [TM.val, pa] at hHd hFm hPd hAc hPs
      have HHd := Lib.hid hHd
      have HFm := Lib.hid hFm
      have HPd := Lib.hid hPd
      have HAc := Lib.hid hAc
      have HPs := Lib.hid hPs
      clear hT h1 h8 hHd hFm hPd hAc hPs
      go_enter Tryz.func73, Tryz.ntmps73
      go_upto_region 1 with fail
      refine boxed2 (w := w) (G := fun x => Code.wp _ _ _ _ x) ?_
      intro w1 hx1 hs1 ⟨l0, c0, _, _⟩ ⟨l1, c1, f1, k1⟩
      have hx11 : Ext w1 w1 := Ext.refl _
      have HK1 := Lib.hid (show Hold w1 (w.heap.size + 1) #[.int .i64 0, .int .i64 0] from k1)
      clear hs1 k1
      go_wp2_with fail
      clear d1 d2 d2'
      go_loopg [4] T.n (fun gg v wr => ∃ k : Nat, k ≤ T.n ∧ gg = T.n - k ∧ v = .int .i64 k ∧ Ext w1 wr ∧ ∀ j, j < k → T.toTr.PrOk j)
      case atStart => exact ⟨0, by omega, rfl, rfl, hx11, fun j hj => by omega⟩
      case round =>
        obtain ⟨k, hk, rfl, rfl, hxr, hok⟩ := hrel
        have HOK := Lib.hid hok
        clear hok
        have hxw := hx1.trans hxr
        by_cases hlt : k < T.n
        · have hlt' : (k : Int) < (T.n : Int) := by omega
          have hC := HHd.out wr hxw k hlt
          go_upto_region 7 with (go_at_call 102; refine hC.mono ?_; rintro e w3 ⟨c, rfl, hc, hx3⟩)
          have hx13 := hxr.trans hx3
          clear hC
          by_cases h0 : c = 0
          · subst h0
            have HC := Lib.hid (hc.1 rfl)
            clear hc
            go_wp2_with fail
            go_roundg (T.n - (k + 1))
            case rel => exact ⟨k + 1, by omega, rfl, by go_num, hx13, fun j hj => by
              by_cases e : j = k
              · subst e; exact HC.out
              · exact HOK.out j (by omega)⟩
            case measure => omega
          · have hb0 : (c != 0) = true := by simpa using h0
            have HV := Lib.hid (show c = 0 ↔ T.toTr.Valid from ⟨fun h => absurd h h0, fun h => absurd (hc.2 (h.pr k hlt)) h0⟩)
            clear hc h0
            have hh := Hold.ext HK1.out hx13
            obtain ⟨l9, c9, f9, _⟩ := hh.box
            have hh9 := Hold.set (Hold.set hh 0 (.int .i64 k)) 1 (.int .i64 0)
            have G4 := Lib.hid hh9
            have hWW : Ext w3 w3 := Ext.refl _
            clear hh hh9 l1 c1 f1
            go_wp2_with fail
            refine bodyPost_ret (rfault_results _ _ _ _ _ _ rfl rfl (G4.out.cell0 0) (G4.out.cell0 1)) rfl ?_
            have hb : w.heap.size ≤ w.heap.size + 1 := by omega
            exact ⟨Ext.setCell (Ext.setCell (hx1.trans hx13) hb _) hb _, _, _, _, rfl, HV.out⟩
        · have hke : k = T.n := by omega
          subst hke
          have HPR := Lib.hid HOK.out
          have hE8 : ∀ k, k < T.n → T.en k ≤ 64 := fun k hk => (HPR.out k hk).2.2.2.2
          clear HOK
          go_wp2_with fail
          go_loopg [6] T.n (fun gg v wr => ∃ k : Nat, k ≤ T.n ∧ gg = T.n - k ∧ v = .int .i64 k ∧ Ext w1 wr ∧ ∀ j i, j < k → i < T.en j → T.toTr.EvOk j i)
          case atStart => exact ⟨0, by omega, rfl, rfl, hxr, fun j i hj => by omega⟩
          case round =>
            obtain ⟨k, hk, rfl, rfl, hxr, hok⟩ := hrel
            have HOK := Lib.hid hok
            clear hok
            have hxw := hx1.trans hxr
            by_cases hlt : k < T.n
            · have hlt' : (k : Int) < (T.n : Int) := by omega
              have hen := hE8 k hlt
              go_wp2_with fail
              go_loopg [7] (T.en k) (fun gg v wr => ∃ i : Nat, i ≤ T.en k ∧ gg = T.en k - i ∧ v = .int .i64 i ∧ Ext w1 wr ∧ ∀ j, j < i → T.toTr.EvOk k j)
              case atStart => exact ⟨0, by omega, rfl, rfl, hxr, fun j hj => by omega⟩
              case round =>
                obtain ⟨i, hi, rfl, rfl, hxr, hok⟩ := hrel
                have HOI := Lib.hid hok
                clear hok
                have hxw := hx1.trans hxr
                by_cases hli : i < T.en k
                · have hli' : (i : Int) < (T.en k : Int) := by omega
                  have hC := HFm.out wr hxw k i hlt hli
                  go_upto_region 16 with (go_at_call 103; refine hC.mono ?_; rintro e w3 ⟨c, rfl, hc, hx3⟩)
                  have hx13 := hxr.trans hx3
                  clear hC
                  by_cases h0 : c = 0
                  · subst h0
                    have HC := Lib.hid (hc.1 rfl)
                    clear hc
                    go_wp2_with fail
                    go_roundg (T.en k - (i + 1))
                    case rel => exact ⟨i + 1, by omega, rfl, by go_num, hx13, fun j hj => by
                      by_cases e : j = i
                      · subst e; exact HC.out
                      · exact HOI.out j (by omega)⟩
                    case measure => omega
                  · have hb0 : (c != 0) = true := by simpa using h0
                    have HV := Lib.hid (show c = 0 ↔ T.toTr.Valid from ⟨fun h => absurd h h0, fun h => absurd (hc.2 (h.ev k i hlt hli)) h0⟩)
                    clear hc h0
                    have hh := Hold.ext HK1.out hx13
                    obtain ⟨l9, c9, f9, _⟩ := hh.box
                    have hh9 := Hold.set (Hold.set hh 0 (.int .i64 k)) 1 (.int .i64 (i + 1))
                    have G4 := Lib.hid hh9
                    have hWW : Ext w3 w3 := Ext.refl _
                    clear hh hh9 l1 c1 f1
                    go_wp2_with fail
                    refine bodyPost_ret (rfault_results _ _ _ _ _ _ rfl rfl (G4.out.cell0 0) (G4.out.cell0 1)) rfl ?_
                    have hb : w.heap.size ≤ w.heap.size + 1 := by omega
                    exact ⟨Ext.setCell (Ext.setCell (hx1.trans hx13) hb _) hb _, _, _, _, rfl, HV.out⟩
                · have hie : i = T.en k := by omega
                  subst hie
                  go_wp2_with fail
                  go_roundg (T.n - (k + 1))
                  case rel => exact ⟨k + 1, by omega, rfl, by go_num, hxr, fun j i2 hj hi2 => by
                    by_cases e : j = k
                    · subst e; exact HOI.out i2 hi2
                    · exact HOK.out j i2 (by omega) hi2⟩
                  case measure => omega
            · have hke : k = T.n := by omega
              subst hke
              have HEV := Lib.hid HOK.out
              have HFO := Lib.hid (show T.toTr.Formed from fun x => (HEV.out x.1.1 x.1.2 x.2.1 x.2.2).1)
              clear HOK
              go_wp2_with fail
              go_loopg [9] T.n (fun gg v wr => ∃ k : Nat, k ≤ T.n ∧ gg = T.n - k ∧ v = .int .i64 k ∧ Ext w1 wr ∧ T.toTr.OkList (T.toTr.evsTo k 0))
              case atStart => exact ⟨0, by omega, rfl, rfl, hxr, fun pre x hp => by have := hp.length_le; rw [Tr.evsTo_zero] at this; simp at this⟩
              case round =>
                obtain ⟨k, hk, rfl, rfl, hxr, hok⟩ := hrel
                have HOK := Lib.hid hok
                clear hok
                have hxw := hx1.trans hxr
                by_cases hlt : k < T.n
                · have hlt' : (k : Int) < (T.n : Int) := by omega
                  have hen := hE8 k hlt
                  go_wp2_with fail
                  go_loopg [10] (T.en k) (fun gg v wr => ∃ i : Nat, i ≤ T.en k ∧ gg = T.en k - i ∧ v = .int .i64 i ∧ Ext w1 wr ∧ T.toTr.OkList (T.toTr.evsTo k i))
                  case atStart => exact ⟨0, by omega, rfl, rfl, hxr, HOK.out⟩
                  case round =>
                    obtain ⟨i, hi, rfl, rfl, hxr, hok⟩ := hrel
                    have HOI := Lib.hid hok
                    clear hok
                    have hxw := hx1.trans hxr
                    by_cases hli : i < T.en k
                    · have hli' : (i : Int) < (T.en k : Int) := by omega
                      go_upto_region 25 with fail
                      refine boxed1 (w := wr) (G := fun x => Code.wp _ _ _ _ x) ?_
                      intro w4 hx4 hs4 ⟨l4, c4, _, _⟩
                      have hx44 : Ext w4 w4 := Ext.refl _
                      have hx14 := hxr.trans hx4
                      have hxw4 := hx1.trans hx14
                      have hC := HPd.out w4 hxw4 HFO.out k i hlt hli
                      have HPI := Lib.hid (Tr.pair_iff HFO.out hlt hli)
                      clear hs4
                      go_upto_region 26 with (go_at_call 104; refine hC.mono ?_; rintro e w3 ⟨c, rfl, hc, hx3⟩)
                      have hx13 := hx14.trans hx3
                      clear hC
                      by_cases h0 : c = 0
                      · subst h0
                        have HC := Lib.hid (HPI.out.1 (hc.1 rfl))
                        clear hc
                        go_wp2_with fail
                        go_roundg (T.en k - (i + 1))
                        case rel => exact ⟨i + 1, by omega, rfl, by go_num, hx13, by rw [T.toTr.evsTo_succ k i hlt hli]; exact HOI.out.snoc HC.out⟩
                        case measure => omega
                      · have hb0 : (c != 0) = true := by simpa using h0
                        have HV := Lib.hid (show c = 0 ↔ T.toTr.Valid from ⟨fun h => absurd h h0, fun h => absurd (hc.2 (HPI.out.2 (h.msg _ _ (by rw [← T.toTr.evsTo_succ k i hlt hli]; exact T.toTr.evsTo_prefix k (i + 1) hlt hli)))) h0⟩)
                        clear hc h0
                        have hh := Hold.ext HK1.out hx13
                        obtain ⟨l9, c9, f9, _⟩ := hh.box
                        have hh9 := Hold.set (Hold.set hh 0 (.int .i64 k)) 1 (.int .i64 (i + 1))
                        have G4 := Lib.hid hh9
                        have hWW : Ext w3 w3 := Ext.refl _
                        clear hh hh9 l1 c1 f1
                        go_wp2_with fail
                        refine bodyPost_ret (rfault_results _ _ _ _ _ _ rfl rfl (G4.out.cell0 0) (G4.out.cell0 1)) rfl ?_
                        have hb : w.heap.size ≤ w.heap.size + 1 := by omega
                        exact ⟨Ext.setCell (Ext.setCell (hx1.trans hx13) hb _) hb _, _, _, _, rfl, HV.out⟩
                    · have hie : i = T.en k := by omega
                      subst hie
                      go_wp2_with fail
                      go_roundg (T.n - (k + 1))
                      case rel => exact ⟨k + 1, by omega, rfl, by go_num, hxr, by rw [← Tr.evsTo_next]; exact HOI.out⟩
                      case measure => omega
                · have hke : k = T.n := by omega
                  subst hke
                  have HPR2 := Lib.hid (show T.toTr.Pre from ⟨hn1, hn8, HPR.out, HEV.out, HOK.out⟩)
                  clear HOK
                  have hC := HAc.out wr hxw HPR2.out
                  go_upto_region 28 with fail
                  go_wp2_with fail
                  go_at_call 105
                  refine hC.mono ?_
                  rintro e w3 ⟨b, rfl, hb, hx3⟩
                  have hx13 := hxr.trans hx3
                  clear hC
                  cases b with
                  | true =>
                    have HV := Lib.hid (show (0 : Int) = 0 ↔ T.toTr.Valid from ⟨fun _ => Tr.valid_iff.2 ⟨HPR2.out, hb.1 rfl⟩, fun _ => rfl⟩)
                    clear hb
                    have hh := Hold.ext HK1.out hx13
                    obtain ⟨l9, c9, f9, _⟩ := hh.box
                    have hh9 := Hold.set (Hold.set hh 0 (.int .i64 0)) 1 (.int .i64 0)
                    have G4 := Lib.hid hh9
                    have hWW : Ext w3 w3 := Ext.refl _
                    clear hh hh9 l1 c1 f1
                    go_wp2_with fail
                    refine bodyPost_ret (rfault_results _ _ _ _ _ _ rfl rfl (G4.out.cell0 0) (G4.out.cell0 1)) rfl ?_
                    have hb : w.heap.size ≤ w.heap.size + 1 := by omega
                    exact ⟨Ext.setCell (Ext.setCell (hx1.trans hx13) hb _) hb _, _, _, _, rfl, (by simpa using HV.out)⟩
                  | false =>
                    have HNA := Lib.hid (show ¬ T.toTr.Acy from fun h => by have := hb.2 h; cases this)
                    clear hb
                    go_wp2_with fail
                    go_loopg [13] T.n (fun gg v wr => ∃ k : Nat, k ≤ T.n ∧ gg = T.n - k ∧ v = .int .i64 k ∧ Ext w1 wr ∧ ∀ j i, j < k → i < T.en j → ¬ T.toTr.SP (j, i) (j, i))
                    case atStart => exact ⟨0, by omega, rfl, rfl, hx13, fun j i hj => by omega⟩
                    case round =>
                      obtain ⟨k, hk, rfl, rfl, hxr, hok⟩ := hrel
                      have HOK := Lib.hid hok
                      clear hok
                      have hxw := hx1.trans hxr
                      by_cases hlt : k < T.n
                      · have hlt' : (k : Int) < (T.n : Int) := by omega
                        have hen := hE8 k hlt
                        go_wp2_with fail
                        go_loopg [14] (T.en k) (fun gg v wr => ∃ i : Nat, i ≤ T.en k ∧ gg = T.en k - i ∧ v = .int .i64 i ∧ Ext w1 wr ∧ ∀ j, j < i → ¬ T.toTr.SP (k, j) (k, j))
                        case atStart => exact ⟨0, by omega, rfl, rfl, hxr, fun j hj => by omega⟩
                        case round =>
                          obtain ⟨i, hi, rfl, rfl, hxr, hok⟩ := hrel
                          have HOI := Lib.hid hok
                          clear hok
                          have hxw := hx1.trans hxr
                          by_cases hli : i < T.en k
                          · have hli' : (i : Int) < (T.en k : Int) := by omega
                            go_upto_region 37 with fail
                            refine boxed1 (w := wr) (G := fun x => Code.wp _ _ _ _ x) ?_
                            intro w4 hx4 hs4 ⟨l4, c4, _, _⟩
                            have hx44 : Ext w4 w4 := Ext.refl _
                            have hx14 := hxr.trans hx4
                            have hxw4 := hx1.trans hx14
                            have hC := HPs.out w4 hxw4 HPR2.out (k, i) ⟨hlt, hli⟩
                            dsimp only at hC
                            clear hs4
                            go_wp2_with fail
                            go_at_call 106
                            refine hC.mono ?_
                            rintro e w5 ⟨hx5, g, cap, rb, f, rfl, hcap, hbo, hf⟩
                            have hx55 : Ext w5 w5 := Ext.refl _
                            have hx15 := hx14.trans hx5
                            have b0 : ∀ w', Ext w5 w' → w'.cell? ⟨g, k, none⟩ = some (.slice (some ⟨rb k, 0, none⟩) (T.en k + 1) (T.en k + 1)) := fun w' h => h.cell (hbo.c0 k hlt)
                            have b1 : ∀ w', Ext w5 w' → g < w'.heap.size := fun w' h => Nat.lt_of_lt_of_le hbo.lt h.le
                            have b2 : ∀ w', Ext w5 w' → rb k < w'.heap.size := fun w' h => Nat.lt_of_lt_of_le (hbo.rl k hlt) h.le
                            have b3 : ∀ w', Ext w5 w' → w'.cell? ⟨rb k, i + 1, none⟩ = some (.bool (f k (i + 1))) := fun w' h => h.cell (hbo.c1 k (i + 1) hlt (by show i + 1 < T.en k + 1; omega))
                            have hfk := hf k i
                            have hi2 : (0 : Int) ≤ (i : Int) + 1 := by omega
                            have hi3 : ((i : Int) + 1).toNat = i + 1 := by omega
                            have hi4 : (i : Int) + 1 < (T.en k : Int) + 1 := by omega
                            clear hC hbo hf
                            cases hfb : f k (i + 1) with
                            | true =>
                              have HV := Lib.hid (show (10 : Int) = 0 ↔ T.toTr.Valid from ⟨fun h => absurd h (by decide), fun h => absurd (hfk.1 hfb) (HPR2.out.acy_iff.1 (Tr.valid_iff.1 h).2 _ ⟨hlt, hli⟩)⟩)
                              rw [hfb] at b3
                              clear hfk hfb
                              have hh := Hold.ext HK1.out hx15
                              obtain ⟨l9, c9, f9, _⟩ := hh.box
                              have hh9 := Hold.set (Hold.set hh 0 (.int .i64 k)) 1 (.int .i64 (i + 1))
                              have G4 := Lib.hid hh9
                              have hWW : Ext w5 w5 := Ext.refl _
                              clear hh hh9 l1 c1 f1
                              go_wp2_with fail
                              refine bodyPost_ret (rfault_results _ _ _ _ _ _ rfl rfl (G4.out.cell0 0) (G4.out.cell0 1)) rfl ?_
                              have hb : w.heap.size ≤ w.heap.size + 1 := by omega
                              exact ⟨Ext.setCell (Ext.setCell (hx1.trans hx15) hb _) hb _, _, _, _, rfl, HV.out⟩
                            | false =>
                              have HC := Lib.hid (show ¬ T.toTr.SP (k, i) (k, i) from fun h => by have := hfk.2 h; rw [hfb] at this; cases this)
                              rw [hfb] at b3
                              clear hfk hfb
                              go_wp2_with fail
                              go_roundg (T.en k - (i + 1))
                              case rel => exact ⟨i + 1, by omega, rfl, by go_num, hx15, fun j hj => by
                                by_cases e : j = i
                                · subst e; exact HC.out
                                · exact HOI.out j (by omega)⟩
                              case measure => omega
                          · have hie : i = T.en k := by omega
                            subst hie
                            go_wp2_with fail
                            go_roundg (T.n - (k + 1))
                            case rel => exact ⟨k + 1, by omega, rfl, by go_num, hxr, fun j i2 hj hi2 => by
                              by_cases e : j = k
                              · subst e; exact HOI.out i2 hi2
                              · exact HOK.out j i2 (by omega) hi2⟩
                            case measure => omega
                      · have hke : k = T.n := by omega
                        exact absurd (HPR2.out.acy_iff.2 fun x hx => HOK.out x.1 x.2 (by rw [hke]; exact hx.1) hx.2) HNA.out
set_option maxHeartbeats 1000000 in
/-- antecederef12.Valid says whether a trace is valid -/
theorem rvalid_any (w : World) (T : TM) (hT : T.At w) : Calls Tryz.prog 32 #[T.val] w (BoolPost T.toTr.Valid w) := by
  go_enter Tryz.func32, Tryz.ntmps32
  go_upto_region 1 with fail
  refine boxed1 (w := w) (G := fun x => Code.wp _ _ _ _ x) ?_
  intro w1 hx1 hs1 ⟨l0, c0, _, _⟩
  have hx11 : Ext w1 w1 := Ext.refl _
  have hF := rfault_any w1 T (hT.ext hx1)
  clear hs1 hT
  go_wp2_with fail
  go_at_call 73
  refine hF.mono ?_
  rintro e w2 ⟨hx2, p, q, c, rfl, hc⟩
  by_cases h0 : c = 0
  · subst h0
    have HV := Lib.hid (hc.1 rfl)
    clear hc hF
    go_wp2_with fail
    go_ret
    exact BoolPost.yes HV.out ((hx1.trans hx2).alloc' _)
  · have hb0 : (c == 0) = false := by simpa using h0
    have HV := Lib.hid (show ¬ T.toTr.Valid from fun h => h0 (hc.2 h))
    clear hc hF h0
    go_wp2_with fail
    go_ret
    exact BoolPost.no HV.out ((hx1.trans hx2).alloc' _)

end Go.Proofs.YtdplphoohnnbcaaGreatDoor
