/-
  PROVED HERE: 'LamportTotals' returns true for every trace and every event, in every memory: no condition.
  (The row's step follows the shell that the kit's program wrote for 'LamportSteps'.)
-/
import Derived.Test.YteikcgfnkhoigaaGreatRows
import Derived.WalkKit
import Derived.Test.YteikcgfnkhoigaaGreatKl
import Derived.Test.YteikcgfnkhoigaaGreatKq
import Derived.Test.YteikcgfnkhoigaaGreatKr
import Derived.Test.YteikcgfnkhoigaaGreatKv
import Derived.Test.YteikcgfnkhoigaaGreatKx
namespace Go.Proofs.YteikcgfnkhoigaaGreat.lamportTotals
open Go.ChangeShapes Go.WideShapes Go.ChangeAt Go.RowKit Go.Proofs.YteikcgfnkhoigaaGreat
set_option linter.unusedVariables false

theorem evRow_evL {w : World} {g n : Nat} {f : Nat → Int × Int} {l : List (Int × Int)} (h : EvRow w g n f) (hl : l.length = n) (hn : n ≤ 1000000) (he : ∀ k (hk : k < l.length), l[k] = f k) : EvL w (some ⟨g, 0, none⟩) g 0 l where
  hn := by omega
  pa _ := rfl
  pb h0 w' x := Nat.lt_of_lt_of_le (cell_lt (h.c0 0 (by omega))) x.le
  p0 w' x k hk := by rw [Nat.zero_add, he k hk]; exact x.cell (h.c0 k (by omega))
  p1 w' x k hk := by rw [Nat.zero_add, he k hk]; exact x.cell (h.c1 k (by omega))
/-- Longest's answer for any event -/
def LongQ (T : TM) (p i : Int) (w : World) (e : Ending) (w' : World) : Prop := Ext w w' ∧ ∃ vb eb, e = .returned (.tuple #[vb, .int .i64 eb]) ∧
  ((¬ T.toTr.Is p i ∧ vb = .slice none 0 0 ∧ eb = 2) ∨
   (eb = 0 ∧ ∃ (rows : Nat → List Int) (x : NN) (a : Option Addr) (g off c : Nat), T.toTr.Stamps rows ∧ T.toTr.V x ∧ p = x.1 ∧ i = x.2 + 1 ∧ vb = .slice a (T.toTr.rlng rows x ((stOf rows x).toNat - 1)).length c ∧ EvL w' a g off (T.toTr.rlng rows x ((stOf rows x).toNat - 1))))
theorem longest_q (w : World) (T : TM) (hT : T.At w) (hV : T.toTr.Valid) (hE : ∀ k, k < T.n → T.en k ≤ 1000000) (hts : tot T.en T.n ≤ 1000000) (p i : Int) :
    Calls Tryz.prog 36 #[T.val, .agg #[.int .i64 p, .int .i64 i]] w (LongQ T p i w) := by
  by_cases hI : 0 ≤ p ∧ p < T.n ∧ 1 ≤ i ∧ i ≤ T.en p.toNat
  · obtain ⟨xp, rfl⟩ := Int.eq_ofNat_of_zero_le hI.1
    obtain ⟨xi, hxi0⟩ : ∃ xi : Nat, i = (xi : Int) + 1 := ⟨(i - 1).toNat, by have := hI.2.2.1; omega⟩
    subst hxi0
    have hxp : xp < T.n := by have := hI.2.1; omega
    have hxi : xi < T.en xp := by have := hI.2.2.2; simp at this; omega
    refine (longest_yes w T hT hV hE (xp, xi) ⟨hxp, hxi⟩).mono fun e w' h => ?_
    obtain ⟨hx, ⟨hn, _⟩ | ⟨_, hn, _⟩ | ⟨_, rows, x, g, cap, hR, hxV, e1, e2, _, rfl, hrow⟩⟩ := h
    · exact absurd hV hn
    · exact absurd hI hn
    · have hp := hR.pos (x := x) hxV
      have hlen : (T.toTr.rlng rows x ((stOf rows x).toNat - 1)).length = (stOf rows x).toNat := by rw [Tr.rlng_len]; omega
      refine ⟨hx, _, _, rfl, .inr ⟨rfl, rows, x, _, g, 0, cap, hR, hxV, e1, e2, by rw [hlen], evRow_evL hrow hlen (by omega) fun k hk => ?_⟩⟩
      rw [Tr.rlng_get]
  · refine (longest_range w T hT hV hE p i hI).mono fun e w' h => ?_
    obtain ⟨hx, ⟨hn, _⟩ | ⟨_, hn, rfl⟩ | ⟨_, rows, x, g, cap, hR, hxV, e1, e2, _, _, _⟩⟩ := h
    · exact absurd hV hn
    · exact ⟨hx, _, _, rfl, .inl ⟨fun h => hI h, rfl, rfl⟩⟩
    · exfalso
      apply hI
      rw [e1, e2]
      refine ⟨by omega, by have := hxV.1; omega, by omega, ?_⟩
      have := hxV.2
      have e : ((x.1 : Int)).toNat = x.1 := by omega
      rw [e]; omega
def TruePost (w : World) (e : Ending) (w' : World) : Prop := e = .returned (.bool true) ∧ Ext w w'
set_option maxRecDepth 100000 in
set_option maxHeartbeats 4000000 in
theorem walk (T : TM) (a b : Int) (w : World) (hT : T.At w) (hE : okI a ∧ okI b) :
    Calls Tryz.prog 7 #[T.val, .agg #[.int .i64 a, .int .i64 b]] w (TruePost w) := by
  have HT := Lib.hid hT
  clear hT hE
  go_enter Tryz.func7, Tryz.ntmps7
  go_upto_region 1 with fail
  refine boxed2 (w := w) (G := fun x => Code.wp _ _ _ _ x) ?_
  intro w1 hx1 hs1 ⟨l0, c0, _, _⟩ ⟨l1, c1, _, _⟩
  have hx11 : Ext w1 w1 := Ext.refl _
  clear hs1
  go_wp2_with fail
  go_at_call 33
  refine (awake_any _).mono ?_
  rintro e w2 ⟨rfl, hx2⟩
  have hxw2 := hx1.trans hx2
  have hF := few_any w2 T (HT.out.ext hxw2)
  go_wp2_with fail
  go_at_call 34
  refine hF.mono ?_
  rintro e w3 ⟨hx3, c, rfl, hfw⟩
  have hxw3 := hxw2.trans hx3
  have hx13 := hx2.trans hx3
  clear hF
  cases c with
  | false =>
    clear hfw
    go_wp2_with fail
    go_at_call 33
    refine (awake_any _).mono ?_
    rintro e w9 ⟨rfl, hx9⟩
    go_wp2_with fail
    go_ret
    exact ⟨rfl, hxw3.trans hx9⟩
  | true =>
    obtain ⟨hn10, ht80⟩ := hfw rfl
    clear hfw
    by_cases hV : T.toTr.Valid
    · have hE : ∀ k, k < T.n → T.en k ≤ 1000000 := fun k hk => by have := (hV.pr k hk).2.2.2.2; omega
      have hel : T.toTr.evs.length ≤ 80 := by
        have h3 := T.toTr.evs_tot
        have h4 : T.toTr.evs.length = tot T.en T.n := h3
        omega
      have HEL := Lib.hid hel
      have HTT := Lib.hid (show tot T.en T.n ≤ 1000000 by omega)
      have hTo := total_yes w3 T (HT.out.ext hxw3) hV hE
      have HV := Lib.hid hV
      have HE := Lib.hid hE
      clear hV hE ht80 hel
      go_wp2_with fail
      go_at_call 35
      refine hTo.mono ?_
      rintro e w4 ⟨hx4, ⟨hn, _⟩ | ⟨_, rows1, l1, v1, hR1, rfl, hperm, hsort, hrow, _⟩⟩
      · exact absurd HV.out hn
      have hll : l1.length = T.toTr.evs.length := hperm.length_eq
      obtain ⟨a1, g1, o1, cp1, rfl, hL1⟩ := RowHas.evL (l := l1.map fun x => evI x.1) (by rw [List.length_map]; exact hrow) (by rw [List.length_map, hll]; have := HEL.out; omega)
      obtain ⟨E1, hE1⟩ : ∃ E, E = l1.map fun x => evI x.1 := ⟨_, rfl⟩
      rw [← hE1] at hL1 ⊢
      have HL1 := Lib.hid hL1
      have HE1 := Lib.hid hE1
      have HR1 := Lib.hid hR1
      have HPS := Lib.hid (And.intro hperm hsort)
      have hxw4 := hxw3.trans hx4
      have hx14 := hx13.trans hx4
      have hLo := longest_q w4 T (HT.out.ext hxw4) HV.out HE.out HTT.out a b
      clear hTo hL1 hE1 hR1 hperm hsort hrow hll
      go_wp2_with fail
      go_at_call 36
      refine hLo.mono ?_
      rintro e w5 ⟨hx5, vb, eb, rfl, hq⟩
      have HQ := Lib.hid hq
      have hxw5 := hxw4.trans hx5
      have hx15 := hx14.trans hx5
      have hSk := skipped_yes w5 T (HT.out.ext hxw5) HV.out (by have := HEL.out; omega)
      clear hLo hq
      go_wp2_with fail
      go_at_call 37
      refine hSk.mono ?_
      rintro e w6 ⟨hx6, ⟨hn, _⟩ | ⟨_, rows2, hR2, rfl⟩⟩
      · exact absurd HV.out hn
      obtain ⟨S, hS⟩ : ∃ S, S = T.toTr.skipN rows2 := ⟨_, rfl⟩
      rw [← hS]
      have HS := Lib.hid hS
      have hxw6 := hxw5.trans hx6
      have hx16 := hx15.trans hx6
      have hVa := rvalid_any w6 T (HT.out.ext hxw6)
      have HR2 := Lib.hid hR2
      clear hSk hS hR2
      go_wp2_with fail
      go_at_call 38
      refine hVa.mono ?_
      rintro e w7 ⟨c, rfl, hb, hx7⟩
      obtain rfl : c = true := hb.2 HV.out
      have hxw7 := hxw6.trans hx7
      have hx17 := hx16.trans hx7
      have hRT := rTotal_any w7 T (HT.out.ext hxw7) HV.out rows1 HR1.out
      clear hVa hb
      go_wp2_with fail
      go_at_call 40
      refine hRT.mono ?_
      rintro e w8 ⟨hx8, kk, v2, rfl, hkk, hrow2⟩
      have hEq := totTo_all (evs_apart HR1.out) hkk HPS.out.1 HPS.out.2
      rw [← hEq] at hrow2
      have hll : l1.length = T.toTr.evs.length := HPS.out.1.length_eq
      obtain ⟨a2, g2, o2, cp2, rfl, hL2⟩ := RowHas.evL (l := l1.map fun x => evI x.1) (by rw [List.length_map]; exact hrow2) (by rw [List.length_map, hll]; have := HEL.out; omega)
      rw [← HE1.out] at hL2 ⊢
      have hxw8 := hxw7.trans hx8
      have hx18 := hx17.trans hx8
      have hSE := sameEv_any w8 a1 a2 g1 g2 o1 o2 cp1 cp2 E1 (HL1.out.ext (hx5.trans (hx6.trans (hx7.trans hx8)))) hL2
      clear hRT hkk hrow2 hEq hll hL2
      go_wp2_with fail
      go_at_call 39
      refine hSE.mono ?_
      rintro e w9 ⟨rfl, hx9⟩
      have hxw9 := hxw8.trans hx9
      have hx19 := hx18.trans hx9
      have hRS := rskip_any w9 T (HT.out.ext hxw9) HV.out rows2 HR2.out
      rw [Tr.skT_eq HV.out rows2, ← HS.out] at hRS
      clear hSE
      go_wp2_with fail
      go_at_call 41
      refine hRS.mono ?_
      rintro e w10 ⟨rfl, hx10⟩
      have hxw10 := hxw9.trans hx10
      have hx110 := hx19.trans hx10
      obtain ⟨c, hc⟩ := exists_bool (T.toTr.Is a b)
      have hIs := revent_any w10 T (HT.out.ext hxw10) a b c hc
      have HC := Lib.hid hc
      clear hc hRS
      go_wp2_with fail
      go_at_call 42
      refine hIs.mono ?_
      rintro e w11 ⟨rfl, hx11'⟩
      have hxw11 := hxw10.trans hx11'
      have hx111 := hx110.trans hx11'
      clear hIs
      rcases HQ.out with ⟨hni, rfl, rfl⟩ | ⟨rfl, rows3, x, a3, g3, o3, cp3, hR3, hxV, rfl, rfl, rfl, hL3⟩
      · obtain rfl : c = false := Bool.eq_false_iff.2 fun h => hni (HC.out.1 h)
        clear hni HQ HC
        go_wp2_with fail
        go_ret
        exact ⟨rfl, hxw11⟩
      · obtain rfl : c = true := HC.out.2 ⟨by omega, by have := hxV.1; omega, by omega, by
          have := hxV.2
          have e : ((x.1 : Int)).toNat = x.1 := by omega
          rw [e]; omega⟩
        have hRL := rlong_any w11 T (HT.out.ext hxw11) HV.out rows3 hR3 x hxV
        have hpos := hR3.pos (x := x) hxV
        have hlen : (T.toTr.rlng rows3 x ((stOf rows3 x).toNat - 1)).length = (stOf rows3 x).toNat := by rw [Tr.rlng_len]; omega
        obtain ⟨E3, hE3⟩ : ∃ E, E = T.toTr.rlng rows3 x ((stOf rows3 x).toNat - 1) := ⟨_, rfl⟩
        rw [← hE3] at hL3 hlen ⊢
        have HL3 := Lib.hid hL3
        have HE3 := Lib.hid hE3
        have HLN := Lib.hid hlen
        have hn3 := hL3.hn
        clear hR3 hxV hpos hL3 hE3 hlen HQ HC
        obtain ⟨x1, x2⟩ := x
        dsimp only at hRL ⊢
        go_wp2_with fail
        go_at_call 43
        refine hRL.mono ?_
        rintro e w12 ⟨hx12, v4, rfl, hrow4⟩
        rw [← HE3.out, ← HLN.out] at hrow4
        obtain ⟨a4, g4, o4, cp4, rfl, hL4⟩ := RowHas.evL hrow4 hn3
        have hxw12 := hxw11.trans hx12
        have hx112 := hx111.trans hx12
        have hSE := sameEv_any w12 a3 a4 g3 g4 o3 o4 cp3 cp4 E3 (HL3.out.ext (hx6.trans (hx7.trans (hx8.trans (hx9.trans (hx10.trans (hx11'.trans hx12))))))) hL4
        clear hRL hrow4 hL4
        go_wp2_with fail
        go_at_call 39
        refine hSE.mono ?_
        rintro e w13 ⟨rfl, hx13'⟩
        clear hSE
        go_wp2_with fail
        go_ret
        exact ⟨rfl, hxw12.trans hx13'⟩
    · have hTo := total_no w3 T (HT.out.ext hxw3) hV
      have HV := Lib.hid hV
      clear hV hn10 ht80
      go_wp2_with fail
      go_at_call 35
      refine hTo.mono ?_
      rintro e w4 ⟨hx4, ⟨_, rfl⟩ | ⟨hv, _⟩⟩
      rotate_left
      · exact absurd hv HV.out
      have hxw4 := hxw3.trans hx4
      have hx14 := hx13.trans hx4
      have hLo := longest_no w4 T (HT.out.ext hxw4) HV.out a b
      clear hTo
      go_wp2_with fail
      go_at_call 36
      refine hLo.mono ?_
      rintro e w5 ⟨hx5, ⟨_, rfl⟩ | ⟨hv, _⟩ | ⟨hv, _⟩⟩
      rotate_left
      · exact absurd hv HV.out
      · exact absurd hv HV.out
      have hxw5 := hxw4.trans hx5
      have hx15 := hx14.trans hx5
      have hSk := skipped_no w5 T (HT.out.ext hxw5) HV.out
      clear hLo
      go_wp2_with fail
      go_at_call 37
      refine hSk.mono ?_
      rintro e w6 ⟨hx6, ⟨_, rfl⟩ | ⟨hv, _⟩⟩
      rotate_left
      · exact absurd hv HV.out
      have hxw6 := hxw5.trans hx6
      have hx16 := hx15.trans hx6
      have hVa := rvalid_any w6 T (HT.out.ext hxw6)
      clear hSk
      go_wp2_with fail
      go_at_call 38
      refine hVa.mono ?_
      rintro e w7 ⟨c, rfl, hb, hx7⟩
      obtain rfl : c = false := Bool.eq_false_iff.2 fun h => HV.out (hb.1 h)
      clear hVa hb
      go_wp2_with fail
      go_ret
      exact ⟨rfl, hxw6.trans hx7⟩
set_option maxRecDepth 100000 in
theorem lifted (os : Os) (started : os.Started) (H : Type) (enc : TypeId × Value → H) :
    ReturnsInHanded {} Tryz.checked os 7 .any (Rows.lamportTotalsSpec.pre6 enc Tryz.prog Tryz.f7 Rows.lamportTotalsRow.domain false) (Rows.lamportTotalsSpec.post enc Tryz.prog Tryz.f7 false true false false) := by
  refine returnsInHanded_of_change_sized (C := Tryz.checked) own14 started (by kernel_rfl) Tryz.func7
    (ChangeSpec.witness6 (enc := enc) (C := Tryz.checked) false ⟨#[], #[.agg #[.slice none 0 0], .agg #[.int .i64 0, .int .i64 0]], []⟩ 8 (by kernel_rfl) (by kernel_rfl) (by kernel_rfl) (by kernel_rfl)) ?_
  intro W base args ds gs before hval0 hW _ hsz0 _
  have hsz1 : (DataW.weightsEach Tryz.prog (Tryz.f7.params.toList ++ Rows.lamportTotalsSpec.plain.varTypes Tryz.prog) (ds ++ gs)).all (· ≤ reachBytes) = true := hsz0
  clear hsz0
  have hval : ∀ (j : Nat) t v, Tryz.f7.params[j]? = some t → args[j]? = some v → Value.okWide Tryz.prog W .any base t v := hval0
  have hW' := hW
  obtain ⟨p, q, hA0, hV, rfl, hfz, hnd⟩ := hW
  have hA : DataW.TrodAll enc Tryz.prog W 0 (fun _ => true) true Tryz.f7.params.toList args.toList ds p := hA0
  rw [Tryz.params7] at hA hval hsz1
  obtain ⟨v0, vs0, d0, ds0, p0, q0, hargs, rfl, rfl, h0, r0⟩ := trodAll_cons hA
  obtain ⟨v1, vs1, d1, ds1, p1, q1, rfl, rfl, rfl, h1, r1⟩ := trodAll_cons r0
  obtain ⟨rfl, rfl, rfl⟩ := trodAll_nil r1
  obtain rfl : args = #[v0, v1] := by cases args; simp_all
  obtain ⟨rfl, rfl⟩ := trodVars_none hV
  obtain ⟨T0, rfl, hT0⟩ := arg_trace (hval 0 24 v0 rfl rfl) h0 (small_of hsz1 (j := 0) rfl rfl)
  obtain ⟨a1, b1, rfl, hE1⟩ := arg_event (hval 1 65 v1 rfl rfl) h1 (small_of hsz1 (j := 1) rfl rfl)
  clear hA0 hval0 hsz1
  simp only [List.append_nil] at hW'
  have hl1 : ∀ x ∈ p1, x.block < W.heap.size := fun x hx => hW'.lt x (by simp [hx])
  have hl0 : ∀ x ∈ p0, x.block < W.heap.size := fun x hx => hW'.lt x (by simp [hx])
  refine (walk T0 a1 b1 W hT0 hE1).mono fun e W' ⟨he, hg⟩ => ?_
  subst he
  exact ⟨_, rfl, post_ext1 (pa := (p0 ++ (p1 ++ []))) (pv := []) hW' (fun _ _ _ => (trodAll_cons_mk (shut_bool Tryz.underlying4 _) trodAll_mk0)) (trodAll_cons_mk (Below.trod laid14 (by kernel_rfl) (of_decide_eq_true (by kernel_rfl)) h0 hg.below hl0) (trodAll_cons_mk (Below.trod laid14 (by kernel_rfl) (of_decide_eq_true (by kernel_rfl)) h1 hg.below hl1) trodAll_mk0)) rfl hg⟩

theorem over : Rows.lamportTotalsRow.holds Tryz.pinned (OpenSpec.ofChange Rows.lamportTotalsSpec) :=
  OpenClaim.holds_of_wide 7 Tryz.f7 rfl rfl rfl rfl rfl rfl rfl ⟨rfl, rfl, rfl, rfl, rfl⟩ rfl rfl rfl rfl rfl (by kernel_rfl) Tryz.func7 (by kernel_rfl)
    (of_decide_eq_true (by kernel_rfl)) (by unfold Func.isWrapper; first | (rw [if_pos (by decide +kernel)]; kernel_rfl) | (rw [if_neg (by decide +kernel)]; exact ⟨rfl, rfl⟩))
    (fun os started H enc _ => lifted os started H enc)

/-- ████ THE STATEMENT ████ -/
theorem proved : Rows.LamportTotalsSaid :=
  over
#print axioms proved
end Go.Proofs.YteikcgfnkhoigaaGreat.lamportTotals

