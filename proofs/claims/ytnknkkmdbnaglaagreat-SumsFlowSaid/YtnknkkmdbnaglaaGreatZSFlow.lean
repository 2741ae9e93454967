/-
  PROVED HERE: 'SumsFlow' returns true for every trace, list of numbers and list of terms, in every memory: no condition.
  (The row's step follows the shell that the kit's program wrote for 'LamportSteps'.)
-/
import Derived.Test.YtnknkkmdbnaglaaGreatRows
import Derived.WalkKit
import Derived.Test.YtnknkkmdbnaglaaGreatLm
import Derived.Test.YtnknkkmdbnaglaaGreatLk
import Derived.Test.YtnknkkmdbnaglaaGreatLl
import Derived.Test.YtnknkkmdbnaglaaGreatLh
import Derived.Test.YtnknkkmdbnaglaaGreatLa
namespace Go.Proofs.YtnknkkmdbnaglaaGreat.sumsFlow
open Go.ChangeShapes Go.WideShapes Go.ChangeAt Go.RowKit Go.Proofs.YtnknkkmdbnaglaaGreat
set_option linter.unusedVariables false

def TruePost (w : World) (e : Ending) (w' : World) : Prop := e = .returned (.bool true) ∧ Ext w w'
theorem nofault {T : Tr} {ts : List Trm} {c : Int} (h : T.SumOk ts) (hc : T.SumFault ts c) : c = 0 := hc.uniq (.inr (.inr (.inr (.inr (.inr ⟨h, rfl⟩)))))
theorem cut_ok {T : Tr} {n : Nat} {v : Nat → Int} (h : T.IsCut n v) : T.CutOk fun p => (v p).toNat := by
  refine ⟨fun p hp => ?_, fun x hx hl h3 => ?_⟩
  · have := h.2.1 p hp
    show (v p).toNat ≤ T.en p
    omega
  · have hl' : x.2 < (v x.1).toNat := hl
    have h1 := h.2.2 x hx (by omega) h3
    show (T.sndN x).2 < (v (T.sndN x).1).toNat
    omega
theorem ok_cut {T : Tr} (hV : T.Valid) {c : Nat → Nat} (h : T.CutOk c) : T.IsCut T.n fun p => (c p : Int) := by
  refine ⟨⟨hV, rfl⟩, fun p hp => ?_, fun x hx hl h3 => ?_⟩
  · have := h.le p hp
    show 0 ≤ (c p : Int) ∧ (c p : Int) ≤ T.en p
    omega
  · have hl' : (x.2 : Int) < (c x.1 : Int) := hl
    have h1 := h.cl x hx (by omega) h3
    show ((T.sndN x).2 : Int) < (c (T.sndN x).1 : Int)
    omega
theorem zero_cut {T : Tr} (hV : T.Valid) : T.IsCut T.n fun _ => 0 := by
  refine ⟨⟨hV, rfl⟩, fun p hp => ?_, fun x hx h => ?_⟩
  · show (0 : Int) ≤ 0 ∧ (0 : Int) ≤ T.en p
    omega
  · have h' : (x.2 : Int) < 0 := h
    omega
set_option maxRecDepth 100000 in
set_option maxHeartbeats 8000000 in
theorem walk (T : TM) (C : IntD) (D : TmD) (w : World) (hT : T.At w) (hC : C.At w) (hD : D.At w) :
    Calls Tryz.prog 5 #[T.val, .slice C.s.a C.s.n C.s.c, .slice D.s.a D.s.n D.s.c] w (TruePost w) := by
  obtain ⟨j0, hj0, hy0, hy1, hy2⟩ := info_parts infoInt
  have hCN : NumAt w C.s.n C.s.a C.s.b C.s.o C.z := ⟨hC.s.hn, hC.s.ha, hC.s.hb, fun k hk => (hC.c k hk).1⟩
  have HT := Lib.hid hT
  have HFEW := Lib.hid (fun W (h : Ext w W) => few39_any W T (hT.ext h))
  have HFLT := Lib.hid (fun W (h : Ext w W) => rflt39_any W T (hT.ext h) D (hD.ext h))
  have HMAX := Lib.hid (fun W (h : Ext w W) => smax_any W T (hT.ext h) D (hD.ext h))
  have HNET := Lib.hid (fun W (h : Ext w W) => sntw_any W T (hT.ext h) D (hD.ext h))
  have HVAL := Lib.hid (fun W (h : Ext w W) a n cap g o v (hN : NumAt W n a g o v) => sval_any W T (hT.ext h) D (hD.ext h) a n cap g o v hN)
  have HCNT := Lib.hid (fun W (h : Ext w W) (hV : T.toTr.Valid) => rcnt_any W T (hT.ext h) hV)
  have HCN := Lib.hid (fun W (h : Ext w W) => hCN.ext h)
  have hcn := hC.s.hn
  have hdn := hD.hn
  obtain ⟨ta, hta⟩ : ∃ z, z = T.a := ⟨_, rfl⟩
  have HTA := Lib.hid hta
  obtain ⟨da, hda⟩ : ∃ z, z = D.s.a := ⟨_, rfl⟩
  have HDA := Lib.hid hda
  obtain ⟨n, hn⟩ : ∃ n, n = D.s.n := ⟨_, rfl⟩
  have HN := Lib.hid hn
  obtain ⟨cn, hcn'⟩ : ∃ n, n = C.s.n := ⟨_, rfl⟩
  have HCNN := Lib.hid hcn'
  simp only [TM.val] at HFEW HFLT HMAX HNET HVAL HCNT ⊢
  rw [← hta] at HFEW HFLT HMAX HNET HVAL HCNT
  rw [← hda, ← hn] at HFLT HMAX HNET HVAL
  rw [← hta, ← hda, ← hn, ← hcn']
  rw [← hn] at hdn
  rw [← hcn'] at hcn HCN
  clear hT hC hD hCN hta hda hn hcn'
  go_enter Tryz.func5, Tryz.ntmps5
  go_upto_region 1 with fail
  refine boxed1 (w := w) (G := fun x => Code.wp _ _ _ _ x) ?_
  intro w1 hx1 hs1 ⟨l0, c0, _, _⟩
  have hx11 : Ext w1 w1 := Ext.refl _
  clear hs1
  go_wp2_with fail
  go_at_call 15
  refine (awake39_any w1).mono ?_
  rintro e w2 ⟨rfl, hx2⟩
  have hxw2 := hx1.trans hx2
  go_wp2_with fail
  go_at_call 16
  refine (HFEW.out w2 hxw2).mono ?_
  rintro e w3 ⟨hx3, bf, rfl, -⟩
  have hxw3 := hxw2.trans hx3
  have hx13 := hx2.trans hx3
  cases bf with
  | false =>
    go_wp2_with fail
    go_ret
    exact ⟨rfl, hxw3⟩
  | true =>
  by_cases h70 : 70 < n
  · have d1 : decide ((70 : Int) < (n : Int)) = true := decide_eq_true (by omega)
    have d1' : decide (70 < n) = true := decide_eq_true h70
    go_wp2_with fail
    go_ret
    exact ⟨rfl, hxw3⟩
  have d1 : decide ((70 : Int) < (n : Int)) = false := decide_eq_false (by omega)
  have d1' : decide (70 < n) = false := decide_eq_false h70
  by_cases h40 : 40 < cn
  · have d2 : decide ((40 : Int) < (cn : Int)) = true := decide_eq_true (by omega)
    have d2' : decide (40 < cn) = true := decide_eq_true h40
    go_wp2_with fail
    go_ret
    exact ⟨rfl, hxw3⟩
  have d2 : decide ((40 : Int) < (cn : Int)) = false := decide_eq_false (by omega)
  have d2' : decide (40 < cn) = false := decide_eq_false h40
  go_wp2_with fail
  go_at_call 19
  refine (HFLT.out w3 hxw3).mono ?_
  rintro e w4 ⟨hx4, cf, hcf, rfl⟩
  have hxw4 := hxw3.trans hx4
  have hx14 := hx13.trans hx4
  have HCF := Lib.hid hcf
  clear hcf
  by_cases hz : cf = 0
  case neg =>
    have d3 : (cf == 0) = false := by simpa using hz
    go_wp2_with fail
    go_ret
    exact ⟨rfl, hxw4⟩
  subst hz
  have HOK := Lib.hid HCF.out.ok
  have HV := Lib.hid HOK.out.v
  clear hx2 hx3 hx4 hx13 hxw2 hxw3 d1 d1' d2 d2'
  go_wp2_with fail
  go_at_call 17
  refine (HMAX.out w4 hxw4).mono ?_
  rintro e w5 ⟨hx5, ⟨c, hc, h0, _⟩ | ⟨_, v, cm, gm, rfl, hrow, _, hb⟩⟩
  · exact absurd (nofault HOK.out hc) h0
  have hxw5 := hxw4.trans hx5
  have hx15 := hx14.trans hx5
  have HROW := Lib.hid hrow
  have HB := Lib.hid hb
  clear hrow hb
  go_wp2_with fail
  go_at_call 25
  refine (HNET.out w5 hxw5).mono ?_
  rintro e w6 ⟨hx6, ⟨c, hc, h0, _⟩ | ⟨_, vn, rfl, hq⟩⟩
  · exact absurd (nofault HOK.out hc) h0
  have hxw6 := hxw5.trans hx6
  have hx16 := hx15.trans hx6
  have HWO := Lib.hid (Tr.wfn_ok HOK.out)
  have HNO := Lib.hid (Tr.netOk HV.out HWO.out)
  have hL2 : (closureNet (tott T.en T.n) (T.wfn D.l) T.needs).length ≤ 2000 := HNO.out.m
  obtain ⟨na, ng, no, nc, rfl, hE, _⟩ := hq.at (by omega)
  obtain ⟨L, hL⟩ : ∃ L, L = closureNet (tott T.en T.n) (T.wfn D.l) T.needs := ⟨_, rfl⟩
  obtain ⟨m, hm⟩ : ∃ m, m = tott T.en T.n := ⟨_, rfl⟩
  obtain ⟨ln, hln⟩ : ∃ ln, ln = L.length := ⟨_, rfl⟩
  rw [← hL] at hL2 hE ⊢
  rw [← hln] at hL2 ⊢
  have HE := Lib.hid hE
  have HL := Lib.hid hL
  have HM := Lib.hid hm
  have HLN := Lib.hid hln
  have hm5 : m ≤ 510 := by rw [hm]; exact HWO.out.few
  rw [← hm]
  clear hq hE hL hm hln
  go_upto_region 7 with fail
  refine boxed1 (w := w6) (G := fun x => Code.wp _ _ _ _ x) ?_
  intro w7 hx7 hs7 ⟨l7, c7, _, _⟩
  have hx77 : Ext w7 w7 := Ext.refl _
  have hxw7 := hxw6.trans hx7
  have hx17 := hx16.trans hx7
  have hn8 := HV.out.n8
  have hn1 := HV.out.n1
  obtain rfl : ta = some ⟨T.b, T.off, none⟩ := by rw [HTA.out]; exact HT.out.P.pa (by omega)
  clear hs7
  obtain ⟨b, hb⟩ : ∃ b, b = T.toTr.sumAt D.l (fun _ => 0) := ⟨_, rfl⟩
  have HBG := Lib.hid hb
  have HVV := Lib.hid (show T.toTr.sumAt D.l (fun p => ((cm p : Int)).toNat) = v from by
    have h1 := Tr.sumAt_atC HOK.out.known (c := cm) HB.out.cut.le
    have h2 := HB.out.val
    have e : (fun p => ((cm p : Int)).toNat) = cm := funext fun p => Int.toNat_natCast _
    rw [e, h1, h2])
  have hval0 := fun W (h : Ext w7 W) g (hr : IntRow W g T.n (fun _ => 0)) => (show Calls Tryz.prog 24 #[.agg #[.slice (some ⟨T.b, T.off, none⟩) T.n T.cap], .slice (some ⟨g, 0, none⟩) T.n T.n, .slice da n D.s.c] W (fun e w' => e = .returned (.tuple #[.int .i64 b, .int .i64 0]) ∧ Ext W w') from
    (HVAL.out W (hxw7.trans h) (some ⟨g, 0, none⟩) T.n T.n g 0 (fun _ => 0) ⟨by omega, fun _ => rfl, fun _ => hr.lt, fun k hk => by rw [Nat.zero_add]; exact hr.c k hk⟩).mono fun e w' ⟨hx, h⟩ => by
      rcases h with ⟨c, hc, h0, _⟩ | ⟨_, hn, _⟩ | ⟨_, _, he⟩
      · exact absurd (nofault HOK.out hc) h0
      · exact absurd (zero_cut HV.out) hn
      · exact ⟨by rw [he, HBG.out]; rfl, hx⟩)
  have HV0 := Lib.hid hval0
  have hvalc := fun W (h : Ext w5 W) => (show Calls Tryz.prog 24 #[.agg #[.slice (some ⟨T.b, T.off, none⟩) T.n T.cap], .slice (some ⟨gm, 0, none⟩) T.n T.n, .slice da n D.s.c] W (fun e w' => e = .returned (.tuple #[.int .i64 v, .int .i64 0]) ∧ Ext W w') from
    (HVAL.out W (hxw5.trans h) (some ⟨gm, 0, none⟩) T.n T.n gm 0 (fun p => (cm p : Int)) ⟨by omega, fun _ => rfl, fun _ => (HROW.out.ext h).lt, fun k hk => by rw [Nat.zero_add]; exact (HROW.out.ext h).c k hk⟩).mono fun e w' ⟨hx, h⟩ => by
      rcases h with ⟨c, hc, h0, _⟩ | ⟨_, hn, _⟩ | ⟨_, _, he⟩
      · exact absurd (nofault HOK.out hc) h0
      · exact absurd (ok_cut HV.out HB.out.cut) hn
      · exact ⟨by rw [he, HVV.out], hx⟩)
  have HVC := Lib.hid hvalc
  clear hval0 hvalc hb
  have hx14 := hx17
  have hxw4 := hxw7
  refine wp_region_held_drew (S := fun w' => Ext w7 w') (by kernel_rfl) (Ext.refl _).drew (fun hHeld => ?_)
  refine heldTake 0 (v := ?_) rfl (by kernel_rfl) (by kernel_rfl) (by kernel_rfl) (fun _ _ _ h => h) (Or.inl ⟨by rfl, ?_⟩) (by assumption) ?_
  rotate_left
  · (intro w' hSw; (try dsimp only at hSw); have hS1 := hx14.trans hSw; have hS0 := hxw4.trans hSw; go_simp; try with_reducible rfl)
  try simp only [Act.put, List.setIfInBounds_toArray, List.set_cons_zero, List.set_cons_succ]
  refine heldTake 1 (v := ?_) rfl (by kernel_rfl) (by kernel_rfl) (by kernel_rfl) (fun _ _ _ h => h) (Or.inl ⟨by rfl, ?_⟩) (by assumption) ?_
  rotate_left
  · (intro w' hSw; (try dsimp only at hSw); have hS1 := hx14.trans hSw; have hS0 := hxw4.trans hSw; go_simp; try with_reducible rfl)
  try simp only [Act.put, List.setIfInBounds_toArray, List.set_cons_zero, List.set_cons_succ]
  refine heldTake 2 (v := ?_) rfl (by kernel_rfl) (by kernel_rfl) (by kernel_rfl) (fun _ _ _ h => h) (Or.inl ⟨by rfl, ?_⟩) (by assumption) ?_
  rotate_left
  · (intro w' hSw; (try dsimp only at hSw); have hS1 := hx14.trans hSw; have hS0 := hxw4.trans hSw; go_simp; try with_reducible rfl)
  try simp only [Act.put, List.setIfInBounds_toArray, List.set_cons_zero, List.set_cons_succ]
  refine heldTake 3 (v := ?_) rfl (by kernel_rfl) (by kernel_rfl) (by kernel_rfl) (fun _ _ _ h => h) (Or.inl ⟨by rfl, ?_⟩) (by assumption) ?_
  rotate_left
  · (intro w' hSw; (try dsimp only at hSw); have hS1 := hx14.trans hSw; have hS0 := hxw4.trans hSw; go_simp; try with_reducible rfl)
  try simp only [Act.put, List.setIfInBounds_toArray, List.set_cons_zero, List.set_cons_succ]
  refine heldTake 5 (v := ?_) rfl (by kernel_rfl) (by kernel_rfl) (by kernel_rfl) (fun _ _ _ h => h) (Or.inl ⟨by rfl, ?_⟩) (by assumption) ?_
  rotate_left
  · (intro w' hSw; (try dsimp only at hSw); have hS1 := hx14.trans hSw; have hS0 := hxw4.trans hSw; go_simp; try with_reducible rfl)
  try simp only [Act.put, List.setIfInBounds_toArray, List.set_cons_zero, List.set_cons_succ]
  refine wpAnyH_ready (rs := [4]) (by kernel_rfl) (by simp) ?_
  refine AllReadyH.cons rfl (fun K hK => ?_) AllReadyH.nil
  refine step_make_full rfl _ _ 28 rfl w7.heap.size 3 j0 (.int .i64 0) 1 Tryz.underlying28 hj0 hy0 hy1 .i64 .i64 _ _ T.n (by rfl) (by rfl) rfl rfl (by rw [hy2]; omega) (by unfold maxLen; omega) (Nat.le_refl _) ?_
  intro w8 hown8 hg8
  have hx78 : Ext w7 w8 := (Ext.refl w7).drew.trans ((Below.refl _ _).grown hg8 (Nat.le_refl _) (by simp))
  refine hK.out _ _ ?_ (fun hHeld2 => ?_)
  · exact hx78
  clear hK K
  try simp only [Act.put, List.setIfInBounds_toArray]
  have hvl := HV0.out w8 hx78 w7.heap.size (IntRow.made hown8)
  clear hown8 hg8
  refine wpAnyH_ready (rs := [6]) (by kernel_rfl) (by simp) ?_
  refine AllReadyH.cons rfl (fun K hK => ?_) AllReadyH.nil
  go_simp
  go_at_call 24
  refine hvl.mono ?_
  rintro e w9 ⟨rfl, hx9⟩
  have hx79 := hx78.trans hx9
  refine hK.out _ _ ?_ (fun hHeld3 => ?_)
  · exact hx79
  clear hK K
  try simp only [Act.put, List.setIfInBounds_toArray, List.set_cons_zero, List.set_cons_succ]
  refine heldTake 7 (v := ?_) rfl (by kernel_rfl) (by kernel_rfl) (by kernel_rfl) (fun _ _ _ h => h) (Or.inl ⟨by rfl, ?_⟩) (by assumption) ?_
  rotate_left
  · (intro w' hSw; (try dsimp only at hSw); have hS1 := hx14.trans hSw; have hS0 := hxw4.trans hSw; go_simp; try with_reducible rfl)
  try simp only [Act.put, List.setIfInBounds_toArray, List.set_cons_zero, List.set_cons_succ]
  refine heldTake 8 (v := ?_) rfl (by kernel_rfl) (by kernel_rfl) (by kernel_rfl) (fun _ _ _ h => h) (Or.inl ⟨by rfl, ?_⟩) (by assumption) ?_
  rotate_left
  · (intro w' hSw; (try dsimp only at hSw); have hS1 := hx14.trans hSw; have hS0 := hxw4.trans hSw; go_simp; try with_reducible rfl)
  try simp only [Act.put, List.setIfInBounds_toArray, List.set_cons_zero, List.set_cons_succ]
  refine heldTake 9 (v := ?_) rfl (by kernel_rfl) (by kernel_rfl) (by kernel_rfl) (fun _ _ _ h => h) (Or.inl ⟨by rfl, ?_⟩) (by assumption) ?_
  rotate_left
  · (intro w' hSw; (try dsimp only at hSw); have hS1 := hx14.trans hSw; have hS0 := hxw4.trans hSw; go_simp; try with_reducible rfl)
  try simp only [Act.put, List.setIfInBounds_toArray, List.set_cons_zero, List.set_cons_succ]
  refine wpAnyH_ready (rs := [10]) (by kernel_rfl) (by simp) ?_
  refine AllReadyH.cons rfl (fun K hK => ?_) AllReadyH.nil
  go_simp
  refine hK.out _ _ ?_ (fun hHeld4 => ?_)
  · exact hx79
  clear hK K
  try simp only [Act.put, List.setIfInBounds_toArray, List.set_cons_zero, List.set_cons_succ]
  refine wpAnyH_ready (rs := [11]) (by kernel_rfl) (by simp) ?_
  refine AllReadyH.cons rfl (fun K hK => ?_) AllReadyH.nil
  go_simp
  refine hK.out _ _ ?_ (fun hHeld5 => ?_)
  · exact hx79
  clear hK K
  try simp only [Act.put, List.setIfInBounds_toArray, List.set_cons_zero, List.set_cons_succ]
  refine wpAnyH_done (by kernel_rfl) ?_ _
  clear hHeld hHeld2 hHeld3 hHeld4 hHeld5 hvl hx78 hx77
  have hx19 := hx17.trans hx79
  have hxw9 := hxw7.trans hx79
  go_wp2_with fail
  go_at_call 24
  refine (HVC.out w9 (hx6.trans (hx7.trans hx79))).mono ?_
  rintro e w10 ⟨rfl, hx10⟩
  have hx710 := hx79.trans hx10
  have hx110 := hx19.trans hx10
  have hxw10 := hxw9.trans hx10
  have HCNM := Lib.hid (fun W (h : Ext w W) => (show Calls Tryz.prog 32 #[.agg #[.slice (some ⟨T.b, T.off, none⟩) T.n T.cap]] W fun e w' => e = .returned (.int .i64 (m : Int)) ∧ Ext W w' from by
    rw [HM.out, tott_tot]; exact HCNT.out W h HV.out))
  have hgw : ∀ d os, Ext w (Sort.grow (redrawn w10 d) os) := fun d os => hxw10.trans (below_regrown w10 d os)
  have hg1 : ∀ d os, Ext w1 (Sort.grow (redrawn w10 d) os) := fun d os => hx110.trans (below_regrown w10 d os)
  have hg7 : ∀ d os, Ext w7 (Sort.grow (redrawn w10 d) os) := fun d os => hx710.trans (below_regrown w10 d os)
  have hwm : IntKind.i64.wrap ((m : Int) + 2) = (m : Int) + 2 := IntWalk.i64_in _ (by omega)
  have hx1010 : Ext w10 w10 := Ext.refl _
  go_upto_region 9 with fail
  refine wp_region_quiet_below (by kernel_rfl) (by kernel_rfl) ?_
  repeat (go_big_quiet_step (exact Calls.regrown_of (HCNM.out _ (hgw _ _))))
  refine wpQuiet_nil ?_
  intro _ hw'
  obtain ⟨⟨dq, osq⟩, hw''⟩ := hw'
  subst hw''
  have hx711 := hg7 dq osq
  have hx111 := hg1 dq osq
  have hxw11 := hgw dq osq
  clear hgw hg1 hg7 hwm
  generalize Sort.grow (redrawn w10 dq) osq = w11 at hx711 hx111 hxw11 ⊢
  have hwp := fun val f h1 h2 => Tr.Best.flow (val := val) (f := f) HV.out HWO.out HB.out h1 h2
  have hvb := HWO.out.best HB.out
  have HWP := Lib.hid (show lsum (srcCap m) L = wpos (T.wfn D.l) m from by rw [HL.out, ← HM.out]; exact srcCap_closure HM.out (T.wfn D.l))
  have HPA := Lib.hid (fun k => (show 0 ≤ lsum (srcCap m) (L.take k) ∧ lsum (srcCap m) (L.take k) ≤ lsum (srcCap m) L from lsum_part (fun e he => by
    have hk := HNO.out
    rw [← HL.out] at hk
    obtain ⟨i, hi, e1⟩ := List.getElem_of_mem he
    have h1 := hk.lo i hi
    rw [edgAt_eq hi, e1] at h1
    unfold srcCap
    split
    · exact h1
    · exact Int.le_refl _) k))
  have hwb : wpos (T.wfn D.l) m ≤ 562949953421312 := by
    have h1 := wpos_abs (T.wfn D.l) m
    have h2 := HWO.out.mass
    have h3 := iabs_nonneg (T.toTr.sumAt D.l fun _ => 0)
    rw [← HM.out] at h2
    omega
  have hbb := (iabs_le (x := b) (y := 562949953421312)).1 (by
    have h2 := HWO.out.mass
    have h3 := isum_nonneg (g := fun i => iabs (T.wfn D.l i)) (m := tott T.en T.n) fun i _ => iabs_nonneg _
    rw [HBG.out]; omega)
  have HFP := Lib.hid hwp
  have HFM := Lib.hid (fun W (h : Ext w6 W) => (show Calls Tryz.prog 33 #[.agg #[.int .i64 ((m : Int) + 2), .slice na ln nc], .int .i64 (m : Int), .int .i64 ((m : Int) + 1)] W (FmaxPost (m + 2) L m (m + 1) W) from by
    have hN := HNO.out
    rw [← HL.out, ← HM.out] at hN
    have h1 := fmax_any W (m + 2) m (m + 1) L na ng no nc hN (HE.out.ext h) (by omega) (by omega) (by omega)
    rw [show ((m + 2 : Nat) : Int) = (m : Int) + 2 from by omega, show ((m + 1 : Nat) : Int) = (m : Int) + 1 from by omega, ← HLN.out] at h1
    exact h1))
  have hw1 : IntKind.i64.wrap ((m : Int) + 2 - 2) = (m : Int) := by rw [IntWalk.i64_in _ (by omega)]; omega
  have hw2 : IntKind.i64.wrap ((m : Int) + 2 - 1) = (m : Int) + 1 := by rw [IntWalk.i64_in _ (by omega)]; omega
  have hx611 : Ext w6 w11 := hx7.trans hx711
  have hx61 := Lib.hid hx6
  clear hwp hx5 hx6 hx15 hx16 hxw5 hxw6 hx17 hxw7 hx19 hxw9 hx79 hx9 hx10 hx110 hx710 hxw10 hx14 hxw4 hx1010
  go_wp2_with fail
  go_at_call 33
  refine (HFM.out w11 hx611).mono ?_
  rintro e w12 ⟨hx12, val, ff, fv, rfl, hfl, hre⟩
  have hx712 := hx711.trans hx12
  have hx112 := hx111.trans hx12
  have hxw12 := hxw11.trans hx12
  have hx612 := hx611.trans hx12
  have HVE := Lib.hid (show v = b + wpos (T.wfn D.l) m - val from by
    rw [HL.out, HM.out] at hfl hre
    have h1 := HFP.out _ _ hfl hre
    rw [h1, HBG.out, ← HM.out])
  have HX6 := Lib.hid hx612
  clear hfl hre hx711 hx111 hxw11 hx611 hx12
  have hx77 : Ext w12 w12 := Ext.refl _
  go_wp2_with fail
  go_loopg [12, 116] ln (fun gg v12 v116 wr => ∃ k : Nat, k ≤ ln ∧ gg = ln - k ∧ v116 = .int .i64 k ∧ v12 = .int .i64 (b + lsum (srcCap m) (L.take k)) ∧ Ext w12 wr)
  case atStart => exact ⟨0, by omega, rfl, rfl, congrArg (Value.int .i64) (by show b = b + (0 : Int); omega), hx77⟩
  case round =>
    obtain ⟨k, hk, rfl, rfl, rfl, hxr⟩ := hrel
    have hx7r := hx712.trans hxr
    have hx1r := hx112.trans hxr
    have hxwr := hxw12.trans hxr
    have hx6r := HX6.out.trans hxr
    have hp0 := HPA.out k
    rw [HWP.out] at hp0
    by_cases hlt : k < ln
    · have hlt' : (k : Int) < (ln : Int) := by omega
      have hkl : k < L.length := by rw [← HLN.out]; exact hlt
      obtain rfl := HE.out.pa (by omega)
      have npb := HE.out.pb (by omega)
      have hp1 := HPA.out (k + 1)
      rw [HWP.out] at hp1
      have hst := lsum_take (g := srcCap m) (l := L) (j := k) (a := edgAt L k) (by rw [edgAt_eq hkl]; exact List.getElem?_eq_getElem hkl)
      rw [hst] at hp1
      have HST := Lib.hid hst
      obtain ⟨⟨ef, et, ec⟩, he⟩ : ∃ e, e = edgAt L k := ⟨_, rfl⟩
      rw [← he] at hp1 HST
      have p0 : ∀ w', Ext w6 w' → w'.cell? ⟨ng, no + k * 3, none⟩ = some (.int .i64 (ef : Int)) := fun w' x => by rw [HE.out.p0 w' x k hkl, ← he]
      have p1 : ∀ w', Ext w6 w' → w'.cell? ⟨ng, no + k * 3 + 1, none⟩ = some (.int .i64 (et : Int)) := fun w' x => by rw [HE.out.p1 w' x k hkl, ← he]
      have p2 : ∀ w', Ext w6 w' → w'.cell? ⟨ng, no + k * 3 + 2, none⟩ = some (.int .i64 ec) := fun w' x => by rw [HE.out.p2 w' x k hkl, ← he]
      clear he hst
      go_upto_region 15 with fail
      refine boxed1 (w := wr) (G := fun x => Code.wp _ _ _ _ x) ?_
      intro w13 hx13a hs13 ⟨l13, c13, _, _⟩
      have hx1313 : Ext w13 w13 := Ext.refl _
      have hx713 := hx7r.trans hx13a
      have hx1213 := hxr.trans hx13a
      clear hs13 p0 p1 p2
      generalize lsum (srcCap m) (L.take k) = s at hp0 hp1 HST ⊢
      by_cases hef : ef = m
      · subst hef
        have d3 : ((ef : Int) == (ef : Int)) = true := by simp
        have hs : srcCap ef (ef, et, ec) = ec := if_pos rfl
        rw [hs] at hp1 HST
        have hw3 : IntKind.i64.wrap (b + s + ec) = b + s + ec := IntWalk.i64_in _ (by omega)
        clear hs
        go_wp2_with fail
        go_roundg (ln - (k + 1))
        case rel => exact ⟨k + 1, by omega, rfl, by go_num, congrArg (Value.int .i64) (by rw [HST.out]; omega), hx1213⟩
        case measure => omega
      · have d3 : ((ef : Int) == (m : Int)) = false := by simpa using fun h : (ef : Int) = m => hef (by omega)
        have hs : srcCap m (ef, et, ec) = 0 := if_neg hef
        rw [hs] at HST
        clear hs hp1
        go_wp2_with fail
        go_roundg (ln - (k + 1))
        case rel => exact ⟨k + 1, by omega, rfl, by go_num, congrArg (Value.int .i64) (by rw [HST.out]; omega), hx1213⟩
        case measure => omega
    · obtain rfl : k = ln := by omega
      have HSF := Lib.hid (show b + lsum (srcCap m) (L.take k) = b + wpos (T.wfn D.l) m from by rw [List.take_of_length_le (by rw [← HLN.out]; exact Nat.le_refl _), HWP.out])
      rw [HSF.out]
      have hve := HVE.out
      obtain ⟨F, hF⟩ : ∃ F, F = b + wpos (T.wfn D.l) m := ⟨_, rfl⟩
      rw [← hF] at hve ⊢
      have hw3 : IntKind.i64.wrap (F - val) = v := by rw [← hve]; exact IntWalk.i64_in _ (by omega)
      have d4 : (v == v) = true := by simp
      have hcv := HVAL.out wr hxwr C.s.a cn C.s.c C.s.b C.s.o C.z (HCN.out wr hxwr)
      have hx5r : Ext w5 wr := hx61.out.trans hx6r
      have hrow := HROW.out.ext hx5r
      clear hF hve hp0 hlt
      go_wp2_with fail
      go_at_call 24
      refine hcv.mono ?_
      rintro e w13 ⟨hx13a, h⟩
      have hxw13 := hxwr.trans hx13a
      have hx113 := hx1r.trans hx13a
      have HR13 := Lib.hid (hrow.ext hx13a)
      have HC13 := Lib.hid (HCN.out w13 hxw13)
      clear hcv hrow
      rcases h with ⟨c, hc, h0, _⟩ | ⟨_, hnc, rfl⟩ | ⟨_, hic, rfl⟩
      · exact absurd (nofault HOK.out hc) h0
      · clear hnc
        go_wp2_with fail
        go_ret
        exact ⟨rfl, hxw13⟩
      · have hcu := cut_ok hic
        have hle := HB.out.most _ hcu
        have h1 := Tr.sumAt_atC HOK.out.known (c := fun p => (C.z p).toNat) hcu.le
        have h2 := HB.out.val
        obtain ⟨x, hx⟩ : ∃ x, x = T.toTr.sumAt D.l (fun p => (C.z p).toNat) := ⟨_, rfl⟩
        rw [← hx] at h1 ⊢
        have HIC := Lib.hid hic
        have HCU := Lib.hid hcu
        have HEQ := Lib.hid (And.intro h1 h2)
        have hxv : x ≤ v := by omega
        have d5 : decide (x ≤ v) = true := decide_eq_true hxv
        clear h1 h2 hle hcu hic hx
        by_cases hlt : x < v
        · have d6 : decide (x < v) = true := decide_eq_true hlt
          go_wp2_with fail
          go_ret
          exact ⟨rfl, hxw13⟩
        · have d6 : decide (x < v) = false := decide_eq_false hlt
          have hlq := leq39_any w13 (some ⟨gm, 0, none⟩) C.s.a gm 0 C.s.b C.s.o T.n cn T.n C.s.c (fun p => (cm p : Int)) C.z ⟨by omega, fun _ => rfl, fun _ => HR13.out.lt, fun k hk => by rw [Nat.zero_add]; exact HR13.out.c k hk⟩ HC13.out (by omega)
          have HLE := Lib.hid (show LeqL T.n cn (fun p => (cm p : Int)) C.z from ⟨HIC.out.1.2.symm, fun p hp => by
            have h3 := HB.out.least _ HCU.out (by have := HEQ.out; omega) p hp
            have h4 := HIC.out.2.1 p hp
            show (cm p : Int) ≤ C.z p
            omega⟩)
          go_wp2_with fail
          go_at_call 34
          refine hlq.mono ?_
          rintro e w14 ⟨bl, rfl, hbl, hx14a⟩
          obtain rfl : bl = true := hbl.2 HLE.out
          have hxw14 := hxw13.trans hx14a
          clear hlq hbl
          go_wp2_with fail
          go_ret
          exact ⟨rfl, hxw14⟩
set_option maxRecDepth 100000 in
theorem lifted (os : Os) (started : os.Started) (H : Type) (enc : TypeId × Value → H) :
    ReturnsInHanded {} Tryz.checked os 5 .any (Rows.sumsFlowSpec.pre6 enc Tryz.prog Tryz.f5 Rows.sumsFlowRow.domain false) (Rows.sumsFlowSpec.post enc Tryz.prog Tryz.f5 false true false false) := by
  refine returnsInHanded_of_change_sized (C := Tryz.checked) own14 started (by kernel_rfl) Tryz.func5
    (ChangeSpec.witness6 (enc := enc) (C := Tryz.checked) false ⟨#[], #[.agg #[.slice none 0 0], .slice none 0 0, .slice none 0 0], []⟩ 8 (by kernel_rfl) (by kernel_rfl) (by kernel_rfl) (by kernel_rfl)) ?_
  intro W base args ds gs before hval0 hW _ hsz0 _
  have hsz1 : (DataW.weightsEach Tryz.prog (Tryz.f5.params.toList ++ Rows.sumsFlowSpec.plain.varTypes Tryz.prog) (ds ++ gs)).all (· ≤ reachBytes) = true := hsz0
  clear hsz0
  have hval : ∀ (j : Nat) t v, Tryz.f5.params[j]? = some t → args[j]? = some v → Value.okWide Tryz.prog W .any base t v := hval0
  have hW' := hW
  obtain ⟨p, q, hA0, hV, rfl, hfz, hnd⟩ := hW
  have hA : DataW.TrodAll enc Tryz.prog W 0 (fun _ => true) true Tryz.f5.params.toList args.toList ds p := hA0
  rw [Tryz.params5] at hA hval hsz1
  obtain ⟨v0, vs0, d0, ds0, p0, q0, hargs, rfl, rfl, h0, r0⟩ := trodAll_cons hA
  obtain ⟨v1, vs1, d1, ds1, p1, q1, rfl, rfl, rfl, h1, r1⟩ := trodAll_cons r0
  obtain ⟨v2, vs2, d2, ds2, p2, q2, rfl, rfl, rfl, h2, r2⟩ := trodAll_cons r1
  obtain ⟨rfl, rfl, rfl⟩ := trodAll_nil r2
  obtain rfl : args = #[v0, v1, v2] := by cases args; simp_all
  obtain ⟨rfl, rfl⟩ := trodVars_none hV
  obtain ⟨T0, rfl, hT0⟩ := arg_trace (hval 0 24 v0 rfl rfl) h0 (small_of hsz1 (j := 0) rfl rfl)
  obtain ⟨C1, rfl, hC1⟩ := arg_nums (hval 1 28 v1 rfl rfl) h1 (small_of hsz1 (j := 1) rfl rfl)
  obtain ⟨D2, rfl, hD2⟩ := arg_terms (hval 2 25 v2 rfl rfl) h2 (small_of hsz1 (j := 2) rfl rfl)
  clear hA0 hval0 hsz1
  simp only [List.append_nil] at hW'
  have hl2 : ∀ x ∈ p2, x.block < W.heap.size := fun x hx => hW'.lt x (by simp [hx])
  have hl1 : ∀ x ∈ p1, x.block < W.heap.size := fun x hx => hW'.lt x (by simp [hx])
  have hl0 : ∀ x ∈ p0, x.block < W.heap.size := fun x hx => hW'.lt x (by simp [hx])
  refine (walk T0 C1 D2 W hT0 hC1 hD2).mono fun e W' ⟨he, hg⟩ => ?_
  subst he
  exact ⟨_, rfl, post_ext1 (pa := (p0 ++ (p1 ++ (p2 ++ [])))) (pv := []) hW' (fun _ _ _ => (trodAll_cons_mk (shut_bool Tryz.underlying4 _) trodAll_mk0)) (trodAll_cons_mk (Below.trod laid14 (by kernel_rfl) (of_decide_eq_true (by kernel_rfl)) h0 hg.below hl0) (trodAll_cons_mk (Below.trod laid14 (by kernel_rfl) (of_decide_eq_true (by kernel_rfl)) h1 hg.below hl1) (trodAll_cons_mk (Below.trod laid14 (by kernel_rfl) (of_decide_eq_true (by kernel_rfl)) h2 hg.below hl2) trodAll_mk0))) rfl hg⟩

theorem j0 : (Rows.sumsFlowRow.wf (OpenSpec.ofChange Rows.sumsFlowSpec)) = true := by kernel_rfl
theorem j1 : (laidOutB Tryz.pinned.checked.prog) = true := by kernel_rfl
theorem j2 : (mapsRowed Tryz.pinned.checked.prog) = true := by kernel_rfl
theorem j3 : (Tryz.f5.params.all (Tryz.pinned.checked.prog.readableRec ·)) = true := by kernel_rfl
theorem j4 : (namedTie Tryz.pinned.checked.prog Rows.sumsFlowRow.named Rows.sumsFlowSpec.vars) = true := by kernel_rfl
theorem j5 : (Rows.sumsFlowRow.stops == []) = true := by kernel_rfl
theorem j6 : (Tryz.pinned.checked.prog.stops == []) = true := by kernel_rfl
theorem j7 : (Rows.sumsFlowRow.knobs == []) = true := by kernel_rfl
theorem j8 : (Tryz.pinned.checked.prog.stopKnobs == []) = true := by kernel_rfl
theorem j9 : (Rows.sumsFlowRow.inPlace == Tryz.pinned.checked.prog.inPlace 5) = true := by kernel_rfl
theorem j10 : (Rows.sumsFlowRow.unfollowed == Tryz.pinned.checked.prog.unfollowed 5) = true := by kernel_rfl
theorem j11 : (Rows.sumsFlowRow.recurses == Tryz.pinned.checked.prog.recurses 5) = true := by kernel_rfl
theorem j12 : (Rows.sumsFlowRow.named == Tryz.pinned.checked.prog.varsNamed 5) = true := by kernel_rfl
theorem j13 : (Rows.sumsFlowRow.maps == (Tryz.f5.params.toList ++ Rows.sumsFlowSpec.plain.varTypes Tryz.pinned.checked.prog).any (Tryz.pinned.checked.prog.mapsRec ·)) = true := by kernel_rfl
theorem j14 : (Rows.sumsFlowRow.ifaces == (Tryz.f5.params.toList ++ Rows.sumsFlowSpec.plain.varTypes Tryz.pinned.checked.prog).any (Tryz.pinned.checked.prog.ifacesRec ·)) = true := by kernel_rfl
theorem j15 : (Rows.sumsFlowRow.mapsOut == Tryz.pinned.checked.prog.mapsAmong Tryz.f5.resultTypes.toList) = true := by kernel_rfl
theorem j16 : (Rows.sumsFlowRow.loops == (Tryz.f5.params.toList ++ Rows.sumsFlowSpec.plain.varTypes Tryz.pinned.checked.prog).any (Tryz.pinned.checked.prog.loopsFrom ·)) = true := by kernel_rfl
theorem j17 : (Rows.sumsFlowRow.wideKeys == (Tryz.f5.params.toList ++ Rows.sumsFlowSpec.plain.varTypes Tryz.pinned.checked.prog ++ Tryz.f5.resultTypes.toList).any (Tryz.pinned.checked.prog.wideKeysFrom ·)) = true := by kernel_rfl
theorem j18 : (Rows.sumsFlowSpec.vars.all (Tryz.pinned.checked.prog.varReadable ·)) = true := by kernel_rfl
theorem j19 : (Tryz.f5.resultTypes.all (fun t => Tryz.pinned.checked.prog.readableRec t && decide (t < Tryz.pinned.checked.prog.types.size))) = true := by kernel_rfl
theorem j20 : (Rows.sumsFlowRow.ifacesOut == Tryz.f5.resultTypes.toList.any (Tryz.pinned.checked.prog.ifacesRec ·)) = true := by kernel_rfl
theorem j21 : (Rows.sumsFlowRow.loopsOut == Tryz.f5.resultTypes.toList.any (Tryz.pinned.checked.prog.loopsFrom ·)) = true := by kernel_rfl
theorem j22 : (Rows.sumsFlowRow.plainKeys == Tryz.pinned.checked.prog.plainKeys) = true := by kernel_rfl
theorem j23 : (Rows.sumsFlowRow.shortTexts.isNone) = true := by kernel_rfl
theorem j24 : (Tryz.pinned.checked.prog.stopsHeard) = true := by kernel_rfl
theorem j25 : (Tryz.pinned.checked.prog.mayEnter) = true := by kernel_rfl
theorem j26 : (Rows.sumsFlowRow.lifted == Tryz.pinned.checked.prog.liftsFinal) = true := by kernel_rfl
theorem j27 : (Tryz.pinned.checked.prog.make == some Rows.sumsFlowRow.make) = true := by kernel_rfl
theorem j28 : (Rows.sumsFlowRow.kinds == (if Rows.sumsFlowRow.domain.isEmpty then [] else Tryz.f5.params.toList.map fun t => match Tryz.pinned.checked.prog.underlying t with | some (.int k) => some k | _ => none)) = true := by kernel_rfl
theorem j29 : (Rows.sumsFlowRow.pinned == Rows.sumsFlowRow.pinnedBy) = true := by kernel_rfl
theorem j30 : (Rows.sumsFlowRow.veiled == (Tryz.f5.params.toList ++ Rows.sumsFlowSpec.plain.varTypes Tryz.pinned.checked.prog ++ Tryz.f5.resultTypes.toList).any (Tryz.pinned.checked.prog.veiledRec ·)) = true := by kernel_rfl
theorem j31 : (Rows.sumsFlowRow.veiledFits Tryz.pinned.checked.prog Tryz.f5.params.toList (Tryz.f5.params.toList ++ Rows.sumsFlowSpec.plain.varTypes Tryz.pinned.checked.prog ++ Tryz.f5.resultTypes.toList)) = true := by kernel_rfl
set_option maxRecDepth 100000 in
theorem closed : joinedFacts Tryz.pinned.checked.prog 5 Tryz.f5 Rows.sumsFlowSpec Rows.sumsFlowRow = true := by
  unfold joinedFacts
  rw [j0, j1, j2, j3, j4, j5, j6, j7, j8, j9, j10, j11, j12, j13, j14, j15, j16, j17, j18, j19, j20, j21, j22, j23, j24, j25, j26, j27, j29, j30, j31]
  simp only [Bool.true_and, Bool.and_true]
  first | exact j28 | kernel_rfl
theorem over : Rows.sumsFlowRow.holds Tryz.pinned (OpenSpec.ofChange Rows.sumsFlowSpec) :=
  OpenClaim.holds_of_wide 5 Tryz.f5 rfl rfl rfl rfl rfl rfl rfl ⟨rfl, rfl, rfl, rfl, rfl⟩ rfl rfl rfl rfl rfl (by kernel_rfl) Tryz.func5 closed
    (of_decide_eq_true (by kernel_rfl)) (by unfold Func.isWrapper; first | (rw [if_pos (by decide +kernel)]; kernel_rfl) | (rw [if_neg (by decide +kernel)]; exact ⟨rfl, rfl⟩))
    (fun os started H enc _ => lifted os started H enc)

/-- ████ THE STATEMENT ████ -/
theorem proved : Rows.SumsFlowSaid :=
  over
#print axioms proved
end Go.Proofs.YtnknkkmdbnaglaaGreat.sumsFlow

