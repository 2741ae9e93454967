/- Contract: lamport.advance. -/
import Derived.Test.YtecgigeeolindaaStS
import Derived.Maps.AppendAt
namespace Go.Proofs.Ytecgigeeolindaa
open Go.RowKit Go.Shelf

open Classical in
/-- who sends what event x receives -/
noncomputable def Tr.sndN (T : Tr) (x : NN) : NN := if h : x.1 < T.n ∧ x.2 < T.en x.1 then (T.snd ⟨x, h⟩).1 else (0, 0)
theorem Tr.sndN_eq (T : Tr) (x : T.Id) : T.sndN x.1 = (T.snd x).1 := by
  unfold Tr.sndN; rw [dif_pos x.2]
/-- the next event of process p can get its stamp -/
def Tr.Ready (T : Tr) (rows : Nat → List Int) (p : Nat) : Prop :=
  (rows p).length < T.en p ∧ (T.kind p (rows p).length = 3 → (T.sndN (p, (rows p).length)).2 < (rows (T.sndN (p, (rows p).length)).1).length)
/-- its stamp -/
noncomputable def Tr.next (T : Tr) (rows : Nat → List Int) (p : Nat) : Int :=
  max (if (rows p).length = 0 then 0 else (rows p).getD ((rows p).length - 1) 0)
    (if T.kind p (rows p).length = 3 then (rows (T.sndN (p, (rows p).length)).1).getD (T.sndN (p, (rows p).length)).2 0 else 0) + 1
theorem infoInt : (Try.prog.info? 3).map (fun i => (i.zero, i.size, i.bytes)) = some (some (.int .i64 0), 1, 8) := by kernel_rfl
/-- all stamps are small -/
def SmallR (n : Nat) (rows : Nat → List Int) : Prop := ∀ k i, k < n → i < (rows k).length → 0 ≤ (rows k).getD i 0 ∧ (rows k).getD i 0 < 1000000000

set_option maxRecDepth 100000 in
set_option maxHeartbeats 2000000 in
/-- nothing can be done -/
theorem advance_no (w : World) (T : TM) (hT : T.At w) (hV : T.toTr.Valid) (base bS cap : Nat) (rows : Nat → List Int) (vs : Nat → Value) (hS : StS base bS T.n rows vs w) (p : Nat) (hp : p < T.n) (hle : (rows p).length ≤ T.en p) (hR : ¬ T.toTr.Ready rows p) :
    Calls Try.prog 38 #[T.val, .slice (some ⟨bS, 0, none⟩) T.n cap, .int .i64 p] w fun e w' => e = .returned (.bool false) ∧ Ext w w' := by
  have hp' : (p : Int) < (T.n : Int) := by omega
  have hn0 : 0 < T.n := by omega
  have pa := hT.P.pa (by omega)
  have pb := hT.P.pb (by omega)
  have p2 := hT.P.p2
  have hen := hT.E.he p hp
  have e0 := hT.E.e0
  have e1 := hT.E.e1
  have e2 := hT.E.e2
  have e3 := hT.E.e3
  have e4 := hT.E.e4
  have hMM := hS.mm (cap := cap)
  have s0 := hMM.p0
  have sb := hMM.pb hn0
  have sr := hMM.r0
  simp only [stMM, Nat.zero_add] at s0 sb sr
  have HM := Lib.hid hMM
  have HT := Lib.hid hT
  have HV := Lib.hid hV
  have HS := Lib.hid hS
  clear hMM hT hV hS
  go_enter Try.func38, Try.ntmps38
  go_upto_region 1 with fail
  refine boxed1 (w := w) (G := fun x => Code.wp _ _ _ _ x) ?_
  intro w1 hx1 hs1 ⟨l0, c0, _, _⟩
  have hx11 : Ext w1 w1 := Ext.refl _
  clear hs1
  by_cases hf : (rows p).length = T.en p
  · go_wp2
    go_ret
    exact ⟨rfl, hx1⟩
  · have hlt : (rows p).length < T.en p := by omega
    have hk3 : T.kind p (rows p).length = 3 := Classical.byContradiction fun h => hR ⟨hlt, fun h' => absurd h' h⟩
    have hns : (rows (T.toTr.sndN (p, (rows p).length)).1).length ≤ (T.toTr.sndN (p, (rows p).length)).2 := by
      refine Nat.le_of_not_lt fun h => hR ⟨hlt, fun _ => h⟩
    have hsent : ∀ W, Ext w W → Calls Try.prog 46 #[T.val, T.ev p (rows p).length, .slice (some ⟨bS, 0, none⟩) T.n cap] W fun e w' => e = .returned (.tuple #[.int .i64 0, .bool false]) ∧ Ext W w' := fun W hx =>
      (sent_any W T (HT.out.ext hx) HV.out (stMM bS T.n cap rows vs) (HM.out.ext hx) rfl ⟨(p, (rows p).length), hp, hlt⟩ hk3).mono fun e w' ⟨he, hx'⟩ => ⟨by
        rw [he]; refine ret_eq ?_
        unfold sentV; rw [← Tr.sndN_eq]; exact if_pos hns, hx'⟩
    simp only [TM.val, TM.ev, pa, hk3] at hsent
    have HSE := Lib.hid hsent
    clear hsent
    have hlt' : ((rows p).length : Int) < (T.en p : Int) := by omega
    have hfb : (((rows p).length : Int) == (T.en p : Int)) = false := by simp; omega
    have ea := HT.out.E.ea p hp (by omega)
    have eb := HT.out.E.eb p hp (by omega)
    by_cases h0 : 0 < (rows p).length
    · have ra := HM.out.ra p hp h0
      simp only [stMM] at ra
      have hi0 : (rows p).length - 1 < (rows p).length := by omega
      have h0' : (0 : Int) < ((rows p).length : Int) := by omega
      go_wp2_with (go_at_call 46; refine (HSE.out _ (hx1.alloc' _)).mono ?_; rintro e w3 ⟨rfl, hx3⟩)
      go_ret
      exact ⟨rfl, (hx1.alloc' _).trans hx3⟩
    · go_wp2_with (go_at_call 46; refine (HSE.out _ (hx1.alloc' _)).mono ?_; rintro e w3 ⟨rfl, hx3⟩)
      go_ret
      exact ⟨rfl, (hx1.alloc' _).trans hx3⟩

theorem own_slice {w : World} {base : Nat} {t : TypeId} {v : Value} {n : Nat} {xs : List Value} (h : w.ownsRow base t 1 v (n + 1) xs) : ∃ a c, v = .slice a (n + 1) c := by
  obtain ⟨_, ⟨hv, hn⟩ | ⟨g, cap, cur, hv, _⟩⟩ := h
  · omega
  · exact ⟨_, _, hv⟩
def AdvPost (base bS n p : Nat) (rows : Nat → List Int) (x : Int) (w : World) (e : Ending) (w' : World) : Prop :=
  e = .returned (.bool true) ∧ (∃ vs', StS base bS n (updR rows p (rows p ++ [x])) vs' w') ∧ Below base w w'
set_option maxRecDepth 100000 in
set_option maxHeartbeats 4000000 in
/-- the next event gets its stamp -/
theorem advance_yes (w : World) (T : TM) (hT : T.At w) (hV : T.toTr.Valid) (base bS cap : Nat) (rows : Nat → List Int) (vs : Nat → Value) (hS : StS base bS T.n rows vs w) (hb : base ≤ bS) (hbw : base ≤ w.heap.size) (hsm : SmallR T.n rows)
    (p : Nat) (hp : p < T.n) (hR : T.toTr.Ready rows p) :
    Calls Try.prog 38 #[T.val, .slice (some ⟨bS, 0, none⟩) T.n cap, .int .i64 p] w (AdvPost base bS T.n p rows (T.toTr.next rows p) w) := by
  have hlt := hR.1
  have hfo := (hS.own p hp).form
  obtain ⟨a0, c0', hv0⟩ : ∃ a0 c0', vs p = .slice a0 (rows p).length c0' := ⟨_, _, hfo.1⟩
  have sp : ∀ w', Ext w w' → w'.cell? ⟨bS, p, none⟩ = some (.slice a0 (rows p).length c0') := fun w' x => by rw [← hv0]; exact x.cell (hS.cell p hp)
  have sb : ∀ w', Ext w w' → bS < w'.heap.size := fun w' x => Nat.lt_of_lt_of_le (cell_lt (hS.cell p hp) : bS < w.heap.size) x.le
  have HOW := Lib.hid (show ∀ W, Ext w W → W.ownsRow base 3 1 (.slice a0 (rows p).length c0') (rows p).length (intCells (rows p)) from fun W x => by rw [← hv0]; exact (hS.own p hp).kept x)
  obtain ⟨cl, hcl⟩ : ∃ cl : Int, cl = (if (rows p).length = 0 then 0 else (rows p).getD ((rows p).length - 1) 0) := ⟨_, rfl⟩
  obtain ⟨gt, hgt⟩ : ∃ gt : Int, gt = (if T.kind p (rows p).length = 3 then (rows (T.toTr.sndN (p, (rows p).length)).1).getD (T.toTr.sndN (p, (rows p).length)).2 0 else 0) := ⟨_, rfl⟩
  have hclb : 0 ≤ cl ∧ cl < 1000000000 := by
    rw [hcl]; by_cases h : (rows p).length = 0
    · rw [if_pos h]; omega
    · rw [if_neg h]; exact hsm p _ hp (by omega)
  have hgtb : 0 ≤ gt ∧ gt < 1000000000 := by
    rw [hgt]; by_cases h : T.kind p (rows p).length = 3
    · rw [if_pos h]
      refine hsm _ _ ?_ (hR.2 h)
      have e := T.toTr.sndN_eq ⟨(p, (rows p).length), hp, hlt⟩
      rw [e]; exact (T.toTr.snd _).2.1
    · rw [if_neg h]; omega
  obtain ⟨nx, hnx⟩ : ∃ nx : Int, nx = max cl gt + 1 := ⟨_, rfl⟩
  have hstep : ∀ W, Calls Try.prog 10 #[.int .i64 cl, .int .i64 gt] W fun e w' => e = .returned (.tuple #[.int .i64 nx, .int .i64 0]) ∧ W = w' := fun W => by
    have := step_any cl gt W
    rw [stepV_ok hclb.1 hgtb.1 (by omega) (by omega) hnx] at this
    exact this
  have HN := Lib.hid (show T.toTr.next rows p = nx by rw [hnx, hcl, hgt]; rfl)
  have hsent : T.kind p (rows p).length = 3 → ∀ W, Ext w W → Calls Try.prog 46 #[T.val, T.ev p (rows p).length, .slice (some ⟨bS, 0, none⟩) T.n cap] W fun e w' => e = .returned (.tuple #[.int .i64 gt, .bool true]) ∧ Ext W w' := fun hk3 W hx =>
    (sent_any W T (hT.ext hx) hV (stMM bS T.n cap rows vs) (hS.mm.ext hx) rfl ⟨(p, (rows p).length), hp, hlt⟩ hk3).mono fun e w' ⟨he, hx'⟩ => ⟨by
      rw [he]; refine ret_eq ?_
      have h2 := hR.2 hk3
      unfold sentV; rw [← Tr.sndN_eq, hgt, if_pos hk3]; exact if_neg (Nat.not_le.2 h2), hx'⟩
  have sl : 0 < (rows p).length → ∃ g0, a0 = some ⟨g0, 0, none⟩ ∧ (∀ w', Ext w w' → g0 < w'.heap.size) ∧ ∀ w', Ext w w' → w'.cell? ⟨g0, (rows p).length - 1, none⟩ = some (.int .i64 cl) := fun h0 => by
    have ha := hfo.2.1 h0
    have hbk := hfo.2.2.2.1 h0
    refine ⟨vBlock (vs p), ?_, fun w' x => Nat.lt_of_lt_of_le ((hS.own p hp).lt _ hbk) x.le, fun w' x => ?_⟩
    · rw [hv0] at ha ⊢; exact ha
    · rw [hfo.2.2.2.2 w' x _ (by omega), hcl, if_neg (by omega), List.getD_eq_getElem?_getD, List.getElem?_eq_getElem (by omega)]; rfl
  have HPU := Lib.hid (fun (W : World) (x : Ext w W) w' v' => StS.push (w' := w') (v' := v') (x := nx) (c := #[.int .i64 nx]) (t := 3) (hS.ext (by omega) x) hp hb (Nat.le_trans hbw x.le) (by
    have := (hV.pr p hp).2.2.2.2; omega))
  have HV0 := Lib.hid hv0
  have hp' : (p : Int) < (T.n : Int) := by omega
  have pa := hT.P.pa (by omega)
  have pb := hT.P.pb (by omega)
  have p2 := hT.P.p2
  have hen := hT.E.he p hp
  have e0 := hT.E.e0
  have e1 := hT.E.e1
  have e2 := hT.E.e2
  have e3 := hT.E.e3
  have e4 := hT.E.e4
  have ea := hT.E.ea p hp (by omega)
  have eb := hT.E.eb p hp (by omega)
  have hlt' : ((rows p).length : Int) < (T.en p : Int) := by omega
  have hfb : (((rows p).length : Int) == (T.en p : Int)) = false := by simp; omega
  obtain ⟨i0, hi0, hz0, hz1, hz2⟩ := info_parts infoInt
  have HST := Lib.hid hstep
  have HSE := Lib.hid hsent
  have HSL := Lib.hid sl
  have HB := Lib.hid hbw
  have hlen : (rows p).length ≤ 64 := by have := (hV.pr p hp).2.2.2.2; omega
  clear hT hV hS hfo hv0 hstep hsent sl hsm hR hnx hclb hgtb hbw
  go_enter Try.func38, Try.ntmps38
  go_upto_region 1 with fail
  refine boxed1 (w := w) (G := fun x => Code.wp _ _ _ _ x) ?_
  intro w1 hx1 hs1 ⟨l0, c0, _, _⟩
  have hx11 : Ext w1 w1 := Ext.refl _
  clear hs1
  by_cases h0 : 0 < (rows p).length
  · obtain ⟨g0, rfl, hg0, sl⟩ := HSL.out h0
    have h0' : (0 : Int) < ((rows p).length : Int) := by omega
    clear hcl
    by_cases hk3 : T.kind p (rows p).length = 3
    · have hsn := HSE.out hk3
      simp only [TM.val, TM.ev, pa, hk3] at hsn
      have HSN := Lib.hid hsn
      clear hsn hgt HSE HSL
      go_upto_region 14 with (first | (go_at_call 46; refine (HSN.out _ (hx1.alloc' _)).mono ?_; rintro e w3 ⟨rfl, hx3⟩; have hx13 : Ext w w3 := (hx1.alloc' _).trans hx3) | (go_at_call 10; refine (HST.out _).mono ?_; rintro e w' ⟨rfl, rfl⟩))
      go_wp2_with (at_builtin; refine wpList_append_own_at _ rfl _ _ 41 rfl base 3 i0 (.int .i64 0) 1 8 Try.underlying41 hi0 hz0 hz1 hz2 rfl (by decide) _ (rows p).length (intCells (rows p)) rfl (by exact HOW.out _ (hx13.alloc' _)) ⟨w3.heap.size, 0, none⟩ 1 1 [.int .i64 nx] rfl rfl (by exact news_ok _ [_] _) (by intro u hu; simp at hu; subst hu; rfl) (by unfold maxLen; omega) (by omega) (by have := hx13.le; have := HB.out; simp; omega) ?_; rintro v8 w8 hown8 hg8 - hat8; obtain ⟨a8, c8, hv8⟩ := own_slice hown8; subst hv8; have P8 := HPU.out w3 hx13 w8 _ hown8 (by rw [HV0.out]; exact hg8) (by rw [HV0.out]; exact hat8); have q1 := P8.2.2.1; have q2 := P8.2.2.2; have HP8 := Lib.hid P8; clear P8 hown8 hg8 hat8)
      go_ret
      exact ⟨rfl, ⟨_, by rw [HN.out]; exact HP8.out.1⟩, (Below.mono hx13 HB.out).trans HP8.out.2.1⟩
    · obtain rfl : gt = 0 := by rw [hgt, if_neg hk3]
      have hkb : (T.kind p (rows p).length == 3) = false := by simpa using hk3
      clear hgt HSE HSL
      go_upto_region 8 with fail
      refine boxed1 (w := w1) (G := fun x => Code.wp _ _ _ _ x) ?_
      intro w3 hx3 hs3 ⟨l3, c3, _, _⟩
      clear hs3
      have hx33 : Ext w3 w3 := Ext.refl _
      have hx13 : Ext w w3 := hx1.trans hx3
      go_upto_region 14 with (go_at_call 10; refine (HST.out _).mono ?_; rintro e w' ⟨rfl, rfl⟩)
      go_wp2_with (at_builtin; refine wpList_append_own_at _ rfl _ _ 41 rfl base 3 i0 (.int .i64 0) 1 8 Try.underlying41 hi0 hz0 hz1 hz2 rfl (by decide) _ (rows p).length (intCells (rows p)) rfl (by exact HOW.out _ (hx13.alloc' _)) ⟨w3.heap.size, 0, none⟩ 1 1 [.int .i64 nx] rfl rfl (by exact news_ok _ [_] _) (by intro u hu; simp at hu; subst hu; rfl) (by unfold maxLen; omega) (by omega) (by have := hx13.le; have := HB.out; simp; omega) ?_; rintro v8 w8 hown8 hg8 - hat8; obtain ⟨a8, c8, hv8⟩ := own_slice hown8; subst hv8; have P8 := HPU.out w3 hx13 w8 _ hown8 (by rw [HV0.out]; exact hg8) (by rw [HV0.out]; exact hat8); have q1 := P8.2.2.1; have q2 := P8.2.2.2; have HP8 := Lib.hid P8; clear P8 hown8 hg8 hat8)
      go_ret
      exact ⟨rfl, ⟨_, by rw [HN.out]; exact HP8.out.1⟩, (Below.mono hx13 HB.out).trans HP8.out.2.1⟩
  · obtain rfl : cl = 0 := by rw [hcl, if_pos (by omega)]
    have h0' : decide ((0 : Int) < ((rows p).length : Int)) = false := decide_eq_false (by omega)
    clear hcl
    by_cases hk3 : T.kind p (rows p).length = 3
    · have hsn := HSE.out hk3
      simp only [TM.val, TM.ev, pa, hk3] at hsn
      have HSN := Lib.hid hsn
      clear hsn hgt HSE HSL
      go_upto_region 14 with (first | (go_at_call 46; refine (HSN.out _ (hx1.alloc' _)).mono ?_; rintro e w3 ⟨rfl, hx3⟩; have hx13 : Ext w w3 := (hx1.alloc' _).trans hx3) | (go_at_call 10; refine (HST.out _).mono ?_; rintro e w' ⟨rfl, rfl⟩))
      go_wp2_with (at_builtin; refine wpList_append_own_at _ rfl _ _ 41 rfl base 3 i0 (.int .i64 0) 1 8 Try.underlying41 hi0 hz0 hz1 hz2 rfl (by decide) _ (rows p).length (intCells (rows p)) rfl (by exact HOW.out _ (hx13.alloc' _)) ⟨w3.heap.size, 0, none⟩ 1 1 [.int .i64 nx] rfl rfl (by exact news_ok _ [_] _) (by intro u hu; simp at hu; subst hu; rfl) (by unfold maxLen; omega) (by omega) (by have := hx13.le; have := HB.out; simp; omega) ?_; rintro v8 w8 hown8 hg8 - hat8; obtain ⟨a8, c8, hv8⟩ := own_slice hown8; subst hv8; have P8 := HPU.out w3 hx13 w8 _ hown8 (by rw [HV0.out]; exact hg8) (by rw [HV0.out]; exact hat8); have q1 := P8.2.2.1; have q2 := P8.2.2.2; have HP8 := Lib.hid P8; clear P8 hown8 hg8 hat8)
      go_ret
      exact ⟨rfl, ⟨_, by rw [HN.out]; exact HP8.out.1⟩, (Below.mono hx13 HB.out).trans HP8.out.2.1⟩
    · obtain rfl : gt = 0 := by rw [hgt, if_neg hk3]
      have hkb : (T.kind p (rows p).length == 3) = false := by simpa using hk3
      clear hgt HSE HSL
      go_upto_region 8 with fail
      refine boxed1 (w := w1) (G := fun x => Code.wp _ _ _ _ x) ?_
      intro w3 hx3 hs3 ⟨l3, c3, _, _⟩
      clear hs3
      have hx33 : Ext w3 w3 := Ext.refl _
      have hx13 : Ext w w3 := hx1.trans hx3
      go_upto_region 14 with (go_at_call 10; refine (HST.out _).mono ?_; rintro e w' ⟨rfl, rfl⟩)
      go_wp2_with (at_builtin; refine wpList_append_own_at _ rfl _ _ 41 rfl base 3 i0 (.int .i64 0) 1 8 Try.underlying41 hi0 hz0 hz1 hz2 rfl (by decide) _ (rows p).length (intCells (rows p)) rfl (by exact HOW.out _ (hx13.alloc' _)) ⟨w3.heap.size, 0, none⟩ 1 1 [.int .i64 nx] rfl rfl (by exact news_ok _ [_] _) (by intro u hu; simp at hu; subst hu; rfl) (by unfold maxLen; omega) (by omega) (by have := hx13.le; have := HB.out; simp; omega) ?_; rintro v8 w8 hown8 hg8 - hat8; obtain ⟨a8, c8, hv8⟩ := own_slice hown8; subst hv8; have P8 := HPU.out w3 hx13 w8 _ hown8 (by rw [HV0.out]; exact hg8) (by rw [HV0.out]; exact hat8); have q1 := P8.2.2.1; have q2 := P8.2.2.2; have HP8 := Lib.hid P8; clear P8 hown8 hg8 hat8)
      go_ret
      exact ⟨rfl, ⟨_, by rw [HN.out]; exact HP8.out.1⟩, (Below.mono hx13 HB.out).trans HP8.out.2.1⟩

end Go.Proofs.Ytecgigeeolindaa
