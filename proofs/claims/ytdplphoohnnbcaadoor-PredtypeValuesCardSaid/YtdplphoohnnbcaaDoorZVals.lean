/- PROVED HERE: 'PredtypeValues' returns true for every trace and every two numbers, in every memory that holds the package's table. -/
import Derived.Test.YtdplphoohnnbcaaDoorHx
import Derived.Test.YtdplphoohnnbcaaDoorHy
import Derived.Test.YtdplphoohnnbcaaDoorIc
import Derived.Test.YtdplphoohnnbcaaDoorIq
import Derived.Deep.LoopGhost
namespace Go.Proofs.YtdplphoohnnbcaaDoor.predtypeValues
open Go.ChangeShapes Go.WideShapes Go.ChangeAt Go.RowKit Go.Proofs.YtdplphoohnnbcaaDoor
set_option linter.unusedVariables false

theorem u8_range {v : Int} (h : (Lit.int .u8 v).wf = true) : 0 ≤ v ∧ v ≤ 255 := by
  have e1 : IntKind.u8.min = 0 := by decide
  have e2 : IntKind.u8.max = 255 := by decide
  simp only [Lit.wf, Bool.and_eq_true, decide_eq_true_eq, e1, e2] at h
  exact h
/-- the variable as an expression -/
def vT (k : Nat) (nm : ByteArray) : Pr := .mk 2 0 k 0 nm none 0 0 0 0 fun _ => .nil
theorem vT_int {T : Tr} {k : Nat} {nm : ByteArray} (hk : k < T.n) (h : T.hasV k nm = true) : (vT k nm).All T.IntN := by
  refine all_leaf ⟨⟨by show (1 : Int) ≤ 2; decide, by show (2 : Int) ≤ 21; decide, rfl, by show (0 : Int) ≤ 0; decide, by show (0 : Int) ≤ 1125899906842624; decide, fun h => absurd rfl h, .inl ⟨by show (2 : Int) ≤ 2; decide, by show (2 : Int) ≤ 4; decide⟩⟩, ⟨fun _ => ⟨⟨by show (0 : Int) ≤ k; omega, by show (k : Int) < T.n; omega⟩, rfl, ?_⟩, (fun h => by have h : (2 : Int) = 3 := h; omega), (fun h => by have h : (2 : Int) = 4 := h; omega)⟩, by show (2 : Int) ≤ 8; decide⟩ rfl
  show T.hasV (k : Int).toNat nm = true
  rw [Int.toNat_natCast]; exact h
theorem vT_ival {T : Tr} {k v : Nat} {nm : ByteArray} (hV : T.Valid) (hk : k < T.n) (hv : v < T.vn k) (hvi : T.varI k nm = v) : T.ival (vT k nm) = some (T.low k v, T.high k v) := by
  rw [Tr.ival_eq]
  show chkI (T.low (k : Int).toNat (T.varI (k : Int).toNat nm).toNat, T.high (k : Int).toNat (T.varI (k : Int).toNat nm).toNat) = _
  rw [Int.toNat_natCast, hvi, Int.toNat_natCast]
  obtain ⟨h1, h2, _⟩ := hV.lowHigh (p := k) (v := v) hk
  have h1 := hV.val_range hk hv h1
  have h2 := hV.val_range hk hv h2
  exact if_pos ⟨by show _ ≤ T.low k v; omega, by show T.high k v ≤ _; omega⟩
theorem vT_at {k : Nat} {nm : ByteArray} (w : World) (hk : k ≤ 100) (hs : nm.size ≤ 9223372036854775807) : (vT k nm).At w :=
  all_leaf ⟨okI_of (by show (-1000 : Int) ≤ 2; decide) (by show (2 : Int) ≤ 1000; decide), ok0, okI_of (by show (-1000 : Int) ≤ k; omega) (by show (k : Int) ≤ 1000; omega), ok0, hs, Nat.zero_le _, Nat.le_refl _, fun h => absurd h (Nat.lt_irrefl _), fun h => absurd h (Nat.lt_irrefl _), fun _ _ _ h => absurd h (Nat.not_lt_zero _), fun _ _ _ h => absurd h (Nat.not_lt_zero _), fun _ _ _ h => absurd h (Nat.not_lt_zero _), fun _ _ _ h => absurd h (Nat.not_lt_zero _), fun _ _ _ h => absurd h (Nat.not_lt_zero _), fun _ _ _ h => absurd h (Nat.not_lt_zero _)⟩ rfl
/-- least and greatest of the values so far -/
def LG (f : Nat → Int) (L H : Int) (k : Nat) (lo hi : Int) : Prop := (k = 0 ∧ lo = H + 1 ∧ hi = L - 1) ∨ ((∃ j, j < k ∧ f j = lo) ∧ (∀ j, j < k → lo ≤ f j) ∧ (∃ j, j < k ∧ f j = hi) ∧ ∀ j, j < k → f j ≤ hi)
theorem LG.next {f : Nat → Int} {L H : Int} {k : Nat} {lo hi y lo' hi' : Int} (h : LG f L H k lo hi) (hy : y = f k) (h1 : L ≤ y) (h2 : y ≤ H) (e1 : lo' = if y < lo then y else lo) (e2 : hi' = if hi < y then y else hi) : LG f L H (k + 1) lo' hi' := by
  subst e1 e2
  right
  rcases h with ⟨rfl, rfl, rfl⟩ | ⟨⟨j1, a1, b1⟩, c1, ⟨j2, a2, b2⟩, c2⟩
  · rw [if_pos (by omega), if_pos (by omega)]
    exact ⟨⟨0, by omega, hy.symm⟩, fun j hj => by rw [show j = 0 by omega, hy]; exact Int.le_refl _, ⟨0, by omega, hy.symm⟩, fun j hj => by rw [show j = 0 by omega, hy]; exact Int.le_refl _⟩
  · refine ⟨?_, fun j hj => ?_, ?_, fun j hj => ?_⟩
    · split
      · exact ⟨k, by omega, hy.symm⟩
      · exact ⟨j1, by omega, b1⟩
    · by_cases e : j = k
      · subst e; rw [← hy]; split <;> omega
      · have := c1 j (by omega); split <;> omega
    · split
      · exact ⟨k, by omega, hy.symm⟩
      · exact ⟨j2, by omega, b2⟩
    · by_cases e : j = k
      · subst e; rw [← hy]; split <;> omega
      · have := c2 j (by omega); split <;> omega
theorem LG.range {f : Nat → Int} {L H : Int} {k : Nat} {lo hi : Int} (h : LG f L H k lo hi) (hf : ∀ j, j < k → L ≤ f j ∧ f j ≤ H) : (lo = H + 1 ∨ (L ≤ lo ∧ lo ≤ H)) ∧ (hi = L - 1 ∨ (L ≤ hi ∧ hi ≤ H)) := by
  rcases h with ⟨_, h1, h2⟩ | ⟨⟨j1, a1, b1⟩, _, ⟨j2, a2, b2⟩, _⟩
  · exact ⟨.inl h1, .inl h2⟩
  · have := hf j1 a1; have := hf j2 a2; exact ⟨.inr (by omega), .inr (by omega)⟩
theorem LG.done {f : Nat → Int} {L H : Int} {n : Nat} {lo hi : Int} (h : LG f L H (n + 1) lo hi) (hf : ∀ j, j < n + 1 → L ≤ f j ∧ f j ≤ H) (hl : ∃ j, j < n + 1 ∧ f j = L) (hh : ∃ j, j < n + 1 ∧ f j = H) : lo = L ∧ hi = H := by
  rcases h with ⟨h, _⟩ | ⟨⟨j1, a1, b1⟩, c1, ⟨j2, a2, b2⟩, c2⟩
  · omega
  · obtain ⟨i1, d1, e1⟩ := hl
    obtain ⟨i2, d2, e2⟩ := hh
    have := hf j1 a1; have := hf j2 a2; have := c1 i1 d1; have := c2 i2 d2
    omega
def TruePost (w : World) (e : Ending) (w' : World) : Prop := e = .returned (.bool true) ∧ Ext w w'
set_option maxRecDepth 100000 in
set_option maxHeartbeats 4000000 in
theorem walk (T : TM) (a1 a2 : Int) (w : World) (hT : T.At w) (ha1 : 0 ≤ a1 ∧ a1 ≤ 255) (ha2 : 0 ≤ a2 ∧ a2 ≤ 255) (hTab : TabAt w) : Calls Tryd.prog 5 #[T.val, .int .u8 a1, .int .u8 a2] w (TruePost w) := by
  have HT := Lib.hid hT
  have HTab := Lib.hid hTab
  obtain ⟨m1, rfl⟩ : ∃ m : Nat, a1 = m := ⟨a1.toNat, by omega⟩
  obtain ⟨m2, rfl⟩ : ∃ m : Nat, a2 = m := ⟨a2.toNat, by omega⟩
  have hm1 : m1 ≤ 255 := by omega
  have hm2 : m2 ≤ 255 := by omega
  clear hT hTab ha1 ha2
  simp only [TM.val]
  go_enter Tryd.func5, Tryd.ntmps5
  go_upto_region 1 with fail
  refine boxed1 (w := w) (G := fun x => Code.wp _ _ _ _ x) ?_
  intro w1 hx1 hs1 ⟨l0, c0, _, _⟩
  have hx11 : Ext w1 w1 := Ext.refl _
  have hA := awake_any w1 (HTab.out.ext hx1)
  clear hs1
  obtain ⟨ta, hta⟩ : ∃ a, a = T.a := ⟨_, rfl⟩
  rw [← hta] at c0 ⊢
  have HTA := Lib.hid hta
  clear hta
  go_wp2_with fail
  go_at_call 7
  refine hA.mono ?_
  rintro e w2 ⟨rfl, hx2⟩
  have hxw2 := hx1.trans hx2
  have hx12 := hx2
  clear hA
  have hF := sml_any w2 T (HT.out.ext hxw2)
  simp only [TM.val] at hF
  rw [← HTA.out] at hF
  go_wp2_with fail
  go_at_call 9
  refine hF.mono ?_
  rintro e w3 ⟨hx3, b, rfl⟩
  have hxw3 := hxw2.trans hx3
  have hx13 := hx12.trans hx3
  clear hF
  cases b with
  | false =>
    go_wp2_with fail
    go_ret
    exact ⟨rfl, hxw3⟩
  | true =>
    have hVa := rvalid_any w3 T (HT.out.ext hxw3)
    simp only [TM.val] at hVa
    rw [← HTA.out] at hVa
    go_wp2_with fail
    go_at_call 18
    refine hVa.mono ?_
    rintro e w4 ⟨b, rfl, hb, hx4⟩
    have hxw4 := hxw3.trans hx4
    have hx14 := hx13.trans hx4
    have HB := Lib.hid hb
    clear hVa hb
    cases b with
    | false =>
      go_wp2_with fail
      go_ret
      exact ⟨rfl, hxw4⟩
    | true =>
      have HV := Lib.hid (HB.out.1 rfl)
      clear HB
      have hn1 := HV.out.n1
      have hn8 := HV.out.n8
      obtain ⟨k, hke⟩ : ∃ k, k = m1 % T.n := ⟨_, rfl⟩
      have hk : k < T.n := by rw [hke]; exact Nat.mod_lt _ (by omega)
      have hk' : (k : Int) < (T.n : Int) := by omega
      have hn0' : ((T.n : Int) == 0) = false := by simp; omega
      have hn0 : (T.n == 0) = false := by simp; omega
      have hnz : ¬ ((T.n : Int) = 0) := by omega
      have hmod : Int.tmod (m1 : Int) (T.n : Int) = (k : Int) := by rw [hke]; rfl
      have hmod2 : (m1 : Int) % (T.n : Int) = (k : Int) := by rw [hke]; rfl
      have hwm : IntKind.i64.wrap (m1 : Int) = (m1 : Int) := IntWalk.i64_in _ (by omega)
      have hwm2 : IntKind.i64.wrap (m2 : Int) = (m2 : Int) := IntWalk.i64_in _ (by omega)
      have hwk : IntKind.i64.wrap (k : Int) = (k : Int) := IntWalk.i64_in _ (by omega)
      obtain rfl : ta = some ⟨T.b, T.off, none⟩ := by rw [HTA.out]; exact HT.out.P.pa (by omega)
      have pb := HT.out.P.pb (by omega)
      have p0 : ∀ w', Ext w w' → w'.cell? ⟨T.b, T.off + k * 3, none⟩ = some (.string (T.name k)) := fun w' h => HT.out.P.p0 w' h k hk
      have p1 : ∀ w', Ext w w' → w'.cell? ⟨T.b, T.off + k * 3 + 1, none⟩ = some (.slice (T.va k) (T.vn k) (T.vc k)) := fun w' h => HT.out.P.p1 w' h k hk
      have p2 : ∀ w', Ext w w' → w'.cell? ⟨T.b, T.off + k * 3 + 2, none⟩ = some (.slice (T.ea k) (T.en k) (T.ec k)) := fun w' h => HT.out.P.p2 w' h k hk
      have hvn8 := HV.out.vn8 hk
      have hen := HV.out.en64 hk
      clear hke
      by_cases hv0 : T.vn k = 0
      · have z1 : ((T.vn k : Int) == 0) = true := by simp; omega
        have z2 : (T.vn k == 0) = true := by simp; omega
        go_wp2_with fail
        go_ret
        exact ⟨rfl, hxw4⟩
      · have z1 : ((T.vn k : Int) == 0) = false := by simp; omega
        have z2 : (T.vn k == 0) = false := by simp; omega
        have znz : ¬ ((T.vn k : Int) = 0) := by omega
        obtain ⟨j, hje⟩ : ∃ j, j = m2 % T.vn k := ⟨_, rfl⟩
        have hj : j < T.vn k := by rw [hje]; exact Nat.mod_lt _ (by omega)
        have hj' : (j : Int) < (T.vn k : Int) := by omega
        have hmod3 : Int.tmod (m2 : Int) (T.vn k : Int) = (j : Int) := by rw [hje]; rfl
        have hmod4 : (m2 : Int) % (T.vn k : Int) = (j : Int) := by rw [hje]; rfl
        have hwj : IntKind.i64.wrap (j : Int) = (j : Int) := IntWalk.i64_in _ (by omega)
        clear hje
        obtain ⟨nm, hnm⟩ : ∃ x, x = T.vname k j := ⟨_, rfl⟩
        obtain ⟨tv, htv⟩ : ∃ x, x = T.va k := ⟨_, rfl⟩
        rw [← htv] at p1
        obtain rfl : tv = some ⟨T.vb k, T.vo k, none⟩ := by rw [htv]; exact HT.out.V.va k hk (by omega)
        have q0 : ∀ w', Ext w w' → w'.cell? ⟨T.vb k, T.vo k + j * 2, none⟩ = some (.string nm) := fun w' h => by rw [hnm]; exact HT.out.V.v0 w' h k j hk hj
        have qb : ∀ w', Ext w w' → T.vb k < w'.heap.size := fun w' h => HT.out.V.vb k hk (by omega) w' h
        obtain ⟨v, hv, hvi⟩ : ∃ v : Nat, v < T.vn k ∧ T.toTr.varI k nm = v := by
          rcases idxI_cases (fun v => strEq (T.vname k v) nm) (T.vn k) with ⟨_, h⟩ | ⟨v, h1, _, h2⟩
          · have := h j hj
            rw [hnm] at this; simp [strEq] at this
          · exact ⟨v, h1, h2⟩
        have hhv : T.toTr.hasV k nm = true := anyB_hit (k := j) hj (by rw [hnm]; simp [strEq])
        have hns : nm.size ≤ 9223372036854775807 := by rw [hnm]; exact HT.out.ok.vname k j hk hj
        have HVI := Lib.hid hvi
        obtain ⟨L, hL⟩ : ∃ x, x = T.toTr.low k v := ⟨_, rfl⟩
        obtain ⟨H, hH⟩ : ∃ x, x = T.toTr.high k v := ⟨_, rfl⟩
        have hiv := vT_ival HV.out hk hv hvi
        rw [← hL, ← hH] at hiv
        obtain ⟨g1, g2, g3⟩ := HV.out.lowHigh (p := k) (v := v) hk
        rw [← hL] at g1 g3
        rw [← hH] at g2 g3
        have r1 := HV.out.val_range hk hv g1
        have r2 := HV.out.val_range hk hv g2
        have hst : ∀ s, s < T.en k + 1 → L ≤ T.st k v s ∧ T.st k v s ≤ H := fun s hs => g3 _ (T.toTr.st_of k v s (by omega))
        have hLH : L ≤ H := by have := hst 0 (by omega); omega
        have hl1 : ∃ s, s < T.en k + 1 ∧ T.st k v s = L := by obtain ⟨s, h1, h2⟩ := HV.out.of_st hk g1; exact ⟨s, by omega, h2⟩
        have hl2 : ∃ s, s < T.en k + 1 ∧ T.st k v s = H := by obtain ⟨s, h1, h2⟩ := HV.out.of_st hk g2; exact ⟨s, by omega, h2⟩
        have HST := Lib.hid hst
        have HL1 := Lib.hid hl1
        have HL2 := Lib.hid hl2
        have hBd : ∀ W, Ext w W → Calls Tryd.prog 10 #[T.val, (vT k nm).val] W fun e w' => e = .returned (.tuple #[.int .i64 L, .int .i64 H, .int .i64 0]) ∧ Ext W w' := fun W h =>
          bound_of_int W (HTab.out.ext h) T (HT.out.ext h) (vT k nm) (vT_at W (by omega) hns) HV.out (by show (1 : Nat) ≤ 200; decide) (by show (1 : Nat) ≤ 20; decide) (vT_int hk hhv) hiv
        have hVl : ∀ W, Ext w W → ∀ s : Nat, s ≤ T.en k → Calls Tryd.prog 19 #[T.val, .int .i64 k, .string nm, .int .i64 s] W fun e w' => e = .returned (.tuple #[.int .i64 (T.st k v s), .int .i64 0]) ∧ Ext W w' := fun W h s hs =>
          value_yes W T (HT.out.ext h) HV.out k hk nm v hv HVI.out s hs
        simp only [TM.val] at hBd hVl
        rw [← HTA.out] at hBd hVl
        have HBd := Lib.hid hBd
        have HVl := Lib.hid hVl
        clear hBd hVl hst hl1 hl2 g1 g2 g3 hiv hvi hhv hL hH hnm htv hns
        have hw1 : IntKind.i64.wrap (H + 1) = H + 1 := IntWalk.i64_in _ (by omega)
        have hw2 : IntKind.i64.wrap (L - 1) = L - 1 := IntWalk.i64_in _ (by omega)
        have hd1 : decide (H < L) = false := decide_eq_false (by omega)
        go_upto_region 8 with fail
        go_quiet (fail)
        go_wp2_with fail
        go_at_call 10
        refine (HBd.out _ (by first | exact hxw4 | exact hxw4.drewN _ | exact hxw4.drew)).mono ?_
        rintro e w5 ⟨rfl, hx5⟩
        have hxw5 : Ext w w5 := by first | exact hxw4.trans hx5 | exact (hxw4.drewN _).trans hx5 | exact hxw4.drew.trans hx5
        have hx15 : Ext w1 w5 := by first | exact hx14.trans hx5 | exact (hx14.drewN _).trans hx5 | exact hx14.drew.trans hx5
        clear hx5 q0 qb hmod hmod2 hmod3 hmod4 hwm hwm2 hwj z1 z2 hn0 hn0'
        go_wp2_with fail
        go_loopg [12, 13, 88] (T.en k + 1) (fun gg v12 v13 v88 wr => ∃ (s : Nat) (lo hi : Int), s ≤ T.en k + 1 ∧ gg = T.en k + 1 - s ∧ v12 = .int .i64 lo ∧ v13 = .int .i64 hi ∧ v88 = .int .i64 s ∧ LG (T.st k v) L H s lo hi ∧ Ext w5 wr)
        case atStart => exact ⟨0, _, _, by omega, rfl, rfl, rfl, rfl, .inl ⟨rfl, rfl, rfl⟩, Ext.refl _⟩
        case round =>
          obtain ⟨s, lo, hi, hs, rfl, rfl, rfl, rfl, hlg, hxr⟩ := hrel
          have HLG := Lib.hid hlg
          have hxwr := hxw5.trans hxr
          have hx1r := hx15.trans hxr
          clear hlg
          by_cases hlt : s < T.en k + 1
          · have hlt' : (s : Int) < (T.en k : Int) + 1 := by omega
            obtain ⟨y, hy⟩ : ∃ y, y = T.st k v s := ⟨_, rfl⟩
            have hyr := HST.out s hlt
            have hVc := HVl.out wr hxwr s (by omega)
            rw [← hy] at hVc hyr
            have HY := Lib.hid hy
            have HYR := Lib.hid hyr
            have e1 : decide (y < L) = false := decide_eq_false (by omega)
            have e2 : decide (H < y) = false := decide_eq_false (by omega)
            clear hy hyr
            go_wp2_with fail
            go_at_call 19
            refine hVc.mono ?_
            rintro e w6 ⟨rfl, hx6⟩
            have hxr6 := hxr.trans hx6
            clear hVc
            go_wp2_with fail
            all_goals (go_roundg (T.en k + 1 - (s + 1)); (case rel => exact ⟨s + 1, _, _, by omega, rfl, rfl, rfl, by go_num, LG.next HLG.out HY.out HYR.out.1 HYR.out.2 (by split <;> omega) (by split <;> omega), hxr6⟩); (case measure => omega))
          · have hse : s = T.en k + 1 := by omega
            subst hse
            obtain ⟨rfl, rfl⟩ := HLG.out.done HST.out HL1.out HL2.out
            go_wp2_with fail
            go_ret
            exact ⟨rfl, hxwr⟩

set_option maxRecDepth 100000 in
theorem contract (H : Type) (enc : TypeId × Value → H) (W : World) (base : Nat) (args : Array Value) (ds gs : List (DataW H)) (before : List MemPlace)
    (hval0 : ∀ (j : Nat) t v, Tryd.f5.params[j]? = some t → args[j]? = some v → Value.okWide Tryd.prog W .any base t v)
    (hW : DataW.Whole enc Tryd.prog Tryd.f5.params.toList Rows.predtypeValuesSpec.vars false W args.toList ds gs before)
    (hsz0 : (DataW.weightsEach Tryd.prog (Tryd.f5.params.toList ++ (OpenSpec.ofChange Rows.predtypeValuesSpec).bare.plain.varTypes Tryd.prog) (ds ++ gs)).all (· ≤ reachBytes) = true) (hL : laidMetH Tryd.prog Rows.predtypeValuesRow.laid W) :
    Calls Tryd.prog 5 args W fun e W' => ∃ v, e = .returned v ∧ Rows.predtypeValuesSpec.post enc Tryd.prog Tryd.f5 false true false false W args v W' := by
  have hsz1 := hsz0
  have hval := hval0
  clear hsz0
  have hW' := hW
  obtain ⟨p, q, hA0, hV, rfl, hfz, hnd⟩ := hW
  have hA : DataW.TrodAll enc Tryd.prog W 0 (fun _ => true) true Tryd.f5.params.toList args.toList ds p := hA0
  rw [Tryd.params5] at hA hval hsz1
  obtain ⟨v0, vs0, d0, ds0, p0, q0, hargs, rfl, rfl, h0, r0⟩ := trodAll_cons hA
  obtain ⟨v1, vs1, d1, ds1, p1, q1, rfl, rfl, rfl, h1, r1⟩ := trodAll_cons r0
  obtain ⟨v2, vs2, d2, ds2, p2, q2, rfl, rfl, rfl, h2, r2⟩ := trodAll_cons r1
  obtain ⟨rfl, rfl, rfl⟩ := trodAll_nil r2
  obtain rfl : args = #[v0, v1, v2] := by cases args; simp_all
  obtain ⟨rfl, rfl⟩ := trodVars_none hV
  obtain ⟨T0, rfl, hX0⟩ := arg_trace (hval 0 24 v0 rfl rfl) h0 (small_of hsz1 (j := 0) rfl rfl)
  obtain ⟨a1, rfl, rfl, rfl, w1⟩ := open_int Tryd.underlying5 (hval 1 5 v1 rfl rfl) h1
  obtain ⟨a2, rfl, rfl, rfl, w2⟩ := open_int Tryd.underlying5 (hval 2 5 v2 rfl rfl) h2
  clear hA0 hval0 hsz1
  simp only [List.append_nil] at hW'
  have hl0 : ∀ x ∈ p0, x.block < W.heap.size := fun x hx => hW'.lt x (by simp [hx])
  refine (walk T0 a1 a2 W hX0 (u8_range w1) (u8_range w2) (tab_of hL)).mono fun e W' ⟨he, hg⟩ => ?_
  subst he
  exact ⟨_, rfl, post_ext1 (pa := (p0 ++ ([] ++ ([] ++ [])))) (pv := []) hW' (fun _ _ _ => (trodAll_cons_mk (shut_bool Tryd.underlying4 _) trodAll_mk0)) (trodAll_cons_mk (Below.trod laid14 (by kernel_rfl) (of_decide_eq_true (by kernel_rfl)) h0 hg.below hl0) (trodAll_cons_mk (shut_int Tryd.underlying5 w1) (trodAll_cons_mk (shut_int Tryd.underlying5 w2) trodAll_mk0))) rfl hg⟩

abbrev arg0 : Value := .agg #[.slice none 0 0]
abbrev arg1 : Value := .int .u8 0
abbrev arg2 : Value := .int .u8 0
set_option maxRecDepth 100000 in
theorem laid_met (os : Os) : laidMet Tryd.prog Rows.predtypeValuesRow.laid ((laidWorld os).forCall (fun _ _ => 0) ⟨#[], #[arg0, arg1, arg2], []⟩).memory :=
  laidMet_of_run' 8 (by kernel_rfl) (by kernel_rfl)
set_option maxRecDepth 100000 in
theorem reads (os : Os) {H : Type} (enc : TypeId × Value → H) : ∃ d places, DataW.whole enc Tryd.prog ((laidWorld os).forCall (fun _ _ => 0) ⟨#[], #[arg0, arg1, arg2], []⟩).memory Tryd.f5.params.toList Rows.predtypeValuesSpec.vars false #[arg0, arg1, arg2].toList 8 = some (d, [], places) :=
  ⟨[.agg [.nil], .lit (.int .u8 0), .lit (.int .u8 0)], [], by kernel_rfl⟩
set_option maxRecDepth 100000 in
theorem lifted (os : Os) (started : os.Started) (H : Type) (enc : TypeId × Value → H) (F : Stop.Interp) :
    ReturnsInHanded {} Tryd.checked os 5 .any ((OpenSpec.ofChange Rows.predtypeValuesSpec).preRow enc Tryd.prog Tryd.f5 Rows.predtypeValuesRow.domain false Rows.predtypeValuesRow.laid) (((OpenSpec.ofChange Rows.predtypeValuesSpec).at F).post enc Tryd.prog Tryd.f5 false true false false) := by
  obtain ⟨d, places, hx⟩ := reads os enc
  refine returnsInHanded_of_row (C := Tryd.checked) (s := OpenSpec.ofChange Rows.predtypeValuesSpec) own14 started (by kernel_rfl) Tryd.func5
    (witness_row_at (enc := enc) (C := Tryd.checked) false (laidWorld os) #[arg0, arg1, arg2] rfl (by kernel_rfl) (by kernel_rfl) (by kernel_rfl)
      (OpenSpec.preRow_of_cond 8 hx (by kernel_rfl) (fun k hk => by cases hk) (by kernel_rfl) (laid_met os))) ?_
  intro W base args ds gs before hval hW _ _ hsz hL _ _
  exact contract H enc W base args ds gs before hval hW hsz hL

theorem over : Rows.PredtypeValuesSaid :=
  OpenClaim.holds_of_cond 5 Tryd.f5 rfl rfl rfl rfl rfl rfl rfl ⟨rfl, rfl, rfl, rfl, rfl⟩ rfl rfl rfl rfl rfl (by kernel_rfl) Tryd.func5 (by kernel_rfl)
    (of_decide_eq_true (by kernel_rfl)) (by unfold Func.isWrapper; first | (rw [if_pos (by decide +kernel)]; kernel_rfl) | (rw [if_neg (by decide +kernel)]; exact ⟨rfl, rfl⟩))
    (fun os started H enc _ F => by rw [OpenClaim.pre_eq_preRow]; exact lifted os started H enc F)

theorem plain (f : FuncId) (fn : Func) (hf : Tryd.pinned.checked.prog.funcNamed "antecede/antecedelaw28.PredtypeValues" = some f) (hfn : Tryd.pinned.checked.prog.funcs[f]? = some fn) :
    false = Tryd.pinned.checked.prog.looks [] ∧ ∀ (j : Nat) t, fn.params[j]? = some t → Tryd.pinned.checked.prog.wantsStandIn t = false := by
  obtain rfl : f = 5 := Option.some.inj ((show Tryd.prog.funcNamed "antecede/antecedelaw28.PredtypeValues" = some 5 by kernel_rfl).symm.trans hf) |>.symm
  obtain rfl : fn = Tryd.f5 := (Option.some.inj (Tryd.func5.symm.trans hfn)).symm
  refine ⟨by kernel_rfl, fun j t ht => ?_⟩
  rw [Tryd.params5] at ht
  have hm : t = 24 ∨ t = 5 := by simpa using Array.mem_of_getElem? ht
  rcases hm with rfl | rfl
  · exact (show Tryd.prog.wantsStandIn 24 = false by kernel_rfl)
  · exact (show Tryd.prog.wantsStandIn 5 = false by kernel_rfl)

/-- ████ THE STATEMENT ████ -/
theorem proved : Rows.PredtypeValuesCardSaid :=
  Claim7.holds_tied_plain_at .later [] _ _ _ _ over (fun _ h => by cases h) (by kernel_rfl) (fun _ h => by cases h) predtypeValues_row_tie rfl ⟨rfl, rfl⟩ (by kernel_rfl) rfl plain (by kernel_rfl)
#print axioms proved

end Go.Proofs.YtdplphoohnnbcaaDoor.predtypeValues
