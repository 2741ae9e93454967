/- Contract of antecederef12: paired. -/
import Derived.Test.YtdplphoohnnbcaaGreatDoorId
import Derived.Test.YtdplphoohnnbcaaGreatDoorHa
import Derived.Test.YtdplphoohnnbcaaGreatDoorIb
namespace Go.Proofs.YtdplphoohnnbcaaGreatDoor
open Go.RowKit Go.Shelf

/-- all events are formed -/
def Tr.Formed (T : Tr) : Prop := ∀ x : T.Id, FormedP T x.1.1 (T.kind x.1.1 x.1.2) (T.peer x.1.1 x.1.2) (T.msg x.1.1 x.1.2)
theorem Ltr.none_fi {T : Tr} : ∀ (l : List T.Id) (L : Ltr) (m : Nat), (∀ x ∈ l, T.kind x.1.1 x.1.2 = 2 → (T.msg x.1.1 x.1.2).toNat ≠ m) → (l.foldl (Ltr.step T) L).fi m = L.fi m
  | [], _, _, _ => rfl
  | x :: l, L, m, h => by
    rw [List.foldl_cons, Ltr.none_fi l _ m fun y hy => h y (by simp [hy])]
    unfold Ltr.step
    split
    · next hk => show upd L.fi _ _ m = _; unfold upd; rw [if_neg (fun e => h x (by simp) hk e.symm)]
    · split <;> rfl
theorem Ltr.none_ti {T : Tr} : ∀ (l : List T.Id) (L : Ltr) (m : Nat), (∀ x ∈ l, T.kind x.1.1 x.1.2 = 3 → (T.msg x.1.1 x.1.2).toNat ≠ m) → (l.foldl (Ltr.step T) L).ti m = L.ti m
  | [], _, _, _ => rfl
  | x :: l, L, m, h => by
    rw [List.foldl_cons, Ltr.none_ti l _ m fun y hy => h y (by simp [hy])]
    unfold Ltr.step
    split
    · rfl
    · split
      · next hk => show upd L.ti _ _ m = _; unfold upd; rw [if_neg (fun e => h x (by simp) hk e.symm)]
      · rfl
theorem Tr.Formed.nat {T : Tr} (h : T.Formed) (x : T.Id) : ((T.msg x.1.1 x.1.2).toNat : Int) = T.msg x.1.1 x.1.2 := by
  rcases h x with h | h <;> omega
theorem fi_iff {T : Tr} (h : T.Formed) (pre : List T.Id) (x : T.Id) : (Ltr.of T pre).fi (T.msg x.1.1 x.1.2).toNat ≤ 0 ↔ ∀ y ∈ pre, ¬ (T.kind y.1.1 y.1.2 = 2 ∧ T.msg y.1.1 y.1.2 = T.msg x.1.1 x.1.2) := by
  constructor
  · intro hl y hy ⟨h1, h2⟩
    have := Ltr.of_fi h pre Ltr.zero (T.msg x.1.1 x.1.2).toNat (.inr ⟨y, hy, h1, by rw [h2, h.nat x]⟩)
    unfold Ltr.of at hl; omega
  · intro hn
    unfold Ltr.of
    rw [Ltr.none_fi pre Ltr.zero _ fun y hy hk e => hn y hy ⟨hk, by rw [← h.nat y, ← h.nat x, e]⟩]
    exact Int.le_refl _
theorem ti_iff {T : Tr} (h : T.Formed) (pre : List T.Id) (x : T.Id) : (Ltr.of T pre).ti (T.msg x.1.1 x.1.2).toNat ≤ 0 ↔ ∀ y ∈ pre, ¬ (T.kind y.1.1 y.1.2 = 3 ∧ T.msg y.1.1 y.1.2 = T.msg x.1.1 x.1.2) := by
  constructor
  · intro hl y hy ⟨h1, h2⟩
    have := Ltr.of_ti h pre Ltr.zero (T.msg x.1.1 x.1.2).toNat (.inr ⟨y, hy, h1, by rw [h2, h.nat x]⟩)
    unfold Ltr.of at hl; omega
  · intro hn
    unfold Ltr.of
    rw [Ltr.none_ti pre Ltr.zero _ fun y hy hk e => hn y hy ⟨hk, by rw [← h.nat y, ← h.nat x, e]⟩]
    exact Int.le_refl _
theorem first_iff {T : Tr} {kd m : Int} {p i : Nat} (hp : p < T.n) (hi : i < T.en p) (hk : T.kind p i = kd) (hm : T.msg p i = m) :
    T.firstR kd m = evI (p, i) ↔ ∀ y ∈ T.evsTo p i, ¬ (T.kind y.1.1 y.1.2 = kd ∧ T.msg y.1.1 y.1.2 = m) := by
  constructor
  · intro he y hy hh
    obtain ⟨r, hr⟩ := T.evsTo_prefix p i hp (by omega)
    have hs : ((T.evsTo p i).find? (fun x => decide (T.kind x.1.1 x.1.2 = kd ∧ T.msg x.1.1 x.1.2 = m))).isSome = true := by
      rw [List.find?_isSome]; exact ⟨y, hy, by simpa using hh⟩
    obtain ⟨z, hz⟩ := Option.isSome_iff_exists.1 hs
    have hf : T.firstOf kd m = some z := by
      unfold Tr.firstOf; rw [← hr, List.find?_append, hz]; rfl
    unfold Tr.firstR at he
    rw [hf] at he
    have hzi := evI_inj he
    have hmem := Tr.evsTo_mem (List.mem_of_find?_eq_some hz)
    rw [hzi] at hmem
    rcases hmem with h | h
    · exact absurd h (Nat.lt_irrefl _)
    · exact absurd h.2 (Nat.lt_irrefl _)
  · intro hno
    unfold Tr.firstR; rw [T.firstOf_some hp hi hk hm hno]
/-- event i of p is the first of its kind with its number, and what it receives is sent to it -/
def Tr.PairOk (T : Tr) (p i : Nat) : Prop := T.kind p i = 1 ∨ (T.firstR (T.kind p i) (T.msg p i) = evI (p, i) ∧ (T.kind p i = 3 → T.sendsB (T.peer p i).toNat (T.msg p i) p = true))
theorem Tr.pair_iff {T : Tr} (h : T.Formed) {p i : Nat} (hp : p < T.n) (hi : i < T.en p) : T.PairOk p i ↔ T.NoFault (T.evsTo p i) ⟨(p, i), hp, hi⟩ := by
  have hfx := h ⟨(p, i), hp, hi⟩
  have h1 := fi_iff h (T.evsTo p i) ⟨(p, i), hp, hi⟩
  have h2 := ti_iff h (T.evsTo p i) ⟨(p, i), hp, hi⟩
  unfold Tr.PairOk Tr.NoFault
  rcases hfx with hk | hk
  · have hk1 : T.kind p i = 1 := hk.1
    exact ⟨fun _ => ⟨fun h => absurd (hk1.symm.trans h) (by decide), fun h => absurd (hk1.symm.trans h) (by decide)⟩, fun _ => .inl hk1⟩
  · have hne : T.kind p i ≠ 1 := by have : T.kind p i = 2 ∨ T.kind p i = 3 := hk.1; omega
    rcases hk.1 with hk2 | hk3
    · have hk2 : T.kind p i = 2 := hk2
      have hf := first_iff hp hi hk2 rfl
      rw [or_iff_right hne, hk2, hf]
      exact ⟨fun ⟨a, _⟩ => ⟨fun _ => h1.2 a, fun h => absurd h (by decide)⟩, fun ⟨a, _⟩ => ⟨h1.1 (a rfl), fun h => absurd h (by decide)⟩⟩
    · have hk3 : T.kind p i = 3 := hk3
      have hf := first_iff hp hi hk3 rfl
      rw [or_iff_right hne, hk3, hf]
      exact ⟨fun ⟨a, b⟩ => ⟨fun h => absurd h (by decide), fun _ => ⟨h2.2 a, b rfl⟩⟩, fun ⟨_, b⟩ => ⟨h2.1 (b rfl).1, fun _ => (b rfl).2⟩⟩
set_option maxRecDepth 100000 in
set_option maxHeartbeats 2000000 in
theorem rpaired_any (w : World) (T : TM) (hT : T.At w) (hF : T.toTr.Formed) (p i : Nat) (hp : p < T.n) (hi : i < T.en p) :
    Calls Tryz.prog 104 #[T.val, .agg #[.int .i64 p, .int .i64 (i + 1)]] w (ErrPost (T.toTr.PairOk p i) w) := by
  have hn := hT.P.hn
  have pa := hT.P.pa (by omega)
  have pb := hT.P.pb (by omega)
  have p2 := hT.P.p2
  have hAt := fun W (h : Ext w W) => rat_any W T (hT.ext h) p i hp hi
  have hFd := fun kd m W (h : Ext w W) => rfind_any W T (hT.ext h) (by omega) kd m
  simp only [TM.val, pa] at hAt hFd
  have HAt := Lib.hid hAt
  have HFd := Lib.hid hFd
  have HT := Lib.hid hT
  have HFX := Lib.hid (hF ⟨(p, i), hp, hi⟩)
  clear hT hAt hFd hF
  go_enter Tryz.func104, Tryz.ntmps104
  go_upto_region 1 with fail
  refine boxed2 (w := w) (G := fun x => Code.wp _ _ _ _ x) ?_
  intro w1 hx1 hs1 ⟨l0, c0, _, _⟩ ⟨l1, c1, _, _⟩
  have hx11 : Ext w1 w1 := Ext.refl _
  clear hs1
  go_upto_region 2 with (go_at_call 136; refine (HAt.out _ hx1).mono ?_; rintro e w2 ⟨rfl, hx2⟩)
  refine boxed1 (w := w2) (G := fun x => Code.wp _ _ _ _ x) ?_
  intro w3 hx3 hs3 ⟨l3, c3, _, _⟩
  have hx33 : Ext w3 w3 := Ext.refl _
  have hx13 : Ext w1 w3 := hx2.trans hx3
  have hxw3 : Ext w w3 := hx1.trans hx13
  clear hs3
  generalize w2.heap.size = bx at l3 c3 ⊢
  by_cases hk1 : T.kind p i = 1
  · go_wp2_with fail
    go_ret
    exact ErrPost.good (.inl hk1) hxw3
  · have hkb : (T.kind p i == 1) = false := by simpa using hk1
    have hHs := fun W (h : Ext w W) => HFd.out (T.kind p i) (T.msg p i) W h
    obtain ⟨⟨fp, fi⟩, hfr⟩ : ∃ f, f = T.toTr.firstR (T.kind p i) (T.msg p i) := ⟨_, rfl⟩
    rw [← hfr] at hHs
    simp only [evV] at hHs
    have HHs := Lib.hid hHs
    have HFR := Lib.hid hfr
    have hg5 : ∀ d os, Ext w (Sort.grow (redrawn w3 d) os) := fun d os => hxw3.trans (below_regrown w3 d os)
    have hg51 : ∀ d os, Ext w1 (Sort.grow (redrawn w3 d) os) := fun d os => hx13.trans (below_regrown w3 d os)
    have hg53 : ∀ d os, Ext w3 (Sort.grow (redrawn w3 d) os) := fun d os => below_regrown w3 d os
    clear hHs hfr
    by_cases he1 : fp = (p : Int)
    · subst he1
      by_cases he2 : fi = (i : Int) + 1
      · subst he2
        have HEQ := Lib.hid (show T.toTr.firstR (T.kind p i) (T.msg p i) = evI (p, i) from HFR.out.symm)
        go_upto_region 4 with fail
        refine wp_region_quiet_below (by kernel_rfl) (by kernel_rfl) ?_
        repeat (go_big_quiet_step (exact Calls.regrown_of (HHs.out _ (hg5 _ _))))
        refine wpQuiet_nil ?_
        intro _ hw'
        obtain ⟨⟨dq, osq⟩, hw''⟩ := hw'
        subst hw''
        have hx9 : Ext w3 (Sort.grow (redrawn w3 dq) osq) := below_regrown w3 dq osq
        generalize Sort.grow (redrawn w3 dq) osq = w9 at hx9 ⊢
        have hx59 : Ext w w9 := hxw3.trans hx9
        have hx19 : Ext w1 w9 := hx13.trans hx9
        by_cases hk3 : T.kind p i = 3
        · obtain ⟨q, hq⟩ : ∃ q : Nat, T.peer p i = (q : Int) := ⟨(T.peer p i).toNat, by rcases HFX.out with h | h <;> omega⟩
          have hqn : q < T.n := by rcases HFX.out with h | h <;> omega
          have hqn' : (q : Int) < (T.n : Int) := by omega
          have hen := HT.out.E.he q hqn
          have e0 : ∀ w', Ext w w' → ∀ k, k < T.en q → w'.cell? ⟨T.eb q, T.eo q + k * 5, none⟩ = some (.int .i64 (T.kind q k)) := fun w' h k hk => HT.out.E.e0 w' h q k hqn hk
          have e1 : ∀ w', Ext w w' → ∀ k, k < T.en q → w'.cell? ⟨T.eb q, T.eo q + k * 5 + 1, none⟩ = some (.int .i64 (T.peer q k)) := fun w' h k hk => HT.out.E.e1 w' h q k hqn hk
          have e2 : ∀ w', Ext w w' → ∀ k, k < T.en q → w'.cell? ⟨T.eb q, T.eo q + k * 5 + 2, none⟩ = some (.int .i64 (T.msg q k)) := fun w' h k hk => HT.out.E.e2 w' h q k hqn hk
          have e3 : ∀ w', Ext w w' → ∀ k, k < T.en q → w'.cell? ⟨T.eb q, T.eo q + k * 5 + 3, none⟩ = some (.int .i64 (T.time q k)) := fun w' h k hk => HT.out.E.e3 w' h q k hqn hk
          have e4 : ∀ w', Ext w w' → ∀ k, k < T.en q → w'.cell? ⟨T.eb q, T.eo q + k * 5 + 4, none⟩ = some (.slice (T.aa q k) (T.an q k) (T.ac q k)) := fun w' h k hk => HT.out.E.e4 w' h q k hqn hk
          clear HHs hg5 hg51 hg53
          go_wp2_with fail
          go_loopg [7, 6] (T.en q) (fun gg v7 v6 wr => ∃ k : Nat, k ≤ T.en q ∧ gg = T.en q - k ∧ v7 = .int .i64 k ∧ v6 = .bool (anyB (fun j => decide (T.kind q j = 2) && decide (T.msg q j = T.msg p i) && decide (T.peer q j = (p : Int))) k) ∧ Ext w9 wr)
          case atStart => exact ⟨0, by omega, rfl, rfl, rfl, Ext.refl _⟩
          case round =>
            obtain ⟨k, hk, rfl, rfl, hv6, hxr⟩ := hrel
            obtain ⟨b, hb⟩ : ∃ b, b = anyB (fun j => decide (T.kind q j = 2) && decide (T.msg q j = T.msg p i) && decide (T.peer q j = (p : Int))) k := ⟨_, rfl⟩
            rw [← hb] at hv6
            subst hv6
            have HB := Lib.hid hb.symm
            clear hb
            have hxwr := hx59.trans hxr
            have hx1r := hx19.trans hxr
            have hx3r := hx9.trans hxr
            by_cases hlt : k < T.en q
            · have hlt' : (k : Int) < (T.en q : Int) := by omega
              have ea := HT.out.E.ea q hqn (by omega)
              have eb := HT.out.E.eb q hqn (by omega)
              go_upto_region 12 with fail
              refine boxed1 (w := wr) (G := fun x => Code.wp _ _ _ _ x) ?_
              intro w4 hx4 hs4 ⟨l4, c4, _, _⟩
              have hx44 : Ext w4 w4 := Ext.refl _
              have hx14 := hx1r.trans hx4
              have hx34 := hx3r.trans hx4
              have hxr4 := hxr.trans hx4
              clear hs4
              cases b with
              | true =>
                go_wp2_with fail
                go_roundg (T.en q - (k + 1))
                case rel => exact ⟨k + 1, by omega, rfl, by go_num, by rw [anyB, HB.out]; rfl, hxr4⟩
                case measure => omega
              | false =>
                by_cases h2 : T.kind q k = 2
                · by_cases hm : T.msg q k = T.msg p i
                  · have hmb : (T.msg q k == T.msg p i) = true := by simpa using hm
                    by_cases hpe : T.peer q k = (p : Int)
                    · have hpb : (T.peer q k == (p : Int)) = true := by simpa using hpe
                      go_wp2_with fail
                      go_roundg (T.en q - (k + 1))
                      case rel => exact ⟨k + 1, by omega, rfl, by go_num, by rw [anyB, HB.out, decide_eq_true h2, decide_eq_true hm, decide_eq_true hpe]; rfl, hxr4⟩
                      case measure => omega
                    · have hpb : (T.peer q k == (p : Int)) = false := by simpa using hpe
                      go_wp2_with fail
                      go_roundg (T.en q - (k + 1))
                      case rel => exact ⟨k + 1, by omega, rfl, by go_num, by rw [anyB, HB.out, decide_eq_false hpe, Bool.and_false]; rfl, hxr4⟩
                      case measure => omega
                  · have hmb : (T.msg q k == T.msg p i) = false := by simpa using hm
                    go_wp2_with fail
                    go_roundg (T.en q - (k + 1))
                    case rel => exact ⟨k + 1, by omega, rfl, by go_num, by rw [anyB, HB.out, decide_eq_false hm, Bool.and_false, Bool.false_and]; rfl, hxr4⟩
                    case measure => omega
                · have h2b : (T.kind q k == 2) = false := by simpa using h2
                  go_wp2_with fail
                  go_roundg (T.en q - (k + 1))
                  case rel => exact ⟨k + 1, by omega, rfl, by go_num, by rw [anyB, HB.out, decide_eq_false h2, Bool.false_and, Bool.false_and]; rfl, hxr4⟩
                  case measure => omega
            · have hke : k = T.en q := by omega
              subst hke
              have HSB := Lib.hid (show T.toTr.sendsB q (T.msg p i) p = b from HB.out)
              cases b with
              | true =>
                go_wp2_with fail
                go_ret
                exact ErrPost.good (.inr ⟨HEQ.out, fun _ => by rw [hq, Int.toNat_natCast]; exact HSB.out⟩) hxwr
              | false =>
                go_wp2_with fail
                go_ret
                exact ErrPost.bad (by decide) (fun h => by
                  rcases h with h | h
                  · exact hk1 h
                  · have := h.2 hk3; rw [hq, Int.toNat_natCast, HSB.out] at this; cases this) hxwr
        · have hk3b : (T.kind p i == 3) = false := by simpa using hk3
          go_wp2_with fail
          go_ret
          exact ErrPost.good (.inr ⟨HEQ.out, fun h => absurd h hk3⟩) hx59
      · have hb2 : (fi == (i : Int) + 1) = false := by simpa using he2
        go_upto_region 4 with fail
        refine wp_region_quiet_below (by kernel_rfl) (by kernel_rfl) ?_
        repeat (go_big_quiet_step (exact Calls.regrown_of (HHs.out _ (hg5 _ _))))
        refine wpQuiet_nil ?_
        intro _ hw'
        obtain ⟨⟨dq, osq⟩, hw''⟩ := hw'
        subst hw''
        have hx9 : Ext w3 (Sort.grow (redrawn w3 dq) osq) := below_regrown w3 dq osq
        generalize Sort.grow (redrawn w3 dq) osq = w9 at hx9 ⊢
        have hx59 : Ext w w9 := hxw3.trans hx9
        have hx19 : Ext w1 w9 := hx13.trans hx9
        go_wp2_with fail
        go_ret
        exact ErrPost.bad (by decide) (fun h => by
          rcases h with h | h
          · exact hk1 h
          · have := h.1; rw [← HFR.out] at this; simp only [evI, Prod.mk.injEq] at this; exact he2 this.2) hx59
    · have hb1 : (fp == (p : Int)) = false := by simpa using he1
      go_upto_region 4 with fail
      refine wp_region_quiet_below (by kernel_rfl) (by kernel_rfl) ?_
      repeat (go_big_quiet_step (exact Calls.regrown_of (HHs.out _ (hg5 _ _))))
      refine wpQuiet_nil ?_
      intro _ hw'
      obtain ⟨⟨dq, osq⟩, hw''⟩ := hw'
      subst hw''
      have hx9 : Ext w3 (Sort.grow (redrawn w3 dq) osq) := below_regrown w3 dq osq
      generalize Sort.grow (redrawn w3 dq) osq = w9 at hx9 ⊢
      have hx59 : Ext w w9 := hxw3.trans hx9
      have hx19 : Ext w1 w9 := hx13.trans hx9
      go_wp2_with fail
      go_ret
      exact ErrPost.bad (by decide) (fun h => by
        rcases h with h | h
        · exact hk1 h
        · have := h.1; rw [← HFR.out] at this; simp only [evI, Prod.mk.injEq] at this; exact he1 this.1) hx59

end Go.Proofs.YtdplphoohnnbcaaGreatDoor
