/- Contracts: antecederef14.SameInts, SameLists, slices.Equal at EventId. The example of chapter 14: its trace, its stamps, its longest chain, its skipped pairs. Plain. Contracts: antecedelaw14.example and awake. -/
import Derived.Test.YteikcgfnkhoigaaGreatKk
import Derived.Test.YteikcgfnkhoigaaGreatKe
namespace Go.Proofs.YteikcgfnkhoigaaGreat
open Go.RowKit Go.Shelf

/-- a list of numbers lies in memory -/
structure IntAt (w : World) (a : Option Addr) (b off n : Nat) (l : Nat → Int) : Prop where
  hn : n ≤ 140737488355328
  pa : 0 < n → a = some ⟨b, off, none⟩
  pb : 0 < n → ∀ w', Ext w w' → b < w'.heap.size
  p0 : ∀ w', Ext w w' → ∀ k, k < n → w'.cell? ⟨b, off + k, none⟩ = some (.int .i64 (l k))
theorem IntAt.ext {w w' : World} {a : Option Addr} {b off n : Nat} {l : Nat → Int} (h : IntAt w a b off n l) (x : Ext w w') : IntAt w' a b off n l :=
  ⟨h.hn, h.pa, fun h0 w2 y => h.pb h0 w2 (x.trans y), fun w2 y => h.p0 w2 (x.trans y)⟩
theorem MM.At.row {M : MM} {w : World} (h : M.At w) {k : Nat} (hk : k < M.n) : IntAt w (M.ra k) (M.rb k) (M.ro k) (M.rn k) (M.val k) :=
  ⟨h.hr k hk, h.ra k hk, h.rb k hk, fun w' x i hi => h.r0 w' x k i hk hi⟩
set_option maxRecDepth 100000 in
set_option maxHeartbeats 1000000 in
theorem sameInts_any (w : World) (a1 a2 : Option Addr) (b1 b2 o1 o2 n1 n2 c1 c2 : Nat) (l1 l2 : Nat → Int) (h1 : IntAt w a1 b1 o1 n1 l1) (h2 : IntAt w a2 b2 o2 n2 l2) (b : Bool) (hb : b = true ↔ n1 = n2 ∧ ∀ k, k < n1 → l1 k = l2 k) :
    Calls Tryz.prog 132 #[.slice a1 n1 c1, .slice a2 n2 c2] w fun e w' => e = .returned (.bool b) ∧ Ext w w' := by
  have hn1 := h1.hn
  have hn2 := h2.hn
  have H1 := Lib.hid h1
  have H2 := Lib.hid h2
  have HB := Lib.hid hb
  have hww : Ext w w := Ext.refl _
  clear h1 h2 hb
  by_cases hn : n1 = n2
  · subst hn
    go_enter Tryz.func132, Tryz.ntmps132
    go_wp2_with fail
    go_loopg [5] n1 (fun gg v wr => ∃ k : Nat, k ≤ n1 ∧ gg = n1 - k ∧ v = .int .i64 k ∧ Ext w wr ∧ ∀ j, j < k → l1 j = l2 j)
    case atStart => exact ⟨0, by omega, rfl, rfl, hww, fun j hj => by omega⟩
    case round =>
      obtain ⟨k, hk, rfl, rfl, hxr, hall⟩ := hrel
      have HA := Lib.hid hall
      clear hall
      by_cases hlt : k < n1
      · have hlt' : (k : Int) < (n1 : Int) := by omega
        obtain rfl := H1.out.pa (by omega)
        obtain rfl := H2.out.pa (by omega)
        have pb1 := H1.out.pb (by omega)
        have pb2 := H2.out.pb (by omega)
        obtain ⟨x, hx⟩ : ∃ x, x = l1 k := ⟨_, rfl⟩
        obtain ⟨y, hy⟩ : ∃ y, y = l2 k := ⟨_, rfl⟩
        have p1 : ∀ w', Ext w w' → w'.cell? ⟨b1, o1 + k, none⟩ = some (.int .i64 x) := fun w' h => by rw [hx]; exact H1.out.p0 w' h k hlt
        have p2 : ∀ w', Ext w w' → w'.cell? ⟨b2, o2 + k, none⟩ = some (.int .i64 y) := fun w' h => by rw [hy]; exact H2.out.p0 w' h k hlt
        have HX := Lib.hid (And.intro hx hy)
        clear hx hy
        by_cases hxy : x = y
        · subst hxy
          go_upto_region 6 with fail
          go_quiet (fail)
          go_wp2_with fail
          go_roundg (n1 - (k + 1))
          case rel => exact ⟨k + 1, by omega, rfl, by go_num, hxr.drewN _, fun j hj => by
            by_cases e : j = k
            · subst e; exact HX.out.1.symm.trans HX.out.2
            · exact HA.out j (by omega)⟩
          case measure => omega
        · have hxb : (x == y) = false := by simpa using hxy
          obtain rfl : b = false := Bool.eq_false_iff.2 fun h => hxy (by rw [HX.out.1, HX.out.2]; exact (HB.out.1 h).2 k hlt)
          go_upto_region 6 with fail
          go_quiet (fail)
          go_wp2_with fail
          go_ret
          exact ⟨rfl, hxr.drewN _⟩
      · obtain rfl : b = true := HB.out.2 ⟨by first | rfl | trivial, fun j hj => HA.out j (by omega)⟩
        have hke : k = n1 := by omega
        subst hke
        go_wp2_with fail
        go_ret
        exact ⟨rfl, hxr⟩
  · obtain rfl : b = false := Bool.eq_false_iff.2 fun h => hn (HB.out.1 h).1
    have hnb : ((n1 : Int) == (n2 : Int)) = false := by simp; omega
    go_enter Tryz.func132, Tryz.ntmps132
    go_wp2_with fail
    go_ret
    exact ⟨rfl, hww⟩
/-- two matrices are alike -/
def Mx.Alike (M K : Mx) : Prop := M.n = K.n ∧ ∀ k, k < M.n → M.rn k = K.rn k ∧ ∀ i, i < M.rn k → M.val k i = K.val k i
set_option maxRecDepth 100000 in
set_option maxHeartbeats 1000000 in
theorem sameLists_any (w : World) (M K : MM) (hM : M.At w) (hK : K.At w) (b : Bool) (hb : b = true ↔ M.toMx.Alike K.toMx) :
    Calls Tryz.prog 80 #[.slice M.a M.n M.cap, .slice K.a K.n K.cap] w fun e w' => e = .returned (.bool b) ∧ Ext w w' := by
  have hn1 := hM.hn
  have hn2 := hK.hn
  have H1 := Lib.hid hM
  have H2 := Lib.hid hK
  have HB := Lib.hid hb
  have hww : Ext w w := Ext.refl _
  obtain ⟨a1, ha1⟩ : ∃ a, a = M.a := ⟨_, rfl⟩
  obtain ⟨a2, ha2⟩ : ∃ a, a = K.a := ⟨_, rfl⟩
  rw [← ha1, ← ha2]
  have HA1 := Lib.hid ha1
  have HA2 := Lib.hid ha2
  clear hM hK hb ha1 ha2
  by_cases hn : M.n = K.n
  · go_enter Tryz.func80, Tryz.ntmps80
    rw [← hn]
    have HN := Lib.hid hn
    clear hn
    go_wp2_with fail
    go_loopg [5] M.n (fun gg v wr => ∃ k : Nat, k ≤ M.n ∧ gg = M.n - k ∧ v = .int .i64 k ∧ Ext w wr ∧ ∀ j, j < k → M.rn j = K.rn j ∧ ∀ i, i < M.rn j → M.val j i = K.val j i)
    case atStart => exact ⟨0, by omega, rfl, rfl, hww, fun j hj => by omega⟩
    case round =>
      obtain ⟨k, hk, rfl, rfl, hxr, hall⟩ := hrel
      have HA := Lib.hid hall
      clear hall
      by_cases hlt : k < M.n
      · have hlt' : (k : Int) < (M.n : Int) := by omega
        have hltK : k < K.n := by have := HN.out; omega
        obtain rfl : a1 = some ⟨M.b, M.off, none⟩ := by rw [HA1.out]; exact H1.out.pa (by omega)
        obtain rfl : a2 = some ⟨K.b, K.off, none⟩ := by rw [HA2.out]; exact H2.out.pa (by omega)
        have pb1 := H1.out.pb (by omega)
        have pb2 := H2.out.pb (by omega)
        have p1 : ∀ w', Ext w w' → w'.cell? ⟨M.b, M.off + k, none⟩ = some (.slice (M.ra k) (M.rn k) (M.rc k)) := fun w' h => H1.out.p0 w' h k hlt
        have p2 : ∀ w', Ext w w' → w'.cell? ⟨K.b, K.off + k, none⟩ = some (.slice (K.ra k) (K.rn k) (K.rc k)) := fun w' h => H2.out.p0 w' h k hltK
        obtain ⟨c, hc⟩ : ∃ c : Bool, c = true ↔ (M.rn k = K.rn k ∧ ∀ i, i < M.rn k → M.val k i = K.val k i) := by
          by_cases h : M.rn k = K.rn k ∧ ∀ i, i < M.rn k → M.val k i = K.val k i
          · exact ⟨true, fun _ => h, fun _ => rfl⟩
          · exact ⟨false, fun h' => by (cases h'), fun h' => absurd h' h⟩
        have hSI := fun W (x : Ext w W) => sameInts_any W (M.ra k) (K.ra k) (M.rb k) (K.rb k) (M.ro k) (K.ro k) (M.rn k) (K.rn k) (M.rc k) (K.rc k) (M.val k) (K.val k) ((H1.out.ext x).row hlt) ((H2.out.ext x).row hltK) c hc
        have HHs := Lib.hid hSI
        have HC := Lib.hid hc
        have hg5 : ∀ d os, Ext w (Sort.grow (redrawn wr d) os) := fun d os => hxr.trans (below_regrown wr d os)
        clear hSI hc
        cases c with
        | true =>
          have HC2 := Lib.hid (HC.out.1 rfl)
          clear HC
          go_upto_region 6 with fail
          refine wp_region_quiet_below (by kernel_rfl) (by kernel_rfl) ?_
          repeat (go_big_quiet_step (exact Calls.regrown_of (HHs.out _ (hg5 _ _))))
          refine wpQuiet_nil ?_
          intro _ hw'
          obtain ⟨⟨dq, osq⟩, hw''⟩ := hw'
          subst hw''
          have hx9 := below_regrown wr dq osq
          generalize Sort.grow (redrawn wr dq) osq = w9 at hx9 ⊢
          have hx59 : Ext w w9 := hxr.trans hx9
          go_wp2_with fail
          go_roundg (M.n - (k + 1))
          case rel => exact ⟨k + 1, by omega, rfl, by go_num, hx59, fun j hj => by
            by_cases e : j = k
            · subst e; exact HC2.out
            · exact HA.out j (by omega)⟩
          case measure => omega
        | false =>
          obtain rfl : b = false := Bool.eq_false_iff.2 fun h => by
            have := HC.out.2 ((HB.out.1 h).2 k hlt); cases this
          clear HC
          go_upto_region 6 with fail
          refine wp_region_quiet_below (by kernel_rfl) (by kernel_rfl) ?_
          repeat (go_big_quiet_step (exact Calls.regrown_of (HHs.out _ (hg5 _ _))))
          refine wpQuiet_nil ?_
          intro _ hw'
          obtain ⟨⟨dq, osq⟩, hw''⟩ := hw'
          subst hw''
          have hx9 := below_regrown wr dq osq
          generalize Sort.grow (redrawn wr dq) osq = w9 at hx9 ⊢
          have hx59 : Ext w w9 := hxr.trans hx9
          go_wp2_with fail
          go_ret
          exact ⟨rfl, hx59⟩
      · obtain rfl : b = true := HB.out.2 ⟨HN.out, fun j hj => HA.out j (by omega)⟩
        have hke : k = M.n := by omega
        subst hke
        go_wp2_with fail
        go_ret
        exact ⟨rfl, hxr⟩
  · obtain rfl : b = false := Bool.eq_false_iff.2 fun h => hn (HB.out.1 h).1
    have hnb : ((M.n : Int) == (K.n : Int)) = false := by simp; omega
    go_enter Tryz.func80, Tryz.ntmps80
    go_wp2_with fail
    go_ret
    exact ⟨rfl, hww⟩
/-- a list of events lies in memory -/
structure EvAt (w : World) (a : Option Addr) (b n : Nat) (l : Nat → Int × Int) : Prop where
  hn : n ≤ 140737488355328
  pa : 0 < n → a = some ⟨b, 0, none⟩
  pb : 0 < n → ∀ w', Ext w w' → b < w'.heap.size
  p0 : ∀ w', Ext w w' → ∀ k, k < n → w'.cell? ⟨b, k * 2, none⟩ = some (.int .i64 (l k).1)
  p1 : ∀ w', Ext w w' → ∀ k, k < n → w'.cell? ⟨b, k * 2 + 1, none⟩ = some (.int .i64 (l k).2)
set_option maxRecDepth 100000 in
set_option maxHeartbeats 1000000 in
/-- slices.Equal of two lists of events that are alike -/
theorem equalEv_yes (w : World) (a1 a2 : Option Addr) (b1 b2 n c1 c2 : Nat) (l : Nat → Int × Int) (h1 : EvAt w a1 b1 n l) (h2 : EvAt w a2 b2 n l) :
    Calls Tryz.prog 81 #[.slice a1 n c1, .slice a2 n c2] w fun e w' => e = .returned (.bool true) ∧ Ext w w' := by
  have hn1 := h1.hn
  have H1 := Lib.hid h1
  have H2 := Lib.hid h2
  have hww : Ext w w := Ext.refl _
  clear h1 h2
  go_enter Tryz.func81, Tryz.ntmps81
  go_wp2_with fail
  go_loopg [13] n (fun gg v wr => ∃ k : Nat, k ≤ n ∧ gg = n - k ∧ v = .int .i64 k ∧ Ext w wr)
  case atStart => exact ⟨0, by omega, rfl, rfl, hww⟩
  case round =>
    obtain ⟨k, hk, rfl, rfl, hxr⟩ := hrel
    by_cases hlt : k < n
    · have hlt' : (k : Int) < (n : Int) := by omega
      obtain rfl := H1.out.pa (by omega)
      obtain rfl := H2.out.pa (by omega)
      have pb1 := H1.out.pb (by omega)
      have pb2 := H2.out.pb (by omega)
      obtain ⟨x, hx⟩ : ∃ x, x = (l k).1 := ⟨_, rfl⟩
      obtain ⟨y, hy⟩ : ∃ y, y = (l k).2 := ⟨_, rfl⟩
      have p1 : ∀ w', Ext w w' → w'.cell? ⟨b1, k * 2, none⟩ = some (.int .i64 x) := fun w' h => by rw [hx]; exact H1.out.p0 w' h k hlt
      have p2 : ∀ w', Ext w w' → w'.cell? ⟨b1, k * 2 + 1, none⟩ = some (.int .i64 y) := fun w' h => by rw [hy]; exact H1.out.p1 w' h k hlt
      have q1 : ∀ w', Ext w w' → w'.cell? ⟨b2, k * 2, none⟩ = some (.int .i64 x) := fun w' h => by rw [hx]; exact H2.out.p0 w' h k hlt
      have q2 : ∀ w', Ext w w' → w'.cell? ⟨b2, k * 2 + 1, none⟩ = some (.int .i64 y) := fun w' h => by rw [hy]; exact H2.out.p1 w' h k hlt
      clear hx hy
      go_upto_region 6 with fail
      go_quiet (fail)
      go_wp2_with fail
      go_roundg (n - (k + 1))
      case rel => exact ⟨k + 1, by omega, rfl, by go_num, hxr.drewN _⟩
      case measure => omega
    · have hke : k = n := by omega
      subst hke
      go_wp2_with fail
      go_ret
      exact ⟨rfl, hxr⟩

end Go.Proofs.YteikcgfnkhoigaaGreat

namespace Go.Proofs.YteikcgfnkhoigaaGreat

def exTr : Tr where
  n := 2
  name k := if k = 0 then ⟨#[97]⟩ else ⟨#[98]⟩
  vn _ := 0
  vname _ _ := ⟨#[]⟩
  vinit _ _ := 0
  en k := if k = 0 then 1 else 2
  kind k i := if k = 0 then 2 else if i = 0 then 1 else 3
  peer k _ := if k = 0 then 1 else 0
  msg k i := if k = 0 then 5 else if i = 0 then 0 else 5
  time _ _ := 0
  an _ _ := 0
  avar _ _ _ := 0
  aval _ _ _ := 0
theorem two_cases {k : Nat} (h : k < 2) : k = 0 ∨ k = 1 := by omega
def ex0 : exTr.Id := ⟨(0, 0), by decide, by decide⟩
def ex1 : exTr.Id := ⟨(1, 0), by decide, by decide⟩
def ex2 : exTr.Id := ⟨(1, 1), by decide, by decide⟩
theorem ex_evs : exTr.evs = [ex0, ex1, ex2] := by rfl
theorem ex_ind {P : exTr.Id → Prop} (h0 : P ex0) (h1 : P ex1) (h2 : P ex2) : ∀ x, P x := by
  intro x
  have h := evs_all x
  rw [ex_evs] at h
  simp at h
  rcases h with rfl | rfl | rfl
  · exact h0
  · exact h1
  · exact h2
theorem ex_valid : exTr.Valid := by
  refine ⟨by decide, by decide, fun k hk => ?_, fun k i hk hi => ?_, ?_, ?_⟩
  · rcases two_cases hk with rfl | rfl
    · exact ⟨by decide, by decide, by decide, fun i hi => absurd hi (Nat.not_lt_zero _), by decide⟩
    · exact ⟨by decide, by kernel_rfl, by decide, fun i hi => absurd hi (Nat.not_lt_zero _), by decide⟩
  · have hh := ex_ind (P := fun x => exTr.EvOk x.1.1 x.1.2) ⟨by unfold FormedP; decide, by decide, by decide, by decide, fun j hj => absurd hj (Nat.not_lt_zero _)⟩ ⟨by unfold FormedP; decide, by decide, by decide, by decide, fun j hj => absurd hj (Nat.not_lt_zero _)⟩ ⟨by unfold FormedP; decide, by decide, by decide, by decide, fun j hj => absurd hj (Nat.not_lt_zero _)⟩
    exact hh ⟨(k, i), hk, hi⟩
  · rw [ex_evs]
    intro pre x ⟨t, ht⟩
    match pre, ht with
    | [], ht =>
      simp at ht; obtain ⟨rfl, _⟩ := ht
      exact ⟨fun _ => by decide, fun h => by revert h; decide⟩
    | [a], ht =>
      simp at ht; obtain ⟨rfl, rfl, _⟩ := ht
      exact ⟨fun h => by revert h; decide, fun h => by revert h; decide⟩
    | [a, b], ht =>
      simp at ht; obtain ⟨rfl, rfl, rfl, _⟩ := ht
      exact ⟨fun h => by revert h; decide, fun _ => ⟨by decide, by decide⟩⟩
    | a :: b :: c :: r, ht =>
      have := congrArg List.length ht
      simp at this
  · rintro ⟨x, hp⟩
    have h := path_rank (V := exTr.V) (fun z => z.1 + z.2) ?_ x.2 hp
    · exact absurd h.2 (Nat.lt_irrefl _)
    · intro a b ha hb
      have hh := ex_ind (P := fun x => ∀ b, b ∈ exTr.succ (Ltr.of exTr exTr.evs) x.1 → exTr.V b ∧ x.1.1 + x.1.2 < b.1 + b.2) ?_ ?_ ?_ ⟨a, ha⟩ b hb
      · exact hh
      · intro b hb
        have : exTr.succ (Ltr.of exTr exTr.evs) ex0.1 = [(1, 1)] := by rfl
        rw [this] at hb; simp at hb; subst hb; exact ⟨⟨by decide, by decide⟩, by decide⟩
      · intro b hb
        have : exTr.succ (Ltr.of exTr exTr.evs) ex1.1 = [(1, 1)] := by rfl
        rw [this] at hb; simp at hb; subst hb; exact ⟨⟨by decide, by decide⟩, by decide⟩
      · intro b hb
        have : exTr.succ (Ltr.of exTr exTr.evs) ex2.1 = [] := by rfl
        rw [this] at hb; cases hb
theorem ex_snd : exTr.sndN (1, 1) = (0, 0) := by
  have h : exTr.snd ex2 = ex0 := ex_valid.snd_eq ⟨by decide, by decide, by decide⟩
  have := exTr.sndN_eq ex2
  rw [h] at this; exact this
theorem ex_rows {rows : Nat → List Int} (h : exTr.Stamps rows) : rows 0 = [1] ∧ rows 1 = [1, 2] := by
  have l0 := h.len 0 (by decide)
  have l1 := h.len 1 (by decide)
  have e0 := h.eq 0 0 (by decide) (by decide)
  have e1 := h.eq 1 0 (by decide) (by decide)
  have e2 := h.eq 1 1 (by decide) (by decide)
  rw [ex_snd] at e2
  simp [exTr] at e0 e1 e2 l0 l1
  match h0 : rows 0, l0 with
  | [a], _ =>
    match h1 : rows 1, l1 with
    | [b, c], _ =>
      simp [h0] at e0
      simp [h1] at e1
      simp [h0, h1] at e2
      subst e0 e1
      simp at e2
      subst e2
      exact ⟨rfl, rfl⟩
theorem ex_st {rows : Nat → List Int} (h : exTr.Stamps rows) : stOf rows (0, 0) = 1 ∧ stOf rows (1, 0) = 1 ∧ stOf rows (1, 1) = 2 := by
  obtain ⟨h0, h1⟩ := ex_rows h
  unfold stOf
  simp [h0, h1]
theorem ex_prv {rows : Nat → List Int} (h : exTr.Stamps rows) : exTr.prvN rows (1, 1) 0 = (1, 1) ∧ exTr.prvN rows (1, 1) 1 = (1, 0) := by
  obtain ⟨_, h1, h2⟩ := ex_st h
  refine ⟨rfl, ?_⟩
  show exTr.prv rows (1, 1) = _
  unfold Tr.prv
  rw [if_pos ⟨by decide, by rw [h2]; show stOf rows (1, 0) = _; rw [h1]; rfl⟩]
  rfl
theorem ex_skip {rows : Nat → List Int} (h : exTr.Stamps rows) : exTr.skipN rows = 0 := by
  obtain ⟨h0, h1, h2⟩ := ex_st h
  have n0 : exTr.evN 0 = (0, 0) := rfl
  have n1 : exTr.evN 1 = (1, 0) := rfl
  have n2 : exTr.evN 2 = (1, 1) := rfl
  have b1 : exTr.bef 0 2 := ⟨by rw [n0, n2]; decide, by rw [n0, n2]; exact .step .self (.inr ⟨by decide, ex_snd.symm⟩)⟩
  have b2 : exTr.bef 1 2 := ⟨by rw [n1, n2]; decide, by rw [n1, n2]; exact .step .self (.inl ⟨rfl, rfl⟩)⟩
  have key : ∀ x y, x < 3 → y < 3 → exTr.sk rows x y = 0 := by
    intro x y hx hy
    refine Tr.sk_no fun ⟨ha, hb⟩ => ?_
    have hxs : x = 0 ∨ x = 1 ∨ x = 2 := by omega
    have hys : y = 0 ∨ y = 1 ∨ y = 2 := by omega
    rcases hxs with rfl | rfl | rfl <;> rcases hys with rfl | rfl | rfl <;> first | exact hb b1 | exact hb b2 | (simp only [n0, n1, n2, h0, h1, h2] at ha; omega)
  have hl : exTr.evs.length = 3 := rfl
  unfold Tr.skipN
  rw [hl]
  simp only [tot, key 0 0, key 0 1, key 0 2, key 1 0, key 1 1, key 1 2, key 2 0, key 2 1, key 2 2, Nat.lt_add_one, Nat.reduceLT, Nat.add_zero]
end Go.Proofs.YteikcgfnkhoigaaGreat

namespace Go.Proofs.YteikcgfnkhoigaaGreat
open Go.RowKit Go.Shelf

/-- the example in memory: g0, g1: the events of the two processes; gp: the processes -/
def exTM (g0 g1 gp : Nat) : TM :=
  { exTr with
    a := some ⟨gp, 0, none⟩, b := gp, off := 0, cap := 2
    va := fun _ => none, vb := fun _ => 0, vo := fun _ => 0, vc := fun _ => 0
    ea := fun k => if k = 0 then some ⟨g0, 0, none⟩ else some ⟨g1, 0, none⟩, eb := fun k => if k = 0 then g0 else g1, eo := fun _ => 0, ec := fun k => if k = 0 then 1 else 2
    aa := fun _ _ => none, ab := fun _ _ => 0, ao := fun _ _ => 0, ac := fun _ _ => 0 }
theorem okI_lit : okI 0 ∧ okI 1 ∧ okI 2 ∧ okI 3 ∧ okI 5 := by unfold okI; decide
theorem exTM_at {g0 g1 gp : Nat} {w : World}
    (h0 : Hold w g0 #[.int .i64 2, .int .i64 1, .int .i64 5, .int .i64 0, .slice none 0 0])
    (h1 : Hold w g1 #[.int .i64 1, .int .i64 0, .int .i64 0, .int .i64 0, .slice none 0 0, .int .i64 3, .int .i64 0, .int .i64 5, .int .i64 0, .slice none 0 0])
    (hp : Hold w gp #[.string ⟨#[97]⟩, .slice none 0 0, .slice (some ⟨g0, 0, none⟩) 1 1, .string ⟨#[98]⟩, .slice none 0 0, .slice (some ⟨g1, 0, none⟩) 2 2]) : (exTM g0 g1 gp).At w := by
  have b0 := h0.box
  have b1 := h1.box
  have bp := hp.box
  have hen : ∀ k, k < 2 → ∀ i, i < (exTM g0 g1 gp).en k → (k = 0 ∧ i = 0) ∨ (k = 1 ∧ i = 0) ∨ (k = 1 ∧ i = 1) := by
    intro k hk i hi
    rcases two_cases hk with rfl | rfl
    · have : i < 1 := hi
      left; exact ⟨rfl, by omega⟩
    · have : i < 2 := hi
      right; omega
  refine ⟨⟨by show (2 : Nat) ≤ _; decide, by show (2 : Nat) ≤ 2; decide, fun _ => rfl, fun _ => bp.lt, ?_, ?_, ?_⟩, ⟨fun _ _ => by show (0 : Nat) ≤ _; decide, fun _ _ => Nat.le_refl _, fun _ _ h => absurd h (Nat.not_lt_zero _), fun _ _ h => absurd h (Nat.not_lt_zero _), fun _ _ _ _ _ h => absurd h (Nat.not_lt_zero _), fun _ _ _ _ _ h => absurd h (Nat.not_lt_zero _)⟩,
    ⟨?_, ?_, ?_, ?_, ?_, ?_, ?_, ?_, ?_⟩, ⟨fun _ _ _ _ => by show (0 : Nat) ≤ _; decide, fun _ _ _ _ => Nat.le_refl _, fun _ _ _ _ h => absurd h (Nat.not_lt_zero _), fun _ _ _ _ h => absurd h (Nat.not_lt_zero _), fun _ _ _ _ _ _ _ h => absurd h (Nat.not_lt_zero _), fun _ _ _ _ _ _ _ h => absurd h (Nat.not_lt_zero _)⟩, ?_⟩
  · intro w' x k hk
    rcases two_cases hk with rfl | rfl
    · exact bp.cell w' x 0
    · exact bp.cell w' x 3
  · intro w' x k hk
    rcases two_cases hk with rfl | rfl
    · exact bp.cell w' x 1
    · exact bp.cell w' x 4
  · intro w' x k hk
    rcases two_cases hk with rfl | rfl
    · exact bp.cell w' x 2
    · exact bp.cell w' x 5
  · intro k hk
    rcases two_cases hk with rfl | rfl
    · show (1 : Nat) ≤ _; decide
    · show (2 : Nat) ≤ _; decide
  · intro k hk
    rcases two_cases hk with rfl | rfl
    · exact Nat.le_refl _
    · exact Nat.le_refl _
  · intro k hk _
    rcases two_cases hk with rfl | rfl <;> rfl
  · intro k hk _
    rcases two_cases hk with rfl | rfl
    · exact b0.lt
    · exact b1.lt
  · intro w' x k i hk hi
    rcases hen k hk i hi with ⟨rfl, rfl⟩ | ⟨rfl, rfl⟩ | ⟨rfl, rfl⟩
    · exact b0.cell w' x 0
    · exact b1.cell w' x 0
    · exact b1.cell w' x 5
  · intro w' x k i hk hi
    rcases hen k hk i hi with ⟨rfl, rfl⟩ | ⟨rfl, rfl⟩ | ⟨rfl, rfl⟩
    · exact b0.cell w' x 1
    · exact b1.cell w' x 1
    · exact b1.cell w' x 6
  · intro w' x k i hk hi
    rcases hen k hk i hi with ⟨rfl, rfl⟩ | ⟨rfl, rfl⟩ | ⟨rfl, rfl⟩
    · exact b0.cell w' x 2
    · exact b1.cell w' x 2
    · exact b1.cell w' x 7
  · intro w' x k i hk hi
    rcases hen k hk i hi with ⟨rfl, rfl⟩ | ⟨rfl, rfl⟩ | ⟨rfl, rfl⟩
    · exact b0.cell w' x 3
    · exact b1.cell w' x 3
    · exact b1.cell w' x 8
  · intro w' x k i hk hi
    rcases hen k hk i hi with ⟨rfl, rfl⟩ | ⟨rfl, rfl⟩ | ⟨rfl, rfl⟩
    · exact b0.cell w' x 4
    · exact b1.cell w' x 4
    · exact b1.cell w' x 9
  · refine ⟨fun k hk => ?_, fun _ _ _ h => absurd h (Nat.not_lt_zero _), fun _ _ _ h => absurd h (Nat.not_lt_zero _), fun k i hk hi => ?_, fun k i hk hi => ?_, fun k i hk hi => ?_, fun _ _ _ _ => okI_lit.1, fun _ _ _ _ _ h => absurd h (Nat.not_lt_zero _), fun _ _ _ _ _ h => absurd h (Nat.not_lt_zero _)⟩
    · rcases two_cases hk with rfl | rfl
      · show (1 : Nat) ≤ _; decide
      · show (1 : Nat) ≤ _; decide
    · rcases hen k hk i hi with ⟨rfl, rfl⟩ | ⟨rfl, rfl⟩ | ⟨rfl, rfl⟩ <;> first | exact okI_lit.1 | exact okI_lit.2.1 | exact okI_lit.2.2.1 | exact okI_lit.2.2.2.1 | exact okI_lit.2.2.2.2
    · rcases hen k hk i hi with ⟨rfl, rfl⟩ | ⟨rfl, rfl⟩ | ⟨rfl, rfl⟩ <;> first | exact okI_lit.1 | exact okI_lit.2.1 | exact okI_lit.2.2.1 | exact okI_lit.2.2.2.1 | exact okI_lit.2.2.2.2
    · rcases hen k hk i hi with ⟨rfl, rfl⟩ | ⟨rfl, rfl⟩ | ⟨rfl, rfl⟩ <;> first | exact okI_lit.1 | exact okI_lit.2.1 | exact okI_lit.2.2.1 | exact okI_lit.2.2.2.1 | exact okI_lit.2.2.2.2
theorem example_results (tmps : Array Value) (W : World) (b : Nat) (x : Value) (t0 : tmps[0]? = some (.pointer (some ⟨b, 0, none⟩))) (c : W.cell? ⟨b, 0, none⟩ = some x) :
    (results Tryz.f79 tmps).run Tryz.prog W = .ok (.agg #[x]) W := by
  simp [results, go_sem, t0, c]
set_option maxRecDepth 100000 in
set_option maxHeartbeats 1000000 in
theorem example_any (w : World) :
    Calls Tryz.prog 79 #[] w fun e w' => Ext w w' ∧ ∃ g0 g1 gp, e = .returned (.agg #[.slice (some ⟨gp, 0, none⟩) 2 2]) ∧ (exTM g0 g1 gp).At w' := by
  go_enter Tryz.func79, Tryz.ntmps79
  go_wp2_with fail
  refine boxed4 (w := w) (G := fun x => bodyPost _ _ _ _ _ x) ?_
  intro w1 hx1 hs1 b0 b1 b2 b3
  refine bodyPost_ret (example_results _ _ _ _ rfl (b0.cell w1 (Ext.refl _) 0)) rfl ?_
  exact ⟨hx1, _, _, _, rfl, exTM_at b1.hold b2.hold b3.hold⟩
/-- the literal of the example's stamps -/
def exMM (h0 h1 hp : Nat) : MM :=
  { n := 2, rn := fun k => if k = 0 then 1 else 2, val := fun k i => if k = 0 then 1 else (i : Int) + 1, a := some ⟨hp, 0, none⟩, b := hp, off := 0, cap := 2
    ra := fun k => if k = 0 then some ⟨h0, 0, none⟩ else some ⟨h1, 0, none⟩, rb := fun k => if k = 0 then h0 else h1, ro := fun _ => 0, rc := fun k => if k = 0 then 1 else 2 }
theorem exMM_at {h0 h1 hp : Nat} {w : World} (b0 : Box w h0 #[.int .i64 1]) (b1 : Box w h1 #[.int .i64 1, .int .i64 2]) (bp : Box w hp #[.slice (some ⟨h0, 0, none⟩) 1 1, .slice (some ⟨h1, 0, none⟩) 2 2]) : (exMM h0 h1 hp).At w := by
  have hen : ∀ k, k < 2 → ∀ i, i < (exMM h0 h1 hp).rn k → (k = 0 ∧ i = 0) ∨ (k = 1 ∧ i = 0) ∨ (k = 1 ∧ i = 1) := by
    intro k hk i hi
    rcases two_cases hk with rfl | rfl
    · have : i < 1 := hi
      left; exact ⟨rfl, by omega⟩
    · have : i < 2 := hi
      right; omega
  refine ⟨by show (2 : Nat) ≤ _; decide, fun _ => rfl, fun _ => bp.lt, ?_, ?_, ?_, ?_, ?_⟩
  · intro w' x k hk
    rcases two_cases hk with rfl | rfl
    · exact bp.cell w' x 0
    · exact bp.cell w' x 1
  · intro k hk
    rcases two_cases hk with rfl | rfl
    · show (1 : Nat) ≤ _; decide
    · show (2 : Nat) ≤ _; decide
  · intro k hk _
    rcases two_cases hk with rfl | rfl <;> rfl
  · intro k hk _
    rcases two_cases hk with rfl | rfl
    · exact b0.lt
    · exact b1.lt
  · intro w' x k i hk hi
    rcases hen k hk i hi with ⟨rfl, rfl⟩ | ⟨rfl, rfl⟩ | ⟨rfl, rfl⟩
    · exact b0.cell w' x 0
    · exact b1.cell w' x 0
    · exact b1.cell w' x 1
theorem ex_alike {bS cap h0 h1 hp : Nat} {rows : Nat → List Int} {vs : Nat → Value} (h : exTr.Stamps rows) : (stMM bS 2 cap rows vs).toMx.Alike (exMM h0 h1 hp).toMx := by
  obtain ⟨e0, e1⟩ := ex_rows h
  refine ⟨rfl, fun k hk => ?_⟩
  rcases two_cases hk with rfl | rfl
  · refine ⟨by show (rows 0).length = 1; rw [e0]; rfl, fun i hi => ?_⟩
    have hi' : i < (rows 0).length := hi
    rw [e0] at hi'
    obtain rfl : i = 0 := by simp at hi'; exact hi'
    show (rows 0).getD 0 0 = 1
    rw [e0]; rfl
  · refine ⟨by show (rows 1).length = 2; rw [e1]; rfl, fun i hi => ?_⟩
    have hi' : i < (rows 1).length := hi
    rw [e1] at hi'
    have : i = 0 ∨ i = 1 := by simp at hi'; omega
    rcases this with rfl | rfl
    · show (rows 1).getD 0 0 = _
      rw [e1]; rfl
    · show (rows 1).getD 1 0 = _
      rw [e1]; rfl
theorem exTM_en {g0 g1 gp : Nat} : ∀ k, k < (exTM g0 g1 gp).n → (exTM g0 g1 gp).en k ≤ 1000000 := by
  intro k hk
  rcases two_cases hk with rfl | rfl
  · show (1 : Nat) ≤ _; decide
  · show (2 : Nat) ≤ _; decide
def exEv (k : Nat) : Int × Int := if k = 0 then (1, 1) else (1, 2)
theorem stamps_ex (W : World) (g0 g1 gp : Nat) (hT : (exTM g0 g1 gp).At W) :
    Calls Tryz.prog 45 #[.agg #[.slice (some ⟨gp, 0, none⟩) 2 2]] W fun e w' => ∃ base cap rows vs, e = .returned (.tuple #[.slice (some ⟨base, 0, none⟩) 2 cap, .int .i64 0]) ∧ StS base base 2 rows vs w' ∧ exTr.Stamps rows ∧ Ext W w' :=
  Calls.mono (stamps_yes W (exTM g0 g1 gp) hT ex_valid exTM_en) fun e w' ⟨hx, h⟩ => by
    rcases h with ⟨h, _⟩ | ⟨_, base, cap, rows, vs, h1, h2, h3, h4⟩
    · exact absurd ex_valid h
    · exact ⟨base, cap, rows, vs, h2, h3, h4, hx⟩
theorem longest_ex (W : World) (g0 g1 gp : Nat) (hT : (exTM g0 g1 gp).At W) :
    Calls Tryz.prog 36 #[.agg #[.slice (some ⟨gp, 0, none⟩) 2 2], .agg #[.int .i64 1, .int .i64 2]] W fun e w' => ∃ g cap, e = .returned (.tuple #[.slice (some ⟨g, 0, none⟩) 2 cap, .int .i64 0]) ∧ g < w'.heap.size ∧ EvRow w' g 2 exEv ∧ Ext W w' :=
  Calls.mono (longest_yes W (exTM g0 g1 gp) hT ex_valid exTM_en (1, 1) ⟨by show (1 : Nat) < 2; decide, by show (1 : Nat) < 2; decide⟩) fun e w' ⟨hx, h⟩ => by
    rcases h with ⟨h, _⟩ | ⟨_, h, _⟩ | ⟨_, rows, x, g, cap, h1, h2, h3, h4, h5, h6, h7⟩
    · exact absurd ex_valid h
    · exact absurd ⟨by decide, by show (1 : Int) < 2; decide, by decide, by show (2 : Int) ≤ 2; decide⟩ h
    · obtain ⟨xp, xi⟩ := x
      obtain ⟨rfl, rfl⟩ : xp = 1 ∧ xi = 1 := by
        have e1 : (1 : Int) = xp := h3
        have e2 : (1 : Int) + 1 = xi + 1 := h4
        exact ⟨by omega, by omega⟩
      have hst : (stOf rows (1, 1)).toNat = 2 := by rw [(ex_st h1).2.2]; rfl
      have hp := ex_prv h1
      rw [hst] at h6 h7
      refine ⟨g, cap, h6, ?_, ⟨fun k hk => ?_, fun k hk => ?_, h7.fr⟩, hx⟩
      · exact cell_lt (h7.c0 0 (by omega))
      · have := h7.c0 k hk
        rcases two_cases hk with rfl | rfl
        · rw [this]; show some (Value.int .i64 (evI (exTr.prvN rows (1, 1) 1)).1) = _; rw [hp.2]; rfl
        · rw [this]; show some (Value.int .i64 (evI (exTr.prvN rows (1, 1) 0)).1) = _; rw [hp.1]; rfl
      · have := h7.c1 k hk
        rcases two_cases hk with rfl | rfl
        · rw [this]; show some (Value.int .i64 (evI (exTr.prvN rows (1, 1) 1)).2) = _; rw [hp.2]; rfl
        · rw [this]; show some (Value.int .i64 (evI (exTr.prvN rows (1, 1) 0)).2) = _; rw [hp.1]; rfl
theorem skipped_ex (W : World) (g0 g1 gp : Nat) (hT : (exTM g0 g1 gp).At W) :
    Calls Tryz.prog 37 #[.agg #[.slice (some ⟨gp, 0, none⟩) 2 2]] W fun e w' => e = .returned (.tuple #[.int .i64 0, .int .i64 0]) ∧ Ext W w' :=
  Calls.mono (skipped_yes W (exTM g0 g1 gp) hT ex_valid (by show (3 : Nat) ≤ 100; decide)) fun e w' ⟨hx, h⟩ => by
    rcases h with ⟨h, _⟩ | ⟨_, rows, h1, h2⟩
    · exact absurd ex_valid h
    · refine ⟨?_, hx⟩
      rw [h2]
      show Ending.returned (.tuple #[.int .i64 ((exTr.skipN rows : Nat) : Int), .int .i64 0]) = _
      rw [ex_skip h1]; rfl
theorem three_boxes {w : World} {c d e : Array Value} {t1 t2 t3 : TypeId} : Box (((w.alloc (.cells c t1)).alloc (.cells d t2)).alloc (.cells e t3)) w.heap.size c ∧ Box (((w.alloc (.cells c t1)).alloc (.cells d t2)).alloc (.cells e t3)) (w.heap.size + 1) d ∧ Box (((w.alloc (.cells c t1)).alloc (.cells d t2)).alloc (.cells e t3)) (w.heap.size + 1 + 1) e :=
  boxed3 (w := w) (G := fun W => Box W w.heap.size c ∧ Box W (w.heap.size + 1) d ∧ Box W (w.heap.size + 1 + 1) e) fun _ _ _ a b c => ⟨a, b, c⟩
theorem EvRow.at {w : World} {g n : Nat} {l : Nat → Int × Int} (h : EvRow w g n l) (hl : g < w.heap.size) (hn : n ≤ 1000) : EvAt w (some ⟨g, 0, none⟩) g n l :=
  ⟨by omega, fun _ => rfl, fun _ w' x => Nat.lt_of_lt_of_le hl x.le, fun w' x k hk => x.cell (h.c0 k hk), fun w' x k hk => x.cell (h.c1 k hk)⟩
theorem EvAt.ext {w w' : World} {a : Option Addr} {b n : Nat} {l : Nat → Int × Int} (h : EvAt w a b n l) (x : Ext w w') : EvAt w' a b n l :=
  ⟨h.hn, h.pa, fun h0 w2 y => h.pb h0 w2 (x.trans y), fun w2 y => h.p0 w2 (x.trans y), fun w2 y => h.p1 w2 (x.trans y)⟩
theorem exEv_at {w : World} {g : Nat} (b : Box w g #[.int .i64 1, .int .i64 1, .int .i64 1, .int .i64 2]) : EvAt w (some ⟨g, 0, none⟩) g 2 exEv := by
  refine ⟨by decide, fun _ => rfl, fun _ => b.lt, fun w' x k hk => ?_, fun w' x k hk => ?_⟩
  · rcases two_cases hk with rfl | rfl
    · exact b.cell w' x 0
    · exact b.cell w' x 2
  · rcases two_cases hk with rfl | rfl
    · exact b.cell w' x 1
    · exact b.cell w' x 3
set_option maxRecDepth 100000 in
set_option maxHeartbeats 2000000 in
theorem awake_any (w : World) :
    Calls Tryz.prog 33 #[] w fun e w' => e = .returned (.bool true) ∧ Ext w w' := by
  go_enter Tryz.func33, Tryz.ntmps33
  go_upto_region 2 with (first | (go_at_call 79; refine (example_any _).mono ?_; rintro e w1 ⟨hx1, g0, g1, gp, rfl, hT1⟩; have HT1 := Lib.hid hT1; clear hT1) | (go_at_call 45; refine (stamps_ex _ g0 g1 gp HT1.out).mono ?_; rintro e w2 ⟨base, cap, rows, vs, rfl, hs2, hst2, hx2⟩; have HS := Lib.hid (And.intro hs2 hst2); clear hs2 hst2))
  go_upto_region 3 with (first | (go_at_call 79; refine (example_any _).mono ?_; rintro e w3 ⟨hx3, g2, g3, gq, rfl, hT3⟩; have HT3 := Lib.hid hT3; clear hT3) | (go_at_call 36; refine (longest_ex _ g2 g3 gq HT3.out).mono ?_; rintro e w4 ⟨lg, lcap, rfl, hll, hlr, hx4⟩; have HL := Lib.hid (hlr.at hll (by decide)); clear hll hlr))
  go_upto_region 4 with (first | (go_at_call 79; refine (example_any _).mono ?_; rintro e w5 ⟨hx5, g4, g5, gr, rfl, hT5⟩; have HT5 := Lib.hid hT5; clear hT5) | (go_at_call 37; refine (skipped_ex _ g4 g5 gr HT5.out).mono ?_; rintro e w6 ⟨rfl, hx6⟩))
  have hx26 : Ext w2 w6 := hx3.trans (hx4.trans (hx5.trans hx6))
  have hx46 : Ext w4 w6 := hx5.trans hx6
  have hxw6 : Ext w w6 := hx1.trans (hx2.trans hx26)
  go_wp2_with (first | (go_at_call 80; refine (sameLists_any _ (stMM base 2 cap rows vs) (exMM _ _ _) ((HS.out.1.mm (cap := cap)).ext (((hx26.alloc' _).alloc' _).alloc' _)) (exMM_at three_boxes.1 three_boxes.2.1 three_boxes.2.2) true ⟨fun _ => ex_alike HS.out.2, fun _ => rfl⟩).mono ?_; rintro e w7 ⟨rfl, hx7⟩) | (go_at_call 81; refine (equalEv_yes _ _ _ _ _ 2 _ _ exEv (HL.out.ext (Ext.trans hx46 (Ext.trans (Ext.alloc' (Ext.alloc' (Ext.alloc _ _) _) _) (Ext.alloc' hx7 _)))) (exEv_at (Hold.new _ _ _).box)).mono ?_; rintro e w8 ⟨rfl, hx8⟩))
  go_ret
  exact ⟨rfl, Ext.trans hxw6 (Ext.trans (Ext.alloc' (Ext.alloc' (Ext.alloc _ _) _) _) (Ext.trans (Ext.alloc' hx7 _) hx8))⟩

end Go.Proofs.YteikcgfnkhoigaaGreat
