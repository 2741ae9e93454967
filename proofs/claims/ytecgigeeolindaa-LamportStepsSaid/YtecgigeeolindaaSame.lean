/- Contracts: antecederef14.SameInts, SameLists, slices.Equal at EventId. -/
import Derived.Test.YtecgigeeolindaaSkip
namespace Go.Proofs.Ytecgigeeolindaa
open Go.RowKit Go.Shelf

/-- a list of numbers lies in memory -/
structure IntAt (w : World) (a : Option Addr) (b off n : Nat) (l : Nat → Int) : Prop where
  hn : n ≤ 140737488355328
  pa : 0 < n → a = some ⟨b, off, none⟩
  pb : 0 < n → ∀ w', Ext w w' → b < w'.heap.size
  p0 : ∀ w', Ext w w' → ∀ k, k < n → w'.cell? ⟨b, off + k, none⟩ = some (.int .i64 (l k))
theorem IntAt.ext {w w' : World} {a : Option Addr} {b off n : Nat} {l : Nat → Int} (h : IntAt w a b off n l) (x : Ext w w') : IntAt w' a b off n l :=
  ⟨h.hn, h.pa, fun h0 w2 y => h.pb h0 w2 (x.trans y), fun w2 y => h.p0 w2 (x.trans y)⟩
theorem MM.At.row {M : MM} {w : World} (h : M.At w) {k : Nat} (hk : k < M.n) : IntAt w (M.ra k) (M.rb k) (M.ro k) (M.rn k) (M.val k) :=
  ⟨h.hr k hk, h.ra k hk, h.rb k hk, fun w' x i hi => h.r0 w' x k i hk hi⟩
set_option maxRecDepth 100000 in
set_option maxHeartbeats 1000000 in
theorem sameInts_any (w : World) (a1 a2 : Option Addr) (b1 b2 o1 o2 n1 n2 c1 c2 : Nat) (l1 l2 : Nat → Int) (h1 : IntAt w a1 b1 o1 n1 l1) (h2 : IntAt w a2 b2 o2 n2 l2) (b : Bool) (hb : b = true ↔ n1 = n2 ∧ ∀ k, k < n1 → l1 k = l2 k) :
    Calls Try.prog 45 #[.slice a1 n1 c1, .slice a2 n2 c2] w fun e w' => e = .returned (.bool b) ∧ Ext w w' := by
  have hn1 := h1.hn
  have hn2 := h2.hn
  have H1 := Lib.hid h1
  have H2 := Lib.hid h2
  have HB := Lib.hid hb
  have hww : Ext w w := Ext.refl _
  clear h1 h2 hb
  by_cases hn : n1 = n2
  · subst hn
    go_enter Try.func45, Try.ntmps45
    go_wp2_with fail
    go_loopg [5] n1 (fun gg v wr => ∃ k : Nat, k ≤ n1 ∧ gg = n1 - k ∧ v = .int .i64 k ∧ Ext w wr ∧ ∀ j, j < k → l1 j = l2 j)
    case atStart => exact ⟨0, by omega, rfl, rfl, hww, fun j hj => by omega⟩
    case round =>
      obtain ⟨k, hk, rfl, rfl, hxr, hall⟩ := hrel
      have HA := Lib.hid hall
      clear hall
      by_cases hlt : k < n1
      · have hlt' : (k : Int) < (n1 : Int) := by omega
        obtain rfl := H1.out.pa (by omega)
        obtain rfl := H2.out.pa (by omega)
        have pb1 := H1.out.pb (by omega)
        have pb2 := H2.out.pb (by omega)
        obtain ⟨x, hx⟩ : ∃ x, x = l1 k := ⟨_, rfl⟩
        obtain ⟨y, hy⟩ : ∃ y, y = l2 k := ⟨_, rfl⟩
        have p1 : ∀ w', Ext w w' → w'.cell? ⟨b1, o1 + k, none⟩ = some (.int .i64 x) := fun w' h => by rw [hx]; exact H1.out.p0 w' h k hlt
        have p2 : ∀ w', Ext w w' → w'.cell? ⟨b2, o2 + k, none⟩ = some (.int .i64 y) := fun w' h => by rw [hy]; exact H2.out.p0 w' h k hlt
        have HX := Lib.hid (And.intro hx hy)
        clear hx hy
        by_cases hxy : x = y
        · subst hxy
          go_upto_region 6 with fail
          go_quiet (fail)
          go_wp2_with fail
          go_roundg (n1 - (k + 1))
          case rel => exact ⟨k + 1, by omega, rfl, by go_num, hxr.drewN _, fun j hj => by
            by_cases e : j = k
            · subst e; exact HX.out.1.symm.trans HX.out.2
            · exact HA.out j (by omega)⟩
          case measure => omega
        · have hxb : (x == y) = false := by simpa using hxy
          obtain rfl : b = false := Bool.eq_false_iff.2 fun h => hxy (by rw [HX.out.1, HX.out.2]; exact (HB.out.1 h).2 k hlt)
          go_upto_region 6 with fail
          go_quiet (fail)
          go_wp2_with fail
          go_ret
          exact ⟨rfl, hxr.drewN _⟩
      · obtain rfl : b = true := HB.out.2 ⟨by first | rfl | trivial, fun j hj => HA.out j (by omega)⟩
        have hke : k = n1 := by omega
        subst hke
        go_wp2_with fail
        go_ret
        exact ⟨rfl, hxr⟩
  · obtain rfl : b = false := Bool.eq_false_iff.2 fun h => hn (HB.out.1 h).1
    have hnb : ((n1 : Int) == (n2 : Int)) = false := by simp; omega
    go_enter Try.func45, Try.ntmps45
    go_wp2_with fail
    go_ret
    exact ⟨rfl, hww⟩
/-- two matrices are alike -/
def Mx.Alike (M K : Mx) : Prop := M.n = K.n ∧ ∀ k, k < M.n → M.rn k = K.rn k ∧ ∀ i, i < M.rn k → M.val k i = K.val k i
set_option maxRecDepth 100000 in
set_option maxHeartbeats 1000000 in
theorem sameLists_any (w : World) (M K : MM) (hM : M.At w) (hK : K.At w) (b : Bool) (hb : b = true ↔ M.toMx.Alike K.toMx) :
    Calls Try.prog 19 #[.slice M.a M.n M.cap, .slice K.a K.n K.cap] w fun e w' => e = .returned (.bool b) ∧ Ext w w' := by
  have hn1 := hM.hn
  have hn2 := hK.hn
  have H1 := Lib.hid hM
  have H2 := Lib.hid hK
  have HB := Lib.hid hb
  have hww : Ext w w := Ext.refl _
  obtain ⟨a1, ha1⟩ : ∃ a, a = M.a := ⟨_, rfl⟩
  obtain ⟨a2, ha2⟩ : ∃ a, a = K.a := ⟨_, rfl⟩
  rw [← ha1, ← ha2]
  have HA1 := Lib.hid ha1
  have HA2 := Lib.hid ha2
  clear hM hK hb ha1 ha2
  by_cases hn : M.n = K.n
  · go_enter Try.func19, Try.ntmps19
    rw [← hn]
    have HN := Lib.hid hn
    clear hn
    go_wp2_with fail
    go_loopg [5] M.n (fun gg v wr => ∃ k : Nat, k ≤ M.n ∧ gg = M.n - k ∧ v = .int .i64 k ∧ Ext w wr ∧ ∀ j, j < k → M.rn j = K.rn j ∧ ∀ i, i < M.rn j → M.val j i = K.val j i)
    case atStart => exact ⟨0, by omega, rfl, rfl, hww, fun j hj => by omega⟩
    case round =>
      obtain ⟨k, hk, rfl, rfl, hxr, hall⟩ := hrel
      have HA := Lib.hid hall
      clear hall
      by_cases hlt : k < M.n
      · have hlt' : (k : Int) < (M.n : Int) := by omega
        have hltK : k < K.n := by have := HN.out; omega
        obtain rfl : a1 = some ⟨M.b, M.off, none⟩ := by rw [HA1.out]; exact H1.out.pa (by omega)
        obtain rfl : a2 = some ⟨K.b, K.off, none⟩ := by rw [HA2.out]; exact H2.out.pa (by omega)
        have pb1 := H1.out.pb (by omega)
        have pb2 := H2.out.pb (by omega)
        have p1 : ∀ w', Ext w w' → w'.cell? ⟨M.b, M.off + k, none⟩ = some (.slice (M.ra k) (M.rn k) (M.rc k)) := fun w' h => H1.out.p0 w' h k hlt
        have p2 : ∀ w', Ext w w' → w'.cell? ⟨K.b, K.off + k, none⟩ = some (.slice (K.ra k) (K.rn k) (K.rc k)) := fun w' h => H2.out.p0 w' h k hltK
        obtain ⟨c, hc⟩ : ∃ c : Bool, c = true ↔ (M.rn k = K.rn k ∧ ∀ i, i < M.rn k → M.val k i = K.val k i) := by
          by_cases h : M.rn k = K.rn k ∧ ∀ i, i < M.rn k → M.val k i = K.val k i
          · exact ⟨true, fun _ => h, fun _ => rfl⟩
          · exact ⟨false, fun h' => by (cases h'), fun h' => absurd h' h⟩
        have hSI := fun W (x : Ext w W) => sameInts_any W (M.ra k) (K.ra k) (M.rb k) (K.rb k) (M.ro k) (K.ro k) (M.rn k) (K.rn k) (M.rc k) (K.rc k) (M.val k) (K.val k) ((H1.out.ext x).row hlt) ((H2.out.ext x).row hltK) c hc
        have HHs := Lib.hid hSI
        have HC := Lib.hid hc
        have hg5 : ∀ d os, Ext w (Sort.grow (redrawn wr d) os) := fun d os => hxr.trans (below_regrown wr d os)
        clear hSI hc
        cases c with
        | true =>
          have HC2 := Lib.hid (HC.out.1 rfl)
          clear HC
          go_upto_region 6 with fail
          refine wp_region_quiet_below (by kernel_rfl) (by kernel_rfl) ?_
          repeat (go_big_quiet_step (exact Calls.regrown_of (HHs.out _ (hg5 _ _))))
          refine wpQuiet_nil ?_
          intro _ hw'
          obtain ⟨⟨dq, osq⟩, hw''⟩ := hw'
          subst hw''
          have hx9 := below_regrown wr dq osq
          generalize Sort.grow (redrawn wr dq) osq = w9 at hx9 ⊢
          have hx59 : Ext w w9 := hxr.trans hx9
          go_wp2_with fail
          go_roundg (M.n - (k + 1))
          case rel => exact ⟨k + 1, by omega, rfl, by go_num, hx59, fun j hj => by
            by_cases e : j = k
            · subst e; exact HC2.out
            · exact HA.out j (by omega)⟩
          case measure => omega
        | false =>
          obtain rfl : b = false := Bool.eq_false_iff.2 fun h => by
            have := HC.out.2 ((HB.out.1 h).2 k hlt); cases this
          clear HC
          go_upto_region 6 with fail
          refine wp_region_quiet_below (by kernel_rfl) (by kernel_rfl) ?_
          repeat (go_big_quiet_step (exact Calls.regrown_of (HHs.out _ (hg5 _ _))))
          refine wpQuiet_nil ?_
          intro _ hw'
          obtain ⟨⟨dq, osq⟩, hw''⟩ := hw'
          subst hw''
          have hx9 := below_regrown wr dq osq
          generalize Sort.grow (redrawn wr dq) osq = w9 at hx9 ⊢
          have hx59 : Ext w w9 := hxr.trans hx9
          go_wp2_with fail
          go_ret
          exact ⟨rfl, hx59⟩
      · obtain rfl : b = true := HB.out.2 ⟨HN.out, fun j hj => HA.out j (by omega)⟩
        have hke : k = M.n := by omega
        subst hke
        go_wp2_with fail
        go_ret
        exact ⟨rfl, hxr⟩
  · obtain rfl : b = false := Bool.eq_false_iff.2 fun h => hn (HB.out.1 h).1
    have hnb : ((M.n : Int) == (K.n : Int)) = false := by simp; omega
    go_enter Try.func19, Try.ntmps19
    go_wp2_with fail
    go_ret
    exact ⟨rfl, hww⟩
/-- a list of events lies in memory -/
structure EvAt (w : World) (a : Option Addr) (b n : Nat) (l : Nat → Int × Int) : Prop where
  hn : n ≤ 140737488355328
  pa : 0 < n → a = some ⟨b, 0, none⟩
  pb : 0 < n → ∀ w', Ext w w' → b < w'.heap.size
  p0 : ∀ w', Ext w w' → ∀ k, k < n → w'.cell? ⟨b, k * 2, none⟩ = some (.int .i64 (l k).1)
  p1 : ∀ w', Ext w w' → ∀ k, k < n → w'.cell? ⟨b, k * 2 + 1, none⟩ = some (.int .i64 (l k).2)
set_option maxRecDepth 100000 in
set_option maxHeartbeats 1000000 in
/-- slices.Equal of two lists of events that are alike -/
theorem equalEv_yes (w : World) (a1 a2 : Option Addr) (b1 b2 n c1 c2 : Nat) (l : Nat → Int × Int) (h1 : EvAt w a1 b1 n l) (h2 : EvAt w a2 b2 n l) :
    Calls Try.prog 31 #[.slice a1 n c1, .slice a2 n c2] w fun e w' => e = .returned (.bool true) ∧ Ext w w' := by
  have hn1 := h1.hn
  have H1 := Lib.hid h1
  have H2 := Lib.hid h2
  have hww : Ext w w := Ext.refl _
  clear h1 h2
  go_enter Try.func31, Try.ntmps31
  go_wp2_with fail
  go_loopg [13] n (fun gg v wr => ∃ k : Nat, k ≤ n ∧ gg = n - k ∧ v = .int .i64 k ∧ Ext w wr)
  case atStart => exact ⟨0, by omega, rfl, rfl, hww⟩
  case round =>
    obtain ⟨k, hk, rfl, rfl, hxr⟩ := hrel
    by_cases hlt : k < n
    · have hlt' : (k : Int) < (n : Int) := by omega
      obtain rfl := H1.out.pa (by omega)
      obtain rfl := H2.out.pa (by omega)
      have pb1 := H1.out.pb (by omega)
      have pb2 := H2.out.pb (by omega)
      obtain ⟨x, hx⟩ : ∃ x, x = (l k).1 := ⟨_, rfl⟩
      obtain ⟨y, hy⟩ : ∃ y, y = (l k).2 := ⟨_, rfl⟩
      have p1 : ∀ w', Ext w w' → w'.cell? ⟨b1, k * 2, none⟩ = some (.int .i64 x) := fun w' h => by rw [hx]; exact H1.out.p0 w' h k hlt
      have p2 : ∀ w', Ext w w' → w'.cell? ⟨b1, k * 2 + 1, none⟩ = some (.int .i64 y) := fun w' h => by rw [hy]; exact H1.out.p1 w' h k hlt
      have q1 : ∀ w', Ext w w' → w'.cell? ⟨b2, k * 2, none⟩ = some (.int .i64 x) := fun w' h => by rw [hx]; exact H2.out.p0 w' h k hlt
      have q2 : ∀ w', Ext w w' → w'.cell? ⟨b2, k * 2 + 1, none⟩ = some (.int .i64 y) := fun w' h => by rw [hy]; exact H2.out.p1 w' h k hlt
      clear hx hy
      go_upto_region 6 with fail
      go_quiet (fail)
      go_wp2_with fail
      go_roundg (n - (k + 1))
      case rel => exact ⟨k + 1, by omega, rfl, by go_num, hxr.drewN _⟩
      case measure => omega
    · have hke : k = n := by omega
      subst hke
      go_wp2_with fail
      go_ret
      exact ⟨rfl, hxr⟩

end Go.Proofs.Ytecgigeeolindaa
