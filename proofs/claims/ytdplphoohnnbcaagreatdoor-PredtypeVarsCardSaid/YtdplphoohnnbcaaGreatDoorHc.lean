/- slices.IndexFunc and slices.ContainsFunc at further element types (printed by gen.py). slices.IndexFunc and slices.ContainsFunc at further element types (printed by gen.py). Contracts: trace.sends, trace.formed. Contracts of predtype: named, temporal, result, need, fits. -/
import Derived.Test.YtdplphoohnnbcaaGreatDoorHb
namespace Go.Proofs.YtdplphoohnnbcaaGreatDoor
open Go.RowKit Go.Shelf

/-- slices.IndexFunc at Var: the first i < n with p i, or -1 -/
theorem idx_Var (w : World) (a : Option Addr) (b off n cap : Nat) (c0 c1 : Nat → Value) (g : Nat) (lb : Array Value) (p : Nat → Bool)
    (hn : n ≤ 140737488355328) (ha : 0 < n → a = some ⟨b, off, none⟩)
    (l0 : ∀ w', Ext w w' → ∀ i, i < n → w'.cell? ⟨b, off + i * 2, none⟩ = some (c0 i))
    (l1 : ∀ w', Ext w w' → ∀ i, i < n → w'.cell? ⟨b, off + i * 2 + 1, none⟩ = some (c1 i))
    (eg : Enters Tryz.prog g)
    (hp : ∀ i, i < n → ∀ w', Ext w w' → Calls Tryz.prog g (#[.agg #[c0 i, c1 i]] ++ lb) w' fun e w'' => e = .returned (.bool (p i)) ∧ Ext w' w'') :
    Calls Tryz.prog 133 #[.slice a n cap, .func (.func g) #[] lb] w fun e w' => e = .returned (.int .i64 (idxI p n)) ∧ Ext w w' := by
  have HP := Lib.hid hp
  clear hp
  go_enter Tryz.func133, Tryz.ntmps133
  go_wp2
  go_loopw [8] (fun v wr => ∃ k : Nat, k ≤ n ∧ v = .int .i64 k ∧ Ext w wr ∧ NoneB p k) (fun v _ => n - (intOf v).toNat)
  case atStart => exact ⟨0, Nat.zero_le _, rfl, Ext.refl _, NoneB.zero _⟩
  case round =>
    obtain ⟨k, hk, rfl, hx, hN⟩ := hrel
    have HN := Lib.hid hN
    clear hN
    by_cases hlt : k < n
    · obtain rfl := ha (by omega)
      have hc := HP.out k hlt wr hx
      unfold Enters at eg
      cases hq : p k with
      | true =>
        rw [hq] at hc
        go_wp2_with (go_at_fn g; refine hc.mono ?_; rintro e w' ⟨rfl, hx'⟩)
        go_ret
        exact ⟨ret_int (idxI_hit hlt hq HN.out).symm, hx.trans hx'⟩
      | false =>
        rw [hq] at hc
        go_wp2_with (go_at_fn g; refine hc.mono ?_; rintro e w' ⟨rfl, hx'⟩)
        go_roundw
        case rel => exact ⟨k + 1, by omega, by go_num, hx.trans hx', HN.out.succ hq⟩
        case measure => simp [intOf]; omega
    · have HN' := Lib.hid (show NoneB p n from fun i hi => HN.out i (by omega))
      go_wp2
      go_ret
      exact ⟨ret_int (idxI_none HN'.out).symm, hx⟩

/-- slices.ContainsFunc at Var: is there an i < n with p i? -/
theorem has_Var (w : World) (a : Option Addr) (b off n cap : Nat) (c0 c1 : Nat → Value) (g : Nat) (lb : Array Value) (p : Nat → Bool)
    (hn : n ≤ 140737488355328) (ha : 0 < n → a = some ⟨b, off, none⟩)
    (l0 : ∀ w', Ext w w' → ∀ i, i < n → w'.cell? ⟨b, off + i * 2, none⟩ = some (c0 i))
    (l1 : ∀ w', Ext w w' → ∀ i, i < n → w'.cell? ⟨b, off + i * 2 + 1, none⟩ = some (c1 i))
    (eg : Enters Tryz.prog g)
    (hp : ∀ i, i < n → ∀ w', Ext w w' → Calls Tryz.prog g (#[.agg #[c0 i, c1 i]] ++ lb) w' fun e w'' => e = .returned (.bool (p i)) ∧ Ext w' w'') :
    Calls Tryz.prog 100 #[.slice a n cap, .func (.func g) #[] lb] w fun e w' => e = .returned (.bool (anyB p n)) ∧ Ext w w' := by
  have hc := idx_Var w a b off n cap c0 c1 g lb p hn ha l0 l1 eg hp
  have HI := Lib.hid (idxI_anyB p n)
  clear hp l0 l1 ha eg
  go_enter Tryz.func100, Tryz.ntmps100
  go_wp2_with (go_at_call 133; refine hc.mono ?_; rintro e w' ⟨rfl, hx'⟩)
  go_ret
  exact ⟨ret_bool HI.out, hx'⟩

end Go.Proofs.YtdplphoohnnbcaaGreatDoor

namespace Go.Proofs.YtdplphoohnnbcaaGreatDoor
open Go.RowKit Go.Shelf

/-- slices.IndexFunc at Assign: the first i < n with p i, or -1 -/
theorem idx_Assign (w : World) (a : Option Addr) (b off n cap : Nat) (c0 c1 : Nat → Value) (g : Nat) (lb : Array Value) (p : Nat → Bool)
    (hn : n ≤ 140737488355328) (ha : 0 < n → a = some ⟨b, off, none⟩)
    (l0 : ∀ w', Ext w w' → ∀ i, i < n → w'.cell? ⟨b, off + i * 2, none⟩ = some (c0 i))
    (l1 : ∀ w', Ext w w' → ∀ i, i < n → w'.cell? ⟨b, off + i * 2 + 1, none⟩ = some (c1 i))
    (eg : Enters Tryz.prog g)
    (hp : ∀ i, i < n → ∀ w', Ext w w' → Calls Tryz.prog g (#[.agg #[c0 i, c1 i]] ++ lb) w' fun e w'' => e = .returned (.bool (p i)) ∧ Ext w' w'') :
    Calls Tryz.prog 149 #[.slice a n cap, .func (.func g) #[] lb] w fun e w' => e = .returned (.int .i64 (idxI p n)) ∧ Ext w w' := by
  have HP := Lib.hid hp
  clear hp
  go_enter Tryz.func149, Tryz.ntmps149
  go_wp2
  go_loopw [8] (fun v wr => ∃ k : Nat, k ≤ n ∧ v = .int .i64 k ∧ Ext w wr ∧ NoneB p k) (fun v _ => n - (intOf v).toNat)
  case atStart => exact ⟨0, Nat.zero_le _, rfl, Ext.refl _, NoneB.zero _⟩
  case round =>
    obtain ⟨k, hk, rfl, hx, hN⟩ := hrel
    have HN := Lib.hid hN
    clear hN
    by_cases hlt : k < n
    · obtain rfl := ha (by omega)
      have hc := HP.out k hlt wr hx
      unfold Enters at eg
      cases hq : p k with
      | true =>
        rw [hq] at hc
        go_wp2_with (go_at_fn g; refine hc.mono ?_; rintro e w' ⟨rfl, hx'⟩)
        go_ret
        exact ⟨ret_int (idxI_hit hlt hq HN.out).symm, hx.trans hx'⟩
      | false =>
        rw [hq] at hc
        go_wp2_with (go_at_fn g; refine hc.mono ?_; rintro e w' ⟨rfl, hx'⟩)
        go_roundw
        case rel => exact ⟨k + 1, by omega, by go_num, hx.trans hx', HN.out.succ hq⟩
        case measure => simp [intOf]; omega
    · have HN' := Lib.hid (show NoneB p n from fun i hi => HN.out i (by omega))
      go_wp2
      go_ret
      exact ⟨ret_int (idxI_none HN'.out).symm, hx⟩

/-- slices.ContainsFunc at Assign: is there an i < n with p i? -/
theorem has_Assign (w : World) (a : Option Addr) (b off n cap : Nat) (c0 c1 : Nat → Value) (g : Nat) (lb : Array Value) (p : Nat → Bool)
    (hn : n ≤ 140737488355328) (ha : 0 < n → a = some ⟨b, off, none⟩)
    (l0 : ∀ w', Ext w w' → ∀ i, i < n → w'.cell? ⟨b, off + i * 2, none⟩ = some (c0 i))
    (l1 : ∀ w', Ext w w' → ∀ i, i < n → w'.cell? ⟨b, off + i * 2 + 1, none⟩ = some (c1 i))
    (eg : Enters Tryz.prog g)
    (hp : ∀ i, i < n → ∀ w', Ext w w' → Calls Tryz.prog g (#[.agg #[c0 i, c1 i]] ++ lb) w' fun e w'' => e = .returned (.bool (p i)) ∧ Ext w' w'') :
    Calls Tryz.prog 129 #[.slice a n cap, .func (.func g) #[] lb] w fun e w' => e = .returned (.bool (anyB p n)) ∧ Ext w w' := by
  have hc := idx_Assign w a b off n cap c0 c1 g lb p hn ha l0 l1 eg hp
  have HI := Lib.hid (idxI_anyB p n)
  clear hp l0 l1 ha eg
  go_enter Tryz.func129, Tryz.ntmps129
  go_wp2_with (go_at_call 149; refine hc.mono ?_; rintro e w' ⟨rfl, hx'⟩)
  go_ret
  exact ⟨ret_bool HI.out, hx'⟩

end Go.Proofs.YtdplphoohnnbcaaGreatDoor

namespace Go.Proofs.YtdplphoohnnbcaaGreatDoor
open Go.RowKit Go.Shelf

/-- process p sends number m to process q -/
def Tr.sendsB (T : Tr) (p : Nat) (m q : Int) : Bool := anyB (fun i => decide (T.kind p i = 2) && decide (T.msg p i = m) && decide (T.peer p i = q)) (T.en p)

/-- slices.ContainsFunc over the events of process p -/
theorem hasEv (w : World) (T : TM) (hT : T.At w) (p : Nat) (hp : p < T.n) (g : Nat) (lb : Array Value) (q : Nat → Bool) (eg : Enters Tryz.prog g)
    (hq : ∀ i, i < T.en p → ∀ w', Ext w w' → Calls Tryz.prog g (#[T.ev p i] ++ lb) w' fun e w'' => e = .returned (.bool (q i)) ∧ Ext w' w'') :
    Calls Tryz.prog 21 #[.slice (T.ea p) (T.en p) (T.ec p), .func (.func g) #[] lb] w fun e w' => e = .returned (.bool (anyB q (T.en p))) ∧ Ext w w' :=
  has_Event w (T.ea p) (T.eb p) (T.eo p) (T.en p) (T.ec p) (fun i => .int .i64 (T.kind p i)) (fun i => .int .i64 (T.peer p i)) (fun i => .int .i64 (T.msg p i)) (fun i => .int .i64 (T.time p i)) (fun i => .slice (T.aa p i) (T.an p i) (T.ac p i))
    g lb q (hT.E.he p hp) (hT.E.ea p hp) (fun w' hx i hi => hT.E.e0 w' hx p i hp hi) (fun w' hx i hi => hT.E.e1 w' hx p i hp hi) (fun w' hx i hi => hT.E.e2 w' hx p i hp hi) (fun w' hx i hi => hT.E.e3 w' hx p i hp hi) (fun w' hx i hi => hT.E.e4 w' hx p i hp hi) eg hq

set_option maxRecDepth 100000 in
set_option maxHeartbeats 400000 in
theorem sends_any (w : World) (T : TM) (hT : T.At w) (p : Nat) (hp : p < T.n) (m q : Int) :
    Calls Tryz.prog 131 #[T.val, .int .i64 p, .int .i64 m, .int .i64 q] w fun e w' => e = .returned (.bool (T.sendsB p m q)) ∧ Ext w w' := by
  have hp' : (p : Int) < (T.n : Int) := by omega
  have pa := hT.P.pa (by omega)
  have pb := hT.P.pb (by omega)
  have p2 := hT.P.p2
  have HT := Lib.hid hT
  clear hT
  go_enter Tryz.func131, Tryz.ntmps131
  go_upto_region 1 with fail
  refine boxed3 (w := w) (G := fun x => Code.wp _ _ _ _ x) ?_
  intro w2 hx2 hs2 ⟨l0, c0, _, _⟩ ⟨l1, c1, _, _⟩ ⟨l2, c2, _, _⟩
  have HS := Lib.hid hs2
  clear hs2
  have hx : Ext w2 w2 := Ext.refl _
  go_wp2_with fail
  have hc := hasEv w2 T (HT.out.ext hx2) p hp 150 #[.pointer (some ⟨w.heap.size + 1, 0, none⟩), .pointer (some ⟨w.heap.size + 1 + 1, 0, none⟩)] (fun i => decide (T.kind p i = 2) && decide (T.msg p i = m) && decide (T.peer p i = q)) (enters_of Tryz.func150 (by kernel_rfl) rfl)
    (fun i hi w' hx' => by exact sends1 w' (T.kind p i) (T.peer p i) (T.msg p i) m q _ _ _ _ (c1 w' hx' 0) (c2 w' hx' 0))
  refine hc.mono ?_
  rintro e w' ⟨rfl, hx'⟩
  go_wp2
  go_ret
  exact ⟨rfl, hx2.trans hx'⟩

def FormedP (T : Tr) (p : Nat) (kind peer msg : Int) : Prop := (kind = 1 ∧ peer = 0 ∧ msg = 0) ∨ ((kind = 2 ∨ kind = 3) ∧ 0 ≤ peer ∧ peer ≤ (T.n : Int) - 1 ∧ peer ≠ p ∧ 0 ≤ msg ∧ msg ≤ 199)
def BoolPost (p : Prop) (w : World) (e : Ending) (w' : World) : Prop := ∃ b, e = .returned (.bool b) ∧ (b = true ↔ p) ∧ Ext w w'

set_option maxHeartbeats 400000 in
theorem formed_any (w : World) (T : TM) (hT : T.At w) (p : Nat) (kind peer msg time : Int) (v : Value) :
    Calls Tryz.prog 128 #[T.val, .int .i64 p, .agg #[.int .i64 kind, .int .i64 peer, .int .i64 msg, .int .i64 time, v]] w (BoolPost (FormedP T.toTr p kind peer msg) w) := by
  have hn := hT.P.hn
  clear hT
  go_enter Tryz.func128, Tryz.ntmps128
  go_wp2_with (go_at_call 94; refine (in_any _ _ _ _).mono ?_; rintro e w' ⟨rfl, rfl⟩)
  all_goals go_ret
  all_goals refine ⟨_, rfl, ?_, ((Ext.refl _).alloc' _).alloc' _⟩
  all_goals simp_all [FormedP, inB]
  all_goals omega

end Go.Proofs.YtdplphoohnnbcaaGreatDoor

namespace Go.Proofs.YtdplphoohnnbcaaGreatDoor
open Go.RowKit Go.Shelf

def namedB (k : Int) : Bool := decide (2 ≤ k) && decide (k ≤ 4)
def tempB (k : Int) : Bool := decide (18 ≤ k) && decide (k ≤ 21)
def resT (k : Int) : Int := if k ≤ 8 then 1 else 2
def needT (k : Int) : Int := if k ≤ 12 then 1 else 2
set_option maxHeartbeats 400000 in
theorem named_any (k : Int) (w : World) :
    Calls Tryz.prog 75 #[.int .i64 k] w fun e w' => e = .returned (.bool (namedB k)) ∧ w = w' := by
  go_enter Tryz.func75, Tryz.ntmps75
  go_wp2
  all_goals go_ret
  all_goals refine ⟨ret_bool ?_, rfl⟩
  all_goals (rw [Bool.eq_iff_iff]; simp [namedB]; try omega)
theorem result_any (k : Int) (w : World) :
    Calls Tryz.prog 23 #[.int .i64 k] w fun e w' => e = .returned (.int .i64 (resT k)) ∧ w = w' := by
  by_cases h : k ≤ 8
  · have HR := Lib.hid (show resT k = 1 from if_pos h)
    go_enter Tryz.func23, Tryz.ntmps23
    go_wp2
    go_ret
    exact ⟨ret_int HR.out.symm, rfl⟩
  · have HR := Lib.hid (show resT k = 2 from if_neg h)
    go_enter Tryz.func23, Tryz.ntmps23
    go_wp2
    go_ret
    exact ⟨ret_int HR.out.symm, rfl⟩
theorem need_any (k : Int) (w : World) :
    Calls Tryz.prog 71 #[.int .i64 k] w fun e w' => e = .returned (.int .i64 (needT k)) ∧ w = w' := by
  by_cases h : k ≤ 12
  · have HR := Lib.hid (show needT k = 1 from if_pos h)
    go_enter Tryz.func71, Tryz.ntmps71
    go_wp2
    go_ret
    exact ⟨ret_int HR.out.symm, rfl⟩
  · have HR := Lib.hid (show needT k = 2 from if_neg h)
    go_enter Tryz.func71, Tryz.ntmps71
    go_wp2
    go_ret
    exact ⟨ret_int HR.out.symm, rfl⟩

/-- how many parts a node of a kind has; -1 for no kind -/
def partsL : List Int := [-1, 0, 0, 0, 0, 1, 2, 2, 2, 2, 2, 2, 2, 0, 0, 1, 2, 2, 1, 1, 1, 1]
def partsI (k : Int) : Int := if k < 0 then -1 else partsL.getD k.toNat (-1)
/-- the package's table of these numbers -/
def TabAt (w : World) : Prop := 0 < w.heap.size ∧ ∀ w', Ext w w' → ∀ i, i < 22 → w'.cell? ⟨0, i, none⟩ = some (.int .i64 (partsI i))
theorem TabAt.ext {w w' : World} (h : TabAt w) (x : Ext w w') : TabAt w' := ⟨Nat.lt_of_lt_of_le h.1 x.le, fun w2 y => h.2 w2 (x.trans y)⟩
/-- a node, by itself, is as it must be -/
def NodeP (kind num proc peer : Int) (name : ByteArray) (len : Nat) : Prop :=
  1 ≤ kind ∧ kind ≤ 21 ∧ (len : Int) = partsI kind ∧ 0 ≤ num ∧ num ≤ 1125899906842624 ∧ (num ≠ 0 → kind = 1) ∧ ((2 ≤ kind ∧ kind ≤ 4) ∨ (proc = 0 ∧ peer = 0 ∧ name.toList = []))
def Pr.NodeOk (p : Pr) : Prop := NodeP p.kind p.num p.proc p.peer p.name p.len
theorem BoolPost.mk0 {p : Prop} {w w' : World} {b : Bool} (h : b = true ↔ p) (x : Ext w w') : BoolPost p w (.returned (.bool b)) w' := ⟨b, rfl, h, x⟩
theorem BoolPost.n {p : Prop} {w w' : World} (h : ¬ p) (x : Ext w w') : BoolPost p w (.returned (.bool false)) w' := ⟨false, rfl, ⟨(fun h => by cases h), fun h' => absurd h' h⟩, x⟩
theorem BoolPost.y {p : Prop} {w w' : World} (h : p) (x : Ext w w') : BoolPost p w (.returned (.bool true)) w' := ⟨true, rfl, ⟨fun _ => h, fun _ => rfl⟩, x⟩

set_option maxRecDepth 100000 in
set_option maxHeartbeats 2000000 in
theorem pfits_any (w : World) (hw : TabAt w) (kind num proc peer : Int) (name : ByteArray) (a : Option Addr) (len cap : Nat) :
    Calls Tryz.prog 64 #[.agg #[.int .i64 kind, .int .i64 num, .int .i64 proc, .int .i64 peer, .string name, .slice a len cap]] w (BoolPost (NodeP kind num proc peer name len) w) := by
  by_cases h1 : kind < 1
  · have d1 : decide (kind < 1) = true := decide_eq_true h1
    clear hw
    go_enter Tryz.func64, Tryz.ntmps64
    go_upto_region 1 with fail
    refine boxed1 (w := w) (G := fun x => Code.wp _ _ _ _ x) ?_
    intro w1 hx1 hs1 ⟨l0, c0, _, _⟩
    have hx11 : Ext w1 w1 := Ext.refl _
    clear hs1
    go_quiet (fail)
    go_wp2_with fail
    go_ret
    exact BoolPost.n (fun h => by unfold NodeP at h; omega) (hx1.drewN _)
  · have d1 : decide (kind < 1) = false := decide_eq_false h1
    by_cases h2 : 22 ≤ kind
    · have d2 : decide (22 ≤ kind) = true := decide_eq_true h2
      clear hw
      go_enter Tryz.func64, Tryz.ntmps64
      go_upto_region 1 with fail
      refine boxed1 (w := w) (G := fun x => Code.wp _ _ _ _ x) ?_
      intro w1 hx1 hs1 ⟨l0, c0, _, _⟩
      have hx11 : Ext w1 w1 := Ext.refl _
      clear hs1
      go_quiet (fail)
      go_wp2_with fail
      go_ret
      exact BoolPost.n (fun h => by unfold NodeP at h; omega) (hx1.drewN _)
    · have d2 : decide (22 ≤ kind) = false := decide_eq_false h2
      obtain ⟨k, rfl⟩ : ∃ k : Nat, kind = k := ⟨kind.toNat, by omega⟩
      have hk : k < 22 := by omega
      have hk' : (k : Int) < 22 := by omega
      obtain ⟨pk, hpk⟩ : ∃ x, x = partsI k := ⟨_, rfl⟩
      have t0 : ∀ w', Ext w w' → w'.cell? ⟨0, k, none⟩ = some (.int .i64 pk) := fun w' h => by rw [hpk]; exact hw.2 w' h k hk
      have t1 : ∀ w', Ext w w' → 0 < w'.heap.size := fun w' h => Nat.lt_of_lt_of_le hw.1 h.le
      have HPK := Lib.hid hpk
      clear hw hpk
      by_cases h3 : (len : Int) = pk
      · have d3 : ((len : Int) != pk) = false := by simp [h3]
        have HH3 := Lib.hid h3
        clear h3
        by_cases h4 : num < 0
        · have d4 : decide (num < 0) = true := decide_eq_true h4
          go_enter Tryz.func64, Tryz.ntmps64
          go_upto_region 1 with fail
          refine boxed1 (w := w) (G := fun x => Code.wp _ _ _ _ x) ?_
          intro w1 hx1 hs1 ⟨l0, c0, _, _⟩
          have hx11 : Ext w1 w1 := Ext.refl _
          clear hs1
          go_quiet (fail)
          go_wp2_with fail
          go_ret
          exact BoolPost.n (fun h => by unfold NodeP at h; omega) (hx1.drewN _)
        · have d4 : decide (num < 0) = false := decide_eq_false h4
          by_cases h5 : 1125899906842624 < num
          · have d5 : decide (1125899906842624 < num) = true := decide_eq_true h5
            go_enter Tryz.func64, Tryz.ntmps64
            go_upto_region 1 with fail
            refine boxed1 (w := w) (G := fun x => Code.wp _ _ _ _ x) ?_
            intro w1 hx1 hs1 ⟨l0, c0, _, _⟩
            have hx11 : Ext w1 w1 := Ext.refl _
            clear hs1
            go_quiet (fail)
            go_wp2_with fail
            go_ret
            exact BoolPost.n (fun h => by unfold NodeP at h; omega) (hx1.drewN _)
          · have d5 : decide (1125899906842624 < num) = false := decide_eq_false h5
            by_cases h6 : num ≠ 0 ∧ k ≠ 1
            · have d6 : (num != 0) = true := by simp [h6.1]
              have d7 : ((k : Int) != 1) = true := by simp; omega
              have d7' : (k != 1) = true := by simp; omega
              have HH6 := Lib.hid h6
              clear h6
              go_enter Tryz.func64, Tryz.ntmps64
              go_upto_region 1 with fail
              refine boxed1 (w := w) (G := fun x => Code.wp _ _ _ _ x) ?_
              intro w1 hx1 hs1 ⟨l0, c0, _, _⟩
              have hx11 : Ext w1 w1 := Ext.refl _
              clear hs1
              go_quiet (fail)
              go_wp2_with fail
              go_ret
              exact BoolPost.n (fun h => by unfold NodeP at h; have := HH6.out; omega) (hx1.drewN _)
            · have HR := Lib.hid (show (((2 : Int) ≤ k ∧ (k : Int) ≤ 4) ∨ (proc = 0 ∧ peer = 0 ∧ name.toList = [])) ↔ NodeP k num proc peer name len from by unfold NodeP; have := HH3.out; have := HPK.out; constructor <;> (intro h; first | (refine ⟨?_, ?_, ?_, ?_, ?_, ?_, h⟩ <;> omega) | exact h.2.2.2.2.2.2))
              by_cases h6a : num = 0
              · have d6 : (num != 0) = false := by simp [h6a]
                have HH6 := Lib.hid h6a
                clear h6a h6
                go_enter Tryz.func64, Tryz.ntmps64
                go_upto_region 1 with fail
                refine boxed1 (w := w) (G := fun x => Code.wp _ _ _ _ x) ?_
                intro w1 hx1 hs1 ⟨l0, c0, _, _⟩
                have hx11 : Ext w1 w1 := Ext.refl _
                clear hs1
                go_quiet (fail)
                cases hN : namedB (k : Int) with
                | true =>
                  have hN' := Lib.hid (show (2 : Int) ≤ k ∧ (k : Int) ≤ 4 from by simpa [namedB] using hN)
                  go_wp2_with fail
                  go_at_call 75
                  refine (named_any _ _).mono ?_
                  rintro e w' ⟨rfl, rfl⟩
                  rw [hN]
                  clear hN
                  go_wp2_with fail
                  go_ret
                  exact BoolPost.y (HR.out.1 (.inl hN'.out)) (hx1.drewN _)
                | false =>
                  have hN' := Lib.hid (show ¬ ((2 : Int) ≤ k ∧ (k : Int) ≤ 4) from by simpa [namedB] using hN)
                  go_wp2_with fail
                  go_at_call 75
                  refine (named_any _ _).mono ?_
                  rintro e w' ⟨rfl, rfl⟩
                  rw [hN]
                  clear hN
                  by_cases q1 : proc = 0
                  · have e1 : (proc == 0) = true := by simp [q1]
                    have Q1 := Lib.hid q1
                    clear q1
                    by_cases q2 : peer = 0
                    · have e2 : (peer == 0) = true := by simp [q2]
                      have Q2 := Lib.hid q2
                      clear q2
                      by_cases q3 : name.toList = []
                      · have e3 : name.toList.isEmpty = true := by simp [q3]
                        have Q3 := Lib.hid q3
                        go_wp2_with fail
                        go_ret
                        exact BoolPost.y (HR.out.1 (.inr ⟨Q1.out, Q2.out, Q3.out⟩)) (hx1.drewN _)
                      · have e3 : name.toList.isEmpty = false := by simp [q3]
                        have Q3 := Lib.hid q3
                        go_wp2_with fail
                        go_ret
                        exact BoolPost.n (fun h => by have h := HR.out.2 h; (exact h.elim (fun h => hN'.out h) (fun h => Q3.out h.2.2))) (hx1.drewN _)
                    · have e2 : (peer == 0) = false := by simp [q2]
                      have Q2 := Lib.hid q2
                      clear q2
                      go_wp2_with fail
                      go_ret
                      exact BoolPost.n (fun h => by have h := HR.out.2 h; (exact h.elim (fun h => hN'.out h) (fun h => Q2.out h.2.1))) (hx1.drewN _)
                  · have e1 : (proc == 0) = false := by simp [q1]
                    have Q1 := Lib.hid q1
                    clear q1
                    go_wp2_with fail
                    go_ret
                    exact BoolPost.n (fun h => by have h := HR.out.2 h; (exact h.elim (fun h => hN'.out h) (fun h => Q1.out h.1))) (hx1.drewN _)
              · have d6 : (num != 0) = true := by simp [h6a]
                have hk1 : k = 1 := by omega
                have d7 : ((k : Int) != 1) = false := by simp; omega
                have d7' : (k != 1) = false := by simp; omega
                have HH6 := Lib.hid hk1
                clear h6a h6 hk1
                go_enter Tryz.func64, Tryz.ntmps64
                go_upto_region 1 with fail
                refine boxed1 (w := w) (G := fun x => Code.wp _ _ _ _ x) ?_
                intro w1 hx1 hs1 ⟨l0, c0, _, _⟩
                have hx11 : Ext w1 w1 := Ext.refl _
                clear hs1
                go_quiet (fail)
                cases hN : namedB (k : Int) with
                | true =>
                  have hN' := Lib.hid (show (2 : Int) ≤ k ∧ (k : Int) ≤ 4 from by simpa [namedB] using hN)
                  go_wp2_with fail
                  go_at_call 75
                  refine (named_any _ _).mono ?_
                  rintro e w' ⟨rfl, rfl⟩
                  rw [hN]
                  clear hN
                  go_wp2_with fail
                  go_ret
                  exact BoolPost.y (HR.out.1 (.inl hN'.out)) (hx1.drewN _)
                | false =>
                  have hN' := Lib.hid (show ¬ ((2 : Int) ≤ k ∧ (k : Int) ≤ 4) from by simpa [namedB] using hN)
                  go_wp2_with fail
                  go_at_call 75
                  refine (named_any _ _).mono ?_
                  rintro e w' ⟨rfl, rfl⟩
                  rw [hN]
                  clear hN
                  by_cases q1 : proc = 0
                  · have e1 : (proc == 0) = true := by simp [q1]
                    have Q1 := Lib.hid q1
                    clear q1
                    by_cases q2 : peer = 0
                    · have e2 : (peer == 0) = true := by simp [q2]
                      have Q2 := Lib.hid q2
                      clear q2
                      by_cases q3 : name.toList = []
                      · have e3 : name.toList.isEmpty = true := by simp [q3]
                        have Q3 := Lib.hid q3
                        go_wp2_with fail
                        go_ret
                        exact BoolPost.y (HR.out.1 (.inr ⟨Q1.out, Q2.out, Q3.out⟩)) (hx1.drewN _)
                      · have e3 : name.toList.isEmpty = false := by simp [q3]
                        have Q3 := Lib.hid q3
                        go_wp2_with fail
                        go_ret
                        exact BoolPost.n (fun h => by have h := HR.out.2 h; (exact h.elim (fun h => hN'.out h) (fun h => Q3.out h.2.2))) (hx1.drewN _)
                    · have e2 : (peer == 0) = false := by simp [q2]
                      have Q2 := Lib.hid q2
                      clear q2
                      go_wp2_with fail
                      go_ret
                      exact BoolPost.n (fun h => by have h := HR.out.2 h; (exact h.elim (fun h => hN'.out h) (fun h => Q2.out h.2.1))) (hx1.drewN _)
                  · have e1 : (proc == 0) = false := by simp [q1]
                    have Q1 := Lib.hid q1
                    clear q1
                    go_wp2_with fail
                    go_ret
                    exact BoolPost.n (fun h => by have h := HR.out.2 h; (exact h.elim (fun h => hN'.out h) (fun h => Q1.out h.1))) (hx1.drewN _)
      · have d3 : ((len : Int) != pk) = true := by simp [h3]
        have HH3 := Lib.hid h3
        clear h3
        go_enter Tryz.func64, Tryz.ntmps64
        go_upto_region 1 with fail
        refine boxed1 (w := w) (G := fun x => Code.wp _ _ _ _ x) ?_
        intro w1 hx1 hs1 ⟨l0, c0, _, _⟩
        have hx11 : Ext w1 w1 := Ext.refl _
        clear hs1
        go_quiet (fail)
        go_wp2_with fail
        go_ret
        exact BoolPost.n (fun h => by unfold NodeP at h; (exact HH3.out (by rw [HPK.out]; exact h.2.2.1))) (hx1.drewN _)

end Go.Proofs.YtdplphoohnnbcaaGreatDoor
