/- Contracts: antecedelaw14.example and awake. -/
import Derived.Test.YtecgigeeolindaaExm
namespace Go.Proofs.Ytecgigeeolindaa
open Go.RowKit Go.Shelf

/-- the example in memory: g0, g1: the events of the two processes; gp: the processes -/
def exTM (g0 g1 gp : Nat) : TM :=
  { exTr with
    a := some ⟨gp, 0, none⟩, b := gp, off := 0, cap := 2
    va := fun _ => none, vb := fun _ => 0, vo := fun _ => 0, vc := fun _ => 0
    ea := fun k => if k = 0 then some ⟨g0, 0, none⟩ else some ⟨g1, 0, none⟩, eb := fun k => if k = 0 then g0 else g1, eo := fun _ => 0, ec := fun k => if k = 0 then 1 else 2
    aa := fun _ _ => none, ab := fun _ _ => 0, ao := fun _ _ => 0, ac := fun _ _ => 0 }
theorem okI_lit : okI 0 ∧ okI 1 ∧ okI 2 ∧ okI 3 ∧ okI 5 := by unfold okI; decide
theorem exTM_at {g0 g1 gp : Nat} {w : World}
    (h0 : Hold w g0 #[.int .i64 2, .int .i64 1, .int .i64 5, .int .i64 0, .slice none 0 0])
    (h1 : Hold w g1 #[.int .i64 1, .int .i64 0, .int .i64 0, .int .i64 0, .slice none 0 0, .int .i64 3, .int .i64 0, .int .i64 5, .int .i64 0, .slice none 0 0])
    (hp : Hold w gp #[.string ⟨#[97]⟩, .slice none 0 0, .slice (some ⟨g0, 0, none⟩) 1 1, .string ⟨#[98]⟩, .slice none 0 0, .slice (some ⟨g1, 0, none⟩) 2 2]) : (exTM g0 g1 gp).At w := by
  have b0 := h0.box
  have b1 := h1.box
  have bp := hp.box
  have hen : ∀ k, k < 2 → ∀ i, i < (exTM g0 g1 gp).en k → (k = 0 ∧ i = 0) ∨ (k = 1 ∧ i = 0) ∨ (k = 1 ∧ i = 1) := by
    intro k hk i hi
    rcases two_cases hk with rfl | rfl
    · have : i < 1 := hi
      left; exact ⟨rfl, by omega⟩
    · have : i < 2 := hi
      right; omega
  refine ⟨⟨by show (2 : Nat) ≤ _; decide, by show (2 : Nat) ≤ 2; decide, fun _ => rfl, fun _ => bp.lt, ?_, ?_, ?_⟩, ⟨fun _ _ => by show (0 : Nat) ≤ _; decide, fun _ _ => Nat.le_refl _, fun _ _ h => absurd h (Nat.not_lt_zero _), fun _ _ h => absurd h (Nat.not_lt_zero _), fun _ _ _ _ _ h => absurd h (Nat.not_lt_zero _), fun _ _ _ _ _ h => absurd h (Nat.not_lt_zero _)⟩,
    ⟨?_, ?_, ?_, ?_, ?_, ?_, ?_, ?_, ?_⟩, ⟨fun _ _ _ _ => by show (0 : Nat) ≤ _; decide, fun _ _ _ _ => Nat.le_refl _, fun _ _ _ _ h => absurd h (Nat.not_lt_zero _), fun _ _ _ _ h => absurd h (Nat.not_lt_zero _), fun _ _ _ _ _ _ _ h => absurd h (Nat.not_lt_zero _), fun _ _ _ _ _ _ _ h => absurd h (Nat.not_lt_zero _)⟩, ?_⟩
  · intro w' x k hk
    rcases two_cases hk with rfl | rfl
    · exact bp.cell w' x 0
    · exact bp.cell w' x 3
  · intro w' x k hk
    rcases two_cases hk with rfl | rfl
    · exact bp.cell w' x 1
    · exact bp.cell w' x 4
  · intro w' x k hk
    rcases two_cases hk with rfl | rfl
    · exact bp.cell w' x 2
    · exact bp.cell w' x 5
  · intro k hk
    rcases two_cases hk with rfl | rfl
    · show (1 : Nat) ≤ _; decide
    · show (2 : Nat) ≤ _; decide
  · intro k hk
    rcases two_cases hk with rfl | rfl
    · exact Nat.le_refl _
    · exact Nat.le_refl _
  · intro k hk _
    rcases two_cases hk with rfl | rfl <;> rfl
  · intro k hk _
    rcases two_cases hk with rfl | rfl
    · exact b0.lt
    · exact b1.lt
  · intro w' x k i hk hi
    rcases hen k hk i hi with ⟨rfl, rfl⟩ | ⟨rfl, rfl⟩ | ⟨rfl, rfl⟩
    · exact b0.cell w' x 0
    · exact b1.cell w' x 0
    · exact b1.cell w' x 5
  · intro w' x k i hk hi
    rcases hen k hk i hi with ⟨rfl, rfl⟩ | ⟨rfl, rfl⟩ | ⟨rfl, rfl⟩
    · exact b0.cell w' x 1
    · exact b1.cell w' x 1
    · exact b1.cell w' x 6
  · intro w' x k i hk hi
    rcases hen k hk i hi with ⟨rfl, rfl⟩ | ⟨rfl, rfl⟩ | ⟨rfl, rfl⟩
    · exact b0.cell w' x 2
    · exact b1.cell w' x 2
    · exact b1.cell w' x 7
  · intro w' x k i hk hi
    rcases hen k hk i hi with ⟨rfl, rfl⟩ | ⟨rfl, rfl⟩ | ⟨rfl, rfl⟩
    · exact b0.cell w' x 3
    · exact b1.cell w' x 3
    · exact b1.cell w' x 8
  · intro w' x k i hk hi
    rcases hen k hk i hi with ⟨rfl, rfl⟩ | ⟨rfl, rfl⟩ | ⟨rfl, rfl⟩
    · exact b0.cell w' x 4
    · exact b1.cell w' x 4
    · exact b1.cell w' x 9
  · refine ⟨fun k hk => ?_, fun _ _ _ h => absurd h (Nat.not_lt_zero _), fun _ _ _ h => absurd h (Nat.not_lt_zero _), fun k i hk hi => ?_, fun k i hk hi => ?_, fun k i hk hi => ?_, fun _ _ _ _ => okI_lit.1, fun _ _ _ _ _ h => absurd h (Nat.not_lt_zero _), fun _ _ _ _ _ h => absurd h (Nat.not_lt_zero _)⟩
    · rcases two_cases hk with rfl | rfl
      · show (1 : Nat) ≤ _; decide
      · show (1 : Nat) ≤ _; decide
    · rcases hen k hk i hi with ⟨rfl, rfl⟩ | ⟨rfl, rfl⟩ | ⟨rfl, rfl⟩ <;> first | exact okI_lit.1 | exact okI_lit.2.1 | exact okI_lit.2.2.1 | exact okI_lit.2.2.2.1 | exact okI_lit.2.2.2.2
    · rcases hen k hk i hi with ⟨rfl, rfl⟩ | ⟨rfl, rfl⟩ | ⟨rfl, rfl⟩ <;> first | exact okI_lit.1 | exact okI_lit.2.1 | exact okI_lit.2.2.1 | exact okI_lit.2.2.2.1 | exact okI_lit.2.2.2.2
    · rcases hen k hk i hi with ⟨rfl, rfl⟩ | ⟨rfl, rfl⟩ | ⟨rfl, rfl⟩ <;> first | exact okI_lit.1 | exact okI_lit.2.1 | exact okI_lit.2.2.1 | exact okI_lit.2.2.2.1 | exact okI_lit.2.2.2.2
theorem example_results (tmps : Array Value) (W : World) (b : Nat) (x : Value) (t0 : tmps[0]? = some (.pointer (some ⟨b, 0, none⟩))) (c : W.cell? ⟨b, 0, none⟩ = some x) :
    (results Try.f30 tmps).run Try.prog W = .ok (.agg #[x]) W := by
  simp [results, go_sem, t0, c]
set_option maxRecDepth 100000 in
set_option maxHeartbeats 1000000 in
theorem example_any (w : World) :
    Calls Try.prog 30 #[] w fun e w' => Ext w w' ∧ ∃ g0 g1 gp, e = .returned (.agg #[.slice (some ⟨gp, 0, none⟩) 2 2]) ∧ (exTM g0 g1 gp).At w' := by
  go_enter Try.func30, Try.ntmps30
  go_wp2_with fail
  refine boxed4 (w := w) (G := fun x => bodyPost _ _ _ _ _ x) ?_
  intro w1 hx1 hs1 b0 b1 b2 b3
  refine bodyPost_ret (example_results _ _ _ _ rfl (b0.cell w1 (Ext.refl _) 0)) rfl ?_
  exact ⟨hx1, _, _, _, rfl, exTM_at b1.hold b2.hold b3.hold⟩
/-- the literal of the example's stamps -/
def exMM (h0 h1 hp : Nat) : MM :=
  { n := 2, rn := fun k => if k = 0 then 1 else 2, val := fun k i => if k = 0 then 1 else (i : Int) + 1, a := some ⟨hp, 0, none⟩, b := hp, off := 0, cap := 2
    ra := fun k => if k = 0 then some ⟨h0, 0, none⟩ else some ⟨h1, 0, none⟩, rb := fun k => if k = 0 then h0 else h1, ro := fun _ => 0, rc := fun k => if k = 0 then 1 else 2 }
theorem exMM_at {h0 h1 hp : Nat} {w : World} (b0 : Box w h0 #[.int .i64 1]) (b1 : Box w h1 #[.int .i64 1, .int .i64 2]) (bp : Box w hp #[.slice (some ⟨h0, 0, none⟩) 1 1, .slice (some ⟨h1, 0, none⟩) 2 2]) : (exMM h0 h1 hp).At w := by
  have hen : ∀ k, k < 2 → ∀ i, i < (exMM h0 h1 hp).rn k → (k = 0 ∧ i = 0) ∨ (k = 1 ∧ i = 0) ∨ (k = 1 ∧ i = 1) := by
    intro k hk i hi
    rcases two_cases hk with rfl | rfl
    · have : i < 1 := hi
      left; exact ⟨rfl, by omega⟩
    · have : i < 2 := hi
      right; omega
  refine ⟨by show (2 : Nat) ≤ _; decide, fun _ => rfl, fun _ => bp.lt, ?_, ?_, ?_, ?_, ?_⟩
  · intro w' x k hk
    rcases two_cases hk with rfl | rfl
    · exact bp.cell w' x 0
    · exact bp.cell w' x 1
  · intro k hk
    rcases two_cases hk with rfl | rfl
    · show (1 : Nat) ≤ _; decide
    · show (2 : Nat) ≤ _; decide
  · intro k hk _
    rcases two_cases hk with rfl | rfl <;> rfl
  · intro k hk _
    rcases two_cases hk with rfl | rfl
    · exact b0.lt
    · exact b1.lt
  · intro w' x k i hk hi
    rcases hen k hk i hi with ⟨rfl, rfl⟩ | ⟨rfl, rfl⟩ | ⟨rfl, rfl⟩
    · exact b0.cell w' x 0
    · exact b1.cell w' x 0
    · exact b1.cell w' x 1
theorem ex_alike {bS cap h0 h1 hp : Nat} {rows : Nat → List Int} {vs : Nat → Value} (h : exTr.Stamps rows) : (stMM bS 2 cap rows vs).toMx.Alike (exMM h0 h1 hp).toMx := by
  obtain ⟨e0, e1⟩ := ex_rows h
  refine ⟨rfl, fun k hk => ?_⟩
  rcases two_cases hk with rfl | rfl
  · refine ⟨by show (rows 0).length = 1; rw [e0]; rfl, fun i hi => ?_⟩
    have hi' : i < (rows 0).length := hi
    rw [e0] at hi'
    obtain rfl : i = 0 := by simp at hi'; exact hi'
    show (rows 0).getD 0 0 = 1
    rw [e0]; rfl
  · refine ⟨by show (rows 1).length = 2; rw [e1]; rfl, fun i hi => ?_⟩
    have hi' : i < (rows 1).length := hi
    rw [e1] at hi'
    have : i = 0 ∨ i = 1 := by simp at hi'; omega
    rcases this with rfl | rfl
    · show (rows 1).getD 0 0 = _
      rw [e1]; rfl
    · show (rows 1).getD 1 0 = _
      rw [e1]; rfl
theorem exTM_en {g0 g1 gp : Nat} : ∀ k, k < (exTM g0 g1 gp).n → (exTM g0 g1 gp).en k ≤ 1000000 := by
  intro k hk
  rcases two_cases hk with rfl | rfl
  · show (1 : Nat) ≤ _; decide
  · show (2 : Nat) ≤ _; decide
def exEv (k : Nat) : Int × Int := if k = 0 then (1, 1) else (1, 2)
theorem stamps_ex (W : World) (g0 g1 gp : Nat) (hT : (exTM g0 g1 gp).At W) :
    Calls Try.prog 14 #[.agg #[.slice (some ⟨gp, 0, none⟩) 2 2]] W fun e w' => ∃ base cap rows vs, e = .returned (.tuple #[.slice (some ⟨base, 0, none⟩) 2 cap, .int .i64 0]) ∧ StS base base 2 rows vs w' ∧ exTr.Stamps rows ∧ Ext W w' :=
  Calls.mono (stamps_yes W (exTM g0 g1 gp) hT ex_valid exTM_en) fun e w' ⟨hx, h⟩ => by
    rcases h with ⟨h, _⟩ | ⟨_, base, cap, rows, vs, h1, h2, h3, h4⟩
    · exact absurd ex_valid h
    · exact ⟨base, cap, rows, vs, h2, h3, h4, hx⟩
theorem longest_ex (W : World) (g0 g1 gp : Nat) (hT : (exTM g0 g1 gp).At W) :
    Calls Try.prog 15 #[.agg #[.slice (some ⟨gp, 0, none⟩) 2 2], .agg #[.int .i64 1, .int .i64 2]] W fun e w' => ∃ g cap, e = .returned (.tuple #[.slice (some ⟨g, 0, none⟩) 2 cap, .int .i64 0]) ∧ g < w'.heap.size ∧ EvRow w' g 2 exEv ∧ Ext W w' :=
  Calls.mono (longest_yes W (exTM g0 g1 gp) hT ex_valid exTM_en (1, 1) ⟨by show (1 : Nat) < 2; decide, by show (1 : Nat) < 2; decide⟩) fun e w' ⟨hx, h⟩ => by
    rcases h with ⟨h, _⟩ | ⟨_, h, _⟩ | ⟨_, rows, x, g, cap, h1, h2, h3, h4, h5, h6, h7⟩
    · exact absurd ex_valid h
    · exact absurd ⟨by decide, by show (1 : Int) < 2; decide, by decide, by show (2 : Int) ≤ 2; decide⟩ h
    · obtain ⟨xp, xi⟩ := x
      obtain ⟨rfl, rfl⟩ : xp = 1 ∧ xi = 1 := by
        have e1 : (1 : Int) = xp := h3
        have e2 : (1 : Int) + 1 = xi + 1 := h4
        exact ⟨by omega, by omega⟩
      have hst : (stOf rows (1, 1)).toNat = 2 := by rw [(ex_st h1).2.2]; rfl
      have hp := ex_prv h1
      rw [hst] at h6 h7
      refine ⟨g, cap, h6, ?_, ⟨fun k hk => ?_, fun k hk => ?_, h7.fr⟩, hx⟩
      · exact cell_lt (h7.c0 0 (by omega))
      · have := h7.c0 k hk
        rcases two_cases hk with rfl | rfl
        · rw [this]; show some (Value.int .i64 (evI (exTr.prvN rows (1, 1) 1)).1) = _; rw [hp.2]; rfl
        · rw [this]; show some (Value.int .i64 (evI (exTr.prvN rows (1, 1) 0)).1) = _; rw [hp.1]; rfl
      · have := h7.c1 k hk
        rcases two_cases hk with rfl | rfl
        · rw [this]; show some (Value.int .i64 (evI (exTr.prvN rows (1, 1) 1)).2) = _; rw [hp.2]; rfl
        · rw [this]; show some (Value.int .i64 (evI (exTr.prvN rows (1, 1) 0)).2) = _; rw [hp.1]; rfl
theorem skipped_ex (W : World) (g0 g1 gp : Nat) (hT : (exTM g0 g1 gp).At W) :
    Calls Try.prog 27 #[.agg #[.slice (some ⟨gp, 0, none⟩) 2 2]] W fun e w' => e = .returned (.tuple #[.int .i64 0, .int .i64 0]) ∧ Ext W w' :=
  Calls.mono (skipped_yes W (exTM g0 g1 gp) hT ex_valid (by show (3 : Nat) ≤ 100; decide)) fun e w' ⟨hx, h⟩ => by
    rcases h with ⟨h, _⟩ | ⟨_, rows, h1, h2⟩
    · exact absurd ex_valid h
    · refine ⟨?_, hx⟩
      rw [h2]
      show Ending.returned (.tuple #[.int .i64 ((exTr.skipN rows : Nat) : Int), .int .i64 0]) = _
      rw [ex_skip h1]; rfl
theorem three_boxes {w : World} {c d e : Array Value} {t1 t2 t3 : TypeId} : Box (((w.alloc (.cells c t1)).alloc (.cells d t2)).alloc (.cells e t3)) w.heap.size c ∧ Box (((w.alloc (.cells c t1)).alloc (.cells d t2)).alloc (.cells e t3)) (w.heap.size + 1) d ∧ Box (((w.alloc (.cells c t1)).alloc (.cells d t2)).alloc (.cells e t3)) (w.heap.size + 1 + 1) e :=
  boxed3 (w := w) (G := fun W => Box W w.heap.size c ∧ Box W (w.heap.size + 1) d ∧ Box W (w.heap.size + 1 + 1) e) fun _ _ _ a b c => ⟨a, b, c⟩
theorem EvRow.at {w : World} {g n : Nat} {l : Nat → Int × Int} (h : EvRow w g n l) (hl : g < w.heap.size) (hn : n ≤ 1000) : EvAt w (some ⟨g, 0, none⟩) g n l :=
  ⟨by omega, fun _ => rfl, fun _ w' x => Nat.lt_of_lt_of_le hl x.le, fun w' x k hk => x.cell (h.c0 k hk), fun w' x k hk => x.cell (h.c1 k hk)⟩
theorem EvAt.ext {w w' : World} {a : Option Addr} {b n : Nat} {l : Nat → Int × Int} (h : EvAt w a b n l) (x : Ext w w') : EvAt w' a b n l :=
  ⟨h.hn, h.pa, fun h0 w2 y => h.pb h0 w2 (x.trans y), fun w2 y => h.p0 w2 (x.trans y), fun w2 y => h.p1 w2 (x.trans y)⟩
theorem exEv_at {w : World} {g : Nat} (b : Box w g #[.int .i64 1, .int .i64 1, .int .i64 1, .int .i64 2]) : EvAt w (some ⟨g, 0, none⟩) g 2 exEv := by
  refine ⟨by decide, fun _ => rfl, fun _ => b.lt, fun w' x k hk => ?_, fun w' x k hk => ?_⟩
  · rcases two_cases hk with rfl | rfl
    · exact b.cell w' x 0
    · exact b.cell w' x 2
  · rcases two_cases hk with rfl | rfl
    · exact b.cell w' x 1
    · exact b.cell w' x 3
set_option maxRecDepth 100000 in
set_option maxHeartbeats 2000000 in
theorem awake_any (w : World) :
    Calls Try.prog 9 #[] w fun e w' => e = .returned (.bool true) ∧ Ext w w' := by
  go_enter Try.func9, Try.ntmps9
  go_upto_region 2 with (first | (go_at_call 30; refine (example_any _).mono ?_; rintro e w1 ⟨hx1, g0, g1, gp, rfl, hT1⟩; have HT1 := Lib.hid hT1; clear hT1) | (go_at_call 14; refine (stamps_ex _ g0 g1 gp HT1.out).mono ?_; rintro e w2 ⟨base, cap, rows, vs, rfl, hs2, hst2, hx2⟩; have HS := Lib.hid (And.intro hs2 hst2); clear hs2 hst2))
  go_upto_region 3 with (first | (go_at_call 30; refine (example_any _).mono ?_; rintro e w3 ⟨hx3, g2, g3, gq, rfl, hT3⟩; have HT3 := Lib.hid hT3; clear hT3) | (go_at_call 15; refine (longest_ex _ g2 g3 gq HT3.out).mono ?_; rintro e w4 ⟨lg, lcap, rfl, hll, hlr, hx4⟩; have HL := Lib.hid (hlr.at hll (by decide)); clear hll hlr))
  go_upto_region 4 with (first | (go_at_call 30; refine (example_any _).mono ?_; rintro e w5 ⟨hx5, g4, g5, gr, rfl, hT5⟩; have HT5 := Lib.hid hT5; clear hT5) | (go_at_call 27; refine (skipped_ex _ g4 g5 gr HT5.out).mono ?_; rintro e w6 ⟨rfl, hx6⟩))
  have hx26 : Ext w2 w6 := hx3.trans (hx4.trans (hx5.trans hx6))
  have hx46 : Ext w4 w6 := hx5.trans hx6
  have hxw6 : Ext w w6 := hx1.trans (hx2.trans hx26)
  go_wp2_with (first | (go_at_call 19; refine (sameLists_any _ (stMM base 2 cap rows vs) (exMM _ _ _) ((HS.out.1.mm (cap := cap)).ext (((hx26.alloc' _).alloc' _).alloc' _)) (exMM_at three_boxes.1 three_boxes.2.1 three_boxes.2.2) true ⟨fun _ => ex_alike HS.out.2, fun _ => rfl⟩).mono ?_; rintro e w7 ⟨rfl, hx7⟩) | (go_at_call 31; refine (equalEv_yes _ _ _ _ _ 2 _ _ exEv (HL.out.ext (Ext.trans hx46 (Ext.trans (Ext.alloc' (Ext.alloc' (Ext.alloc _ _) _) _) (Ext.alloc' hx7 _)))) (exEv_at (Hold.new _ _ _).box)).mono ?_; rintro e w8 ⟨rfl, hx8⟩))
  go_ret
  exact ⟨rfl, Ext.trans hxw6 (Ext.trans (Ext.alloc' (Ext.alloc' (Ext.alloc _ _) _) _) (Ext.trans (Ext.alloc' hx7 _) hx8))⟩

end Go.Proofs.Ytecgigeeolindaa
