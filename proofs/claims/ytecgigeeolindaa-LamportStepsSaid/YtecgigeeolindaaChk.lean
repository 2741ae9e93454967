/- Contracts: causality.exists, check, before, Before. -/
import Derived.Test.YtecgigeeolindaaEvs
namespace Go.Proofs.Ytecgigeeolindaa
open Go.RowKit Go.Shelf

/-- there is such an event -/
def Tr.Is (T : Tr) (p i : Int) : Prop := 0 ≤ p ∧ p < T.n ∧ 1 ≤ i ∧ i ≤ T.en p.toNat
set_option maxRecDepth 100000 in
set_option maxHeartbeats 1000000 in
theorem exists_any (w : World) (T : TM) (hT : T.At w) (p i : Int) (b : Bool) (hb : b = true ↔ T.toTr.Is p i) :
    Calls Try.prog 60 #[T.val, .agg #[.int .i64 p, .int .i64 i]] w fun e w' => e = .returned (.bool b) ∧ Ext w w' := by
  have hn := hT.P.hn
  have hen := hT.E.he
  have HT := Lib.hid hT
  clear hT
  by_cases h1 : 0 ≤ p
  · have d1 : decide (0 ≤ p) = true := decide_eq_true h1
    by_cases h2 : p < (T.n : Int)
    · have d2 : decide (p < (T.n : Int)) = true := decide_eq_true h2
      have pa := HT.out.P.pa (by omega)
      have pb := HT.out.P.pb (by omega)
      have p2 := HT.out.P.p2
      by_cases h3 : 1 ≤ i
      · have d3 : decide (1 ≤ i) = true := decide_eq_true h3
        obtain ⟨k, rfl⟩ := Int.eq_ofNat_of_zero_le h1
        have hk : k < T.n := by omega
        have hek := hen k hk
        by_cases h4 : i ≤ (T.en k : Int)
        · have d4 : decide (i ≤ (T.en k : Int)) = true := decide_eq_true h4
          obtain rfl : b = true := hb.2 ⟨h1, h2, h3, by simpa using h4⟩
          clear hb
          go_enter Try.func60, Try.ntmps60
          go_upto_region 1 with fail
          refine boxed2 (w := w) (G := fun x => Code.wp _ _ _ _ x) ?_
          intro w1 hx1 hs1 ⟨l0, c0, _, _⟩ ⟨l1, c1, _, _⟩
          have hx11 : Ext w1 w1 := Ext.refl _
          clear hs1
          go_quiet (fail)
          go_wp2_with fail
          go_ret
          exact ⟨rfl, hx1.drewN _⟩
        · have d4 : decide (i ≤ (T.en k : Int)) = false := decide_eq_false h4
          obtain rfl : b = false := Bool.eq_false_iff.2 fun h => h4 (by simpa using (hb.1 h).2.2.2)
          clear hb
          go_enter Try.func60, Try.ntmps60
          go_upto_region 1 with fail
          refine boxed2 (w := w) (G := fun x => Code.wp _ _ _ _ x) ?_
          intro w1 hx1 hs1 ⟨l0, c0, _, _⟩ ⟨l1, c1, _, _⟩
          have hx11 : Ext w1 w1 := Ext.refl _
          clear hs1
          go_quiet (fail)
          go_wp2_with fail
          go_ret
          exact ⟨rfl, hx1.drewN _⟩
      · have d3 : decide (1 ≤ i) = false := decide_eq_false h3
        obtain rfl : b = false := Bool.eq_false_iff.2 fun h => h3 (hb.1 h).2.2.1
        clear hb
        go_enter Try.func60, Try.ntmps60
        go_upto_region 1 with fail
        refine boxed2 (w := w) (G := fun x => Code.wp _ _ _ _ x) ?_
        intro w1 hx1 hs1 ⟨l0, c0, _, _⟩ ⟨l1, c1, _, _⟩
        have hx11 : Ext w1 w1 := Ext.refl _
        clear hs1
        go_quiet (fail)
        go_wp2_with fail
        go_ret
        exact ⟨rfl, hx1.drewN _⟩
    · have d2 : decide (p < (T.n : Int)) = false := decide_eq_false h2
      obtain rfl : b = false := Bool.eq_false_iff.2 fun h => h2 (hb.1 h).2.1
      clear hb
      go_enter Try.func60, Try.ntmps60
      go_upto_region 1 with fail
      refine boxed2 (w := w) (G := fun x => Code.wp _ _ _ _ x) ?_
      intro w1 hx1 hs1 ⟨l0, c0, _, _⟩ ⟨l1, c1, _, _⟩
      have hx11 : Ext w1 w1 := Ext.refl _
      clear hs1
      go_quiet (fail)
      go_wp2_with fail
      go_ret
      exact ⟨rfl, hx1.drewN _⟩
  · have d1 : decide (0 ≤ p) = false := decide_eq_false h1
    obtain rfl : b = false := Bool.eq_false_iff.2 fun h => h1 (hb.1 h).1
    clear hb
    go_enter Try.func60, Try.ntmps60
    go_upto_region 1 with fail
    refine boxed2 (w := w) (G := fun x => Code.wp _ _ _ _ x) ?_
    intro w1 hx1 hs1 ⟨l0, c0, _, _⟩ ⟨l1, c1, _, _⟩
    have hx11 : Ext w1 w1 := Ext.refl _
    clear hs1
    go_quiet (fail)
    go_wp2_with fail
    go_ret
    exact ⟨rfl, hx1.drewN _⟩
set_option maxRecDepth 100000 in
set_option maxHeartbeats 1000000 in
theorem check_nil (w : World) (T : TM) (hT : T.At w) (r : Int) (hr : (T.toTr.Valid ∧ r = 0) ∨ (¬ T.toTr.Valid ∧ r = 1)) :
    Calls Try.prog 41 #[T.val, .slice none 0 0] w fun e w' => e = .returned (.int .i64 r) ∧ Ext w w' := by
  go_enter Try.func41, Try.ntmps41
  go_upto_region 1 with fail
  refine boxed1 (w := w) (G := fun x => Code.wp _ _ _ _ x) ?_
  intro w1 hx1 hs1 ⟨l0, c0, _, _⟩
  have hx11 : Ext w1 w1 := Ext.refl _
  have hF := valid_any w1 T (hT.ext hx1)
  clear hs1 hT
  rcases hr with ⟨hV, rfl⟩ | ⟨hV, rfl⟩
  · go_wp2_with (go_at_call 37; refine hF.mono ?_; rintro e w2 ⟨b, rfl, hb, hx2⟩; obtain rfl : b = true := hb.2 hV; clear hb)

    go_loopg [12] 0 (fun gg v wr => v = .int .i64 0 ∧ wr = w2)
    case atStart => exact ⟨rfl, rfl⟩
    case round =>
      obtain ⟨rfl, rfl⟩ := hrel
      go_wp2_with fail
      go_ret
      exact ⟨rfl, hx1.trans hx2⟩
  · go_wp2_with (go_at_call 37; refine hF.mono ?_; rintro e w2 ⟨b, rfl, hb, hx2⟩; obtain rfl : b = false := (Bool.eq_false_iff.2 fun h => hV (hb.1 h)))
    go_ret
    exact ⟨rfl, hx1.trans hx2⟩
set_option maxRecDepth 100000 in
set_option maxHeartbeats 1000000 in
theorem check_two (w : World) (T : TM) (hT : T.At w) (hV : T.toTr.Valid) (g : Nat) (x y : NN) (hx : T.toTr.V x) (hy : T.toTr.V y) (hg : Hold w g #[.int .i64 x.1, .int .i64 (x.2 + 1), .int .i64 y.1, .int .i64 (y.2 + 1)]) :
    Calls Try.prog 41 #[T.val, .slice (some ⟨g, 0, none⟩) 2 2] w fun e w' => e = .returned (.int .i64 0) ∧ Ext w w' := by
  have pa := hT.P.pa (by have := hx.1; omega)
  have hE := fun (z : NN) (hz : T.toTr.V z) W (h : Ext w W) => exists_any W T (hT.ext h) z.1 (z.2 + 1) true ⟨fun _ => ⟨by omega, by have := hz.1; omega, by omega, by have := hz.2; simp; omega⟩, fun _ => rfl⟩
  have HE1 := Lib.hid (hE x hx)
  have HE2 := Lib.hid (hE y hy)
  clear hE
  obtain ⟨xp, xi⟩ := x
  obtain ⟨yp, yi⟩ := y
  dsimp only at hg
  go_enter Try.func41, Try.ntmps41
  go_upto_region 1 with fail
  refine boxed1 (w := w) (G := fun x => Code.wp _ _ _ _ x) ?_
  intro w1 hx1 hs1 ⟨l0, c0, _, _⟩
  have hx11 : Ext w1 w1 := Ext.refl _
  have hF := valid_any w1 T (hT.ext hx1)
  simp only [TM.val, pa] at hF
  obtain ⟨lg, cg, _, _⟩ := hg.box
  have h1 := HE1.out
  have h2 := HE2.out
  simp only [TM.val, pa] at h1 h2
  have HE1 := Lib.hid h1
  have HE2 := Lib.hid h2
  clear hs1 hT hx hy hg h1 h2
  go_wp2_with (go_at_call 37; refine hF.mono ?_; rintro e w2 ⟨b, rfl, hb, hx2⟩; obtain rfl : b = true := hb.2 hV; clear hb)
  clear hF
  have hx12 := hx1.trans hx2
  go_loopg [12] 2 (fun gg v wr => ((gg = 2 ∧ v = .int .i64 0) ∨ (gg = 1 ∧ v = .int .i64 1) ∨ (gg = 0 ∧ v = .int .i64 2)) ∧ Ext w1 wr)
  case atStart => exact ⟨.inl ⟨rfl, rfl⟩, hx2⟩
  case round =>
    obtain ⟨h, hxr⟩ := hrel
    have hxw := hx1.trans hxr
    rcases h with ⟨rfl, rfl⟩ | ⟨rfl, rfl⟩ | ⟨rfl, rfl⟩
    · go_upto_region 6 with fail
      refine boxed1 (w := wr) (G := fun x => Code.wp _ _ _ _ x) ?_
      intro w3 hx3 hs3 ⟨l3, c3, _, _⟩
      have hx33 : Ext w3 w3 := Ext.refl _
      clear hs3
      have hx13 := hxr.trans hx3
      go_wp2_with (go_at_call 60; refine (HE1.out _ (hxw.trans hx3)).mono ?_; rintro e w4 ⟨rfl, hx4⟩)
      go_roundg 1
      case rel => exact ⟨.inr (.inl ⟨rfl, rfl⟩), hxr.trans (hx3.trans hx4)⟩
      case measure => omega
    · go_upto_region 6 with fail
      refine boxed1 (w := wr) (G := fun x => Code.wp _ _ _ _ x) ?_
      intro w3 hx3 hs3 ⟨l3, c3, _, _⟩
      have hx33 : Ext w3 w3 := Ext.refl _
      clear hs3
      have hx13 := hxr.trans hx3
      go_wp2_with (go_at_call 60; refine (HE2.out _ (hxw.trans hx3)).mono ?_; rintro e w4 ⟨rfl, hx4⟩)
      go_roundg 0
      case rel => exact ⟨.inr (.inr ⟨rfl, rfl⟩), hxr.trans (hx3.trans hx4)⟩
      case measure => omega
    · go_wp2_with fail
      go_ret
      exact ⟨rfl, hxw⟩

end Go.Proofs.Ytecgigeeolindaa
