/- Contract of antecederef14: Event; an event that came in; parts of the law LamportChains. -/
import Derived.Test.YtecgigeeolindaaGi
import Derived.Test.YtecgigeeolindaaGr
import Derived.Test.YtecgigeeolindaaGp
namespace Go.Proofs.Ytecgigeeolindaa
open Go.RowKit Go.Shelf

set_option maxRecDepth 100000 in
set_option maxHeartbeats 1000000 in
/-- there is such an event (the reference's) -/
theorem revent_any (w : World) (T : TM) (hT : T.At w) (p i : Int) (b : Bool) (hb : b = true ↔ T.toTr.Is p i) :
    Calls Try.prog 13 #[T.val, .agg #[.int .i64 p, .int .i64 i]] w fun e w' => e = .returned (.bool b) ∧ Ext w w' := by
  have hn := hT.P.hn
  have hen := hT.E.he
  have HT := Lib.hid hT
  clear hT
  by_cases h1 : 0 ≤ p
  · have d1 : decide (0 ≤ p) = true := decide_eq_true h1
    by_cases h2 : p < (T.n : Int)
    · have d2 : decide (p < (T.n : Int)) = true := decide_eq_true h2
      have pa := HT.out.P.pa (by omega)
      have pb := HT.out.P.pb (by omega)
      have p2 := HT.out.P.p2
      by_cases h3 : 1 ≤ i
      · have d3 : decide (1 ≤ i) = true := decide_eq_true h3
        obtain ⟨k, rfl⟩ := Int.eq_ofNat_of_zero_le h1
        have hk : k < T.n := by omega
        have hek := hen k hk
        by_cases h4 : i ≤ (T.en k : Int)
        · have d4 : decide (i ≤ (T.en k : Int)) = true := decide_eq_true h4
          obtain rfl : b = true := hb.2 ⟨h1, h2, h3, by simpa using h4⟩
          clear hb
          go_enter Try.func13, Try.ntmps13
          go_upto_region 1 with fail
          refine boxed2 (w := w) (G := fun x => Code.wp _ _ _ _ x) ?_
          intro w1 hx1 hs1 ⟨l0, c0, _, _⟩ ⟨l1, c1, _, _⟩
          have hx11 : Ext w1 w1 := Ext.refl _
          clear hs1
          go_quiet (fail)
          go_wp2_with fail
          go_ret
          exact ⟨rfl, hx1.drewN _⟩
        · have d4 : decide (i ≤ (T.en k : Int)) = false := decide_eq_false h4
          obtain rfl : b = false := Bool.eq_false_iff.2 fun h => h4 (by simpa using (hb.1 h).2.2.2)
          clear hb
          go_enter Try.func13, Try.ntmps13
          go_upto_region 1 with fail
          refine boxed2 (w := w) (G := fun x => Code.wp _ _ _ _ x) ?_
          intro w1 hx1 hs1 ⟨l0, c0, _, _⟩ ⟨l1, c1, _, _⟩
          have hx11 : Ext w1 w1 := Ext.refl _
          clear hs1
          go_quiet (fail)
          go_wp2_with fail
          go_ret
          exact ⟨rfl, hx1.drewN _⟩
      · have d3 : decide (1 ≤ i) = false := decide_eq_false h3
        obtain rfl : b = false := Bool.eq_false_iff.2 fun h => h3 (hb.1 h).2.2.1
        clear hb
        go_enter Try.func13, Try.ntmps13
        go_upto_region 1 with fail
        refine boxed2 (w := w) (G := fun x => Code.wp _ _ _ _ x) ?_
        intro w1 hx1 hs1 ⟨l0, c0, _, _⟩ ⟨l1, c1, _, _⟩
        have hx11 : Ext w1 w1 := Ext.refl _
        clear hs1
        go_quiet (fail)
        go_wp2_with fail
        go_ret
        exact ⟨rfl, hx1.drewN _⟩
    · have d2 : decide (p < (T.n : Int)) = false := decide_eq_false h2
      obtain rfl : b = false := Bool.eq_false_iff.2 fun h => h2 (hb.1 h).2.1
      clear hb
      go_enter Try.func13, Try.ntmps13
      go_upto_region 1 with fail
      refine boxed2 (w := w) (G := fun x => Code.wp _ _ _ _ x) ?_
      intro w1 hx1 hs1 ⟨l0, c0, _, _⟩ ⟨l1, c1, _, _⟩
      have hx11 : Ext w1 w1 := Ext.refl _
      clear hs1
      go_quiet (fail)
      go_wp2_with fail
      go_ret
      exact ⟨rfl, hx1.drewN _⟩
  · have d1 : decide (0 ≤ p) = false := decide_eq_false h1
    obtain rfl : b = false := Bool.eq_false_iff.2 fun h => h1 (hb.1 h).1
    clear hb
    go_enter Try.func13, Try.ntmps13
    go_upto_region 1 with fail
    refine boxed2 (w := w) (G := fun x => Code.wp _ _ _ _ x) ?_
    intro w1 hx1 hs1 ⟨l0, c0, _, _⟩ ⟨l1, c1, _, _⟩
    have hx11 : Ext w1 w1 := Ext.refl _
    clear hs1
    go_quiet (fail)
    go_wp2_with fail
    go_ret
    exact ⟨rfl, hx1.drewN _⟩

/-- the greatest stamp directly before x is one less -/
theorem Tr.Stamps.latest {T : Tr} {rows : Nat → List Int} (hR : T.Stamps rows) {M : Mx} {p i : Nat} (hp : p < T.n) (hi : i < T.en p) (hM : M.val = fun p i => stOf rows (p, i)) : T.latest M (p, i) = stOf rows (p, i) - 1 := by
  have h1 := Tr.RsI.lat (f := fun p i => stOf rows (p, i)) (fun p i hp hi => ⟨by have := hR.pos (x := (p, i)) ⟨hp, hi⟩; show (0 : Int) ≤ stOf rows (p, i); omega, Int.le_refl _⟩) hR hp hi hM
  have h3 := Mx.top_ge M (T.bk (p, i))
  have hy : T.V (p, i) := ⟨hp, hi⟩
  have e := hR.eq p i hp hi
  have e' : stOf rows (p, i) = max (if i = 0 then 0 else (rows p).getD (i - 1) 0) (if T.kind p i = 3 then stOf rows (T.sndN (p, i)) else 0) + 1 := e
  have hprev : (if i = 0 then 0 else (rows p).getD (i - 1) 0) ≤ M.top (T.bk (p, i)) := by
    by_cases h0 : i = 0
    · rw [if_pos h0]; exact h3.1
    · rw [if_neg h0]
      have hd : T.Dir (p, i - 1) (p, i) := .inl ⟨rfl, by show i = i - 1 + 1; omega⟩
      have h4 := h3.2 _ (Tr.mem_bk.2 hd)
      rw [hM] at h4; exact h4
  have hsnd : (if T.kind p i = 3 then stOf rows (T.sndN (p, i)) else 0) ≤ M.top (T.bk (p, i)) := by
    by_cases h0 : T.kind p i = 3
    · rw [if_pos h0]
      have hd : T.Dir (T.sndN (p, i)) (p, i) := .inr ⟨h0, rfl⟩
      have h4 := h3.2 _ (Tr.mem_bk.2 hd)
      rw [hM] at h4; exact h4
    · rw [if_neg h0]; exact h3.1
  have h5 : T.latest M (p, i) = M.top (T.bk (p, i)) := rfl
  omega
section
open Go.ChangeShapes Go.WideShapes Go.Deep
variable {H : Type} {enc : TypeId × Value → H} {W : World}
theorem cellsOf_eventId : Try.prog.cellsOf 31 = 2 := by kernel_rfl
set_option maxRecDepth 100000 in
theorem arg_event {r : Reach} {b0 : Nat} {v : Value} {d : DataW H} {p : List MemPlace} (hv : Value.okWide Try.prog W r b0 31 v) (h : DataW.Trod enc Try.prog W 0 (fun _ => true) true 31 v d p) (hs : Small Try.prog 31 d) : ∃ a b : Int, v = .agg #[.int .i64 a, .int .i64 b] ∧ okI a ∧ okI b := by
  obtain ⟨cs, rfl, hsz⟩ := okWide_struct Try.underlying31 hv
  obtain ⟨fuel, hf⟩ := h
  obtain ⟨v0, n0, y0, h0, t0, _⟩ := open_fields (x := (d, p)) Try.underlying31 (by kernel_rfl) cellsOf_eventId hf hs 0 _ rfl
  obtain ⟨v1, n1, y1, h1, t1, _⟩ := open_fields (x := (d, p)) Try.underlying31 (by kernel_rfl) cellsOf_eventId hf hs 1 _ rfl
  obtain ⟨a, ea, ha⟩ := open_okI t0
  obtain ⟨b, eb, hb⟩ := open_okI t1
  simp only [List.cons.injEq, and_true] at ea eb
  subst ea eb
  refine ⟨a, b, ?_, ha, hb⟩
  obtain ⟨l⟩ := cs
  rw [cellsOf_eventId] at hsz
  match l, hsz, h0, h1 with
  | [c0, c1], _, h0, h1 =>
    simp [Value.cells] at h0 h1
    rw [h0, h1]
end

end Go.Proofs.Ytecgigeeolindaa
