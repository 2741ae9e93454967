/- Contract of predtype.each: a function is called at all nodes, in order, as long as it says yes. Contract of predtype.formed: a well-formed tree. -/
import Derived.Test.YtdplphoohnnbcaaGreatDoorHc
import Derived.Laws.EntriesVeiled
namespace Go.Proofs.YtdplphoohnnbcaaGreatDoor
open Go.RowKit Go.Shelf

/-- the blocks from B on are as they were -/
def Keep (B : Nat) (w w' : World) : Prop := w.heap.size ≤ w'.heap.size ∧ ∀ k, B ≤ k → k < w.heap.size → w'.heap[k]? = w.heap[k]?
theorem Keep.refl (B : Nat) (w : World) : Keep B w w := ⟨Nat.le_refl _, fun _ _ _ => rfl⟩
theorem Keep.trans {B : Nat} {a b c : World} (h : Keep B a b) (k : Keep B b c) : Keep B a c := ⟨Nat.le_trans h.1 k.1, fun x h1 h2 => (k.2 x h1 (Nat.lt_of_lt_of_le h2 h.1)).trans (h.2 x h1 h2)⟩
theorem Ext.keep {w w' : World} (h : Ext w w') (B : Nat) : Keep B w w' := ⟨h.le, fun k _ hk => h.block k hk⟩
theorem Keep.mono {B C : Nat} {w w' : World} (h : Keep B w w') (hBC : B ≤ C) : Keep C w w' := ⟨h.1, fun k h1 h2 => h.2 k (Nat.le_trans hBC h1) h2⟩
theorem Keep.setCell {B : Nat} {w w' : World} (h : Keep B w w') {p : Addr} (hp : p.block < B) (v : Value) : Keep B w (w'.setCell p v) :=
  ⟨by rw [World.size_setCell]; exact h.1, fun k h1 h2 => by rw [Below.heap_setCell _ _ _ _ (by omega)]; exact h.2 k h1 h2⟩
theorem Hold.keep {B : Nat} {w w' : World} {b : Nat} {c : Array Value} (h : Hold w b c) (k : Keep B w w') (hb : B ≤ b) : Hold w' b c := by
  obtain ⟨t, h⟩ := h
  exact ⟨t, by rw [k.2 b hb (Array.getElem?_eq_some_iff.1 h).1]; exact h⟩
theorem asWorld {w : World} {G : World → Prop} (h : ∀ w2, w2 = w → G w2) : G w := h w rfl

def foldK {σ : Type} (f : Nat → σ → σ) : Nat → σ → σ
  | 0, s => s
  | n + 1, s => f n (foldK f n s)
/-- all nodes, in order -/
def Pr.foldP {σ : Type} (step : Pr → σ → σ) : Pr → σ → σ
  | .nil, st => step .nil st
  | .mk k n p q s a b o c len kid, st => foldK (fun i => (kid i).foldP step) len (step (.mk k n p q s a b o c len kid) st)
theorem Pr.foldP_eq {σ : Type} (step : Pr → σ → σ) (p : Pr) (s : σ) : p.foldP step s = foldK (fun i => (p.kid i).foldP step) p.len (step p s) := by cases p <;> rfl

def EachStep {σ : Type} (B : Nat) (I : σ → World → Prop) (Q : World → Prop) (good : Prop) (s' : σ) (w : World) (e : Ending) (w' : World) : Prop :=
  Keep B w w' ∧ ∃ b : Bool, e = .returned (.bool b) ∧ (b = true → good ∧ I s' w') ∧ (b = false → ¬ good ∧ Q w')
def BoolR (R : Bool → World → Prop) (e : Ending) (w' : World) : Prop := ∃ b : Bool, e = .returned (.bool b) ∧ R b w'
theorem boolR_not {R : Bool → World → Prop} {b : Bool} {w : World} (h : R b w) : BoolR (fun c W => R (!c) W) (.returned (.bool (!b))) w := ⟨!b, rfl, by simpa using h⟩
set_option maxRecDepth 100000 in
set_option maxHeartbeats 1000000 in
theorem each1_any (w : World) (q : Pr) (bf : Nat) (fn : Fn) (tb lb : Array Value) (h : Hold w bf #[.func fn tb lb]) {R : Bool → World → Prop}
    (hc : ∀ w', Ext w w' → Calls Tryz.prog 38 #[q.val, .func fn tb lb] w' (BoolR R)) :
    Calls Tryz.prog 81 #[q.val, .pointer (some ⟨bf, 0, none⟩)] w (BoolR fun b w' => R (!b) w') := by
  obtain ⟨lf, cf, _, _⟩ := h.box
  have HC := Lib.hid hc
  clear hc
  simp only [Pr.val] at HC ⊢
  go_enter Tryz.func81, Tryz.ntmps81
  go_upto_region 1 with fail
  refine boxed1 (w := w) (G := fun x => Code.wp _ _ _ _ x) ?_
  intro w1 hx1 hs1 ⟨l0, c0, _, _⟩
  have hx11 : Ext w1 w1 := Ext.refl _
  clear hs1
  go_wp2_with fail
  go_at_call 38
  refine (HC.out w1 hx1).mono ?_
  rintro e w2 ⟨b, rfl, hb⟩
  have HB := Lib.hid hb
  clear hb
  go_wp2_with fail
  go_ret
  exact boolR_not HB.out

set_option maxRecDepth 100000 in
set_option maxHeartbeats 1000000 in
theorem each_any {σ : Type} (w0 : World) (B : Nat) (g : Nat) (lb : Array Value) (eg : Enters Tryz.prog g) (I : σ → World → Prop) (Q : World → Prop) (step : Pr → σ → σ) (good Ok : Pr → Prop)
    (hB : B ≤ w0.heap.size) (hI : ∀ s w', I s w' → Ext w0 w') (hx : ∀ s w1 w2, I s w1 → Ext w1 w2 → I s w2)
    (hf : ∀ q, q.NodeAt w0 → Ok q → ∀ s w', I s w' → Calls Tryz.prog g (#[q.val] ++ lb) w' (EachStep B I Q (good q) (step q s) w')) :
    ∀ p : Pr, p.At w0 → p.All Ok → ∀ s w, I s w → Calls Tryz.prog 38 #[p.val, .func (.func g) #[] lb] w (EachStep B I Q (p.All good) (p.foldP step s) w) := by
  intro p
  induction p using Pr.ind with
  | h p ih =>
    intro hp hok s w hIw
    have HF := Lib.hid fun w' (h : I s w') => hf p hp.here hok.here s w' h
    have HP := Lib.hid hp
    have HOK := Lib.hid hok
    have HIH := Lib.hid ih
    have HI := Lib.hid hI
    have HX := Lib.hid hx
    have HW := Lib.hid hIw
    have hx0 := hI s w hIw
    have hb0 : B ≤ w.heap.size := Nat.le_trans hB hx0.le
    clear hp hok ih hI hx hIw hf
    have HG := Lib.hid eg
    unfold Enters at eg
    simp only [Pr.val]
    go_enter Tryz.func38, Tryz.ntmps38
    go_upto_region 1 with fail
    refine boxed2 (w := w) (G := fun x => Code.wp _ _ _ _ x) ?_
    intro w2 hx2 hs2 ⟨l0, c0, _, k0⟩ ⟨l1, c1, _, k1⟩
    have hx22 : Ext w2 w2 := Ext.refl _
    have HI2 := Lib.hid (HX.out s w w2 HW.out hx2)
    have hc := HF.out w2 HI2.out
    simp only [Pr.val] at hc
    have HK0 := Lib.hid k0
    have HK1 := Lib.hid k1
    clear hs2 k0 k1
    have hb1 : B ≤ w.heap.size + 1 := by omega
    go_wp2_with fail
    go_at_fn g
    refine hc.mono ?_
    rintro e w3 ⟨hk3, b, rfl, hy, hn⟩
    have HK3 := Lib.hid hk3
    clear hk3
    cases b with
    | false =>
      have HN := Lib.hid (hn rfl)
      clear hn hy
      go_wp2_with fail
      go_ret
      exact ⟨(hx2.keep B).trans HK3.out, false, rfl, (fun h => by cases h), fun _ => ⟨fun h => HN.out.1 h.here, HN.out.2⟩⟩
    | true =>
      have HY := Lib.hid (hy rfl)
      clear hn hy l0 c0 l1 c1 hc
      have h0 := HK0.out
      have h1 := HK1.out
      have g0 : Hold w3 w.heap.size _ := Hold.keep h0 HK3.out hb0
      have g1 : Hold w3 (w.heap.size + 1) _ := Hold.keep h1 HK3.out hb1
      have HG1 := Lib.hid g1
      obtain ⟨l0, c0, _, _⟩ := g0.box
      clear h0 h1 g0 g1
      have hx33 : Ext w3 w3 := Ext.refl _
      have hH := has_Pred w0 w3 p HP.out.here 81 #[.pointer (some ⟨w.heap.size + 1, 0, none⟩)]
        (fun i w' => Keep B w3 w' ∧ I (foldK (fun i => (p.kid i).foldP step) i (step p s)) w' ∧ ∀ j, j < i → (p.kid j).All good)
        (fun i w' => Keep B w3 w' ∧ ¬ (p.kid i).All good ∧ Q w')
        (fun i w' h => HI.out _ _ h.2.1) ⟨Keep.refl _ _, HY.out.2, fun j hj => absurd hj (Nat.not_lt_zero _)⟩ (enters_of Tryz.func81 (by kernel_rfl) rfl)
        (fun i hi w' hIw => by
          refine (each1_any w' (p.kid i) (w.heap.size + 1) (.func g) #[] lb (Hold.keep HG1.out hIw.1 hb1)
            (R := fun b w'' => Keep B w3 w'' ∧ (b = true → (p.kid i).All good ∧ I (foldK (fun i => (p.kid i).foldP step) (i + 1) (step p s)) w'') ∧ (b = false → ¬ (p.kid i).All good ∧ Q w''))
            (fun w1 hx1 => (HIH.out i hi (HP.out.kid hi) (HOK.out.kid hi) _ w1 (HX.out _ _ _ hIw.2.1 hx1)).mono ?_)).mono ?_
          · rintro e w2 ⟨hk, b, rfl, hy, hn⟩
            exact ⟨b, rfl, hIw.1.trans ((hx1.keep B).trans hk), hy, hn⟩
          · rintro e w2 ⟨b, rfl, hk, hy, hn⟩
            refine ⟨b, rfl, fun hb => ?_, fun hb => ?_⟩
            · subst hb
              have := hy rfl
              exact ⟨hk, this.2, fun j hj => by
                by_cases e : j = i
                · subst e; exact this.1
                · exact hIw.2.2 j (by omega)⟩
            · subst hb
              exact ⟨hk, hn rfl⟩)
      go_wp2_with fail
      go_at_call 51
      refine hH.mono ?_
      rintro e w4 ⟨b, rfl, h0, h1⟩
      have H0 := Lib.hid h0
      have H1 := Lib.hid h1
      clear h0 h1 hH
      cases b with
      | false =>
        have H := Lib.hid (H0.out rfl)
        clear H0 H1
        go_wp2_with fail
        go_ret
        exact ⟨((hx2.keep B).trans HK3.out).trans H.out.1, true, rfl, fun _ => ⟨(Pr.All_eq _ _).2 ⟨HY.out.1, H.out.2.2⟩, by rw [Pr.foldP_eq]; exact H.out.2.1⟩, (fun h => by cases h)⟩
      | true =>
        obtain ⟨i, hi, h⟩ := H1.out rfl
        have H := Lib.hid h
        clear H0 H1 h
        go_wp2_with fail
        go_ret
        exact ⟨((hx2.keep B).trans HK3.out).trans H.out.1, false, rfl, (fun h => by cases h), fun _ => ⟨fun h => H.out.2.1 (h.kid hi), H.out.2.2⟩⟩
/-- a function that only reads: do all nodes fulfill it? -/
theorem each_bool (w0 : World) (g : Nat) (lb : Array Value) (eg : Enters Tryz.prog g) (good Ok : Pr → Prop)
    (hf : ∀ q, q.NodeAt w0 → Ok q → ∀ w', Ext w0 w' → Calls Tryz.prog g (#[q.val] ++ lb) w' (BoolPost (good q) w'))
    (p : Pr) (hp : p.At w0) (hok : p.All Ok) : Calls Tryz.prog 38 #[p.val, .func (.func g) #[] lb] w0 (BoolPost (p.All good) w0) := by
  have h := each_any (σ := Unit) w0 0 g lb eg (fun _ w' => Ext w0 w') (fun w' => Ext w0 w') (fun _ _ => ()) good Ok (Nat.zero_le _) (fun _ _ h => h) (fun _ _ _ h x => h.trans x)
    (fun q hq ho s w' hx => (hf q hq ho w' hx).mono fun e w2 ⟨b, he, hb, hx2⟩ => ⟨hx2.keep 0, b, he, fun h => ⟨hb.1 h, hx.trans hx2⟩, fun h => ⟨(fun h' => by rw [hb.2 h'] at h; cases h), hx.trans hx2⟩⟩)
    p hp hok () w0 (Ext.refl _)
  refine h.mono fun e w2 ⟨_, b, he, h1, h2⟩ => ?_
  cases b with
  | true => exact ⟨true, he, ⟨fun _ => (h1 rfl).1, fun _ => rfl⟩, (h1 rfl).2⟩
  | false => exact ⟨false, he, ⟨(fun h => by cases h), fun h => absurd h (h2 rfl).1⟩, (h2 rfl).2⟩

end Go.Proofs.YtdplphoohnnbcaaGreatDoor

namespace Go.Proofs.YtdplphoohnnbcaaGreatDoor
open Go.RowKit Go.Shelf

/-- a well-formed tree -/
def Pr.Formed (p : Pr) : Prop := p.cnt ≤ 200 ∧ p.dep ≤ 20 ∧ p.All Pr.NodeOk
theorem Pr.cnt_pos (p : Pr) : 1 ≤ p.cnt := by rw [Pr.cnt_eq]; omega
theorem Pr.dep_pos (p : Pr) : 1 ≤ p.dep := by rw [Pr.dep_eq]; omega
theorem setw {w : World} {p : Addr} {v : Value} {G : World → Prop} (h : ∀ w7, w7 = w.setCell p v → G w7) : G (w.setCell p v) := h _ rfl
/-- what remains to be asked of a tree: nodes, depth -/
def Pr.Ok (p : Pr) (left depth : Int) : Prop := (p.cnt : Int) ≤ left ∧ (p.dep : Int) + depth ≤ 21 ∧ p.All Pr.NodeOk
def WalkR (w0 : World) (bl : Nat) (p : Pr) (left depth : Int) (w : World) (b : Bool) (w' : World) : Prop :=
  Keep (bl + 1) w w' ∧ Ext w0 w' ∧ (b = true → p.Ok left depth ∧ Hold w' bl #[.int .i64 (left - p.cnt)]) ∧ (b = false → ¬ p.Ok left depth)
theorem WalkR.keep {w0 w w1 w2 : World} {bl : Nat} {p : Pr} {left depth : Int} {b : Bool} (h : WalkR w0 bl p left depth w1 b w2) (k : Keep (bl + 1) w w1) : WalkR w0 bl p left depth w b w2 := ⟨k.trans h.1, h.2⟩
abbrev walkF (bl : Nat) : Value := .func (.func 63) #[] #[.pointer (some ⟨bl, 0, none⟩), .pointer (some ⟨bl + 1, 0, none⟩)]
set_option maxRecDepth 100000 in
set_option maxHeartbeats 1000000 in
theorem walk11_any (w0 w : World) (q : Pr) (bl bd : Nat) (left depth : Int) (h1 : 1 ≤ depth) (h2 : depth ≤ 20) (hw : Hold w (bl + 1) #[walkF bl]) (hd : Hold w bd #[.int .i64 depth])
    (hc : ∀ w', Ext w w' → Calls Tryz.prog 63 #[q.val, .int .i64 (depth + 1), .pointer (some ⟨bl, 0, none⟩), .pointer (some ⟨bl + 1, 0, none⟩)] w' (BoolR (WalkR w0 bl q left (depth + 1) w'))) :
    Calls Tryz.prog 65 #[q.val, .pointer (some ⟨bl + 1, 0, none⟩), .pointer (some ⟨bd, 0, none⟩)] w (BoolR fun b w' => WalkR w0 bl q left (depth + 1) w (!b) w') := by
  obtain ⟨lf, cf, _, _⟩ := hw.box
  obtain ⟨ld, cd, _, _⟩ := hd.box
  have HC := Lib.hid hc
  clear hc
  simp only [Pr.val] at HC ⊢
  go_enter Tryz.func65, Tryz.ntmps65
  go_upto_region 1 with fail
  refine boxed1 (w := w) (G := fun x => Code.wp _ _ _ _ x) ?_
  intro w1 hx1 hs1 ⟨l0, c0, _, _⟩
  have hx11 : Ext w1 w1 := Ext.refl _
  clear hs1
  go_wp2_with fail
  go_at_call 63
  refine (HC.out w1 hx1).mono ?_
  rintro e w2 ⟨b, rfl, hb⟩
  have HB := Lib.hid hb
  clear hb
  go_wp2_with fail
  go_ret
  exact boolR_not (R := fun b w' => WalkR w0 bl q left (depth + 1) w b w') (HB.out.keep (hx1.keep _))
theorem Pr.sum_cast (f : Nat → Nat) (i : Nat) : (Pr.sum f (i + 1) : Int) = Pr.sum f i + f i := by
  have : Pr.sum f (i + 1) = Pr.sum f i + f i := rfl
  omega
set_option maxRecDepth 100000 in
set_option maxHeartbeats 1000000 in
theorem walk1_any (w0 : World) (bl : Nat) (hbl : w0.heap.size ≤ bl) (hT : TabAt w0) : ∀ p : Pr, p.At w0 → ∀ (left depth : Int) (w : World), Ext w0 w → Hold w bl #[.int .i64 left] → Hold w (bl + 1) #[walkF bl] →
    0 ≤ left → left ≤ 200 → 1 ≤ depth → depth ≤ 21 →
    Calls Tryz.prog 63 #[p.val, .int .i64 depth, .pointer (some ⟨bl, 0, none⟩), .pointer (some ⟨bl + 1, 0, none⟩)] w (BoolR (WalkR w0 bl p left depth w)) := by
  intro p
  induction p using Pr.ind with
  | h p ih =>
    intro hp left depth w hx0 hl hwk h1 h2 h3 h4
    have HP := Lib.hid hp
    have HIH := Lib.hid ih
    have HT := Lib.hid hT
    have hcnt := p.cnt_pos
    have hdep := p.dep_pos
    have HL := Lib.hid hl
    have HWK := Lib.hid hwk
    have hbw : bl + 1 < w.heap.size := hwk.lt
    clear hp ih hT hl hwk
    simp only [Pr.val]
    go_enter Tryz.func63, Tryz.ntmps63
    go_upto_region 1 with fail
    refine boxed2 (w := w) (G := fun x => Code.wp _ _ _ _ x) ?_
    intro w1 hx1 hs1 ⟨_, _, _, k0⟩ ⟨_, _, _, k1⟩
    have hL1 : Hold w1 bl _ := Hold.ext HL.out hx1
    have hW1 : Hold w1 (bl + 1) _ := Hold.ext HWK.out hx1
    have hK0 : Hold w1 w.heap.size _ := k0
    have hK1 : Hold w1 (w.heap.size + 1) _ := k1
    have HL1 := Lib.hid hL1
    have HW1 := Lib.hid hW1
    have HK0 := Lib.hid hK0
    have HK1 := Lib.hid hK1
    have hbx := hL1.box
    obtain ⟨ll, cl, fl, _⟩ := hbx
    clear k0 k1 hL1 hW1 hK0 hK1
    have hx11 : Ext w1 w1 := Ext.refl _
    go_upto_region 2 with fail
    refine setw (w := w1) (G := fun x => Code.wp _ _ _ _ x) ?_
    intro w2 hw2
    have hL2 : Hold w2 bl #[.int .i64 (left - 1)] := by rw [hw2]; exact HL1.out.set 0 _
    have hW2 : Hold w2 (bl + 1) #[walkF bl] := by rw [hw2]; exact HW1.out.other _ _ (by simp)
    have hK02 : Hold w2 w.heap.size #[.int .i64 p.kind, .int .i64 p.num, .int .i64 p.proc, .int .i64 p.peer, .string p.name, .slice p.a p.len p.cap] := by rw [hw2]; exact HK0.out.other _ _ (by simp; omega)
    have hK12 : Hold w2 (w.heap.size + 1) #[.int .i64 depth] := by rw [hw2]; exact HK1.out.other _ _ (by simp; omega)
    have hx02 : Ext w0 w2 := by rw [hw2]; exact (hx0.trans hx1).setCell hbl _
    have hk12 : Keep (bl + 1) w w2 := by rw [hw2]; exact (hx1.keep _).setCell (by simp) _
    have HL2 := Lib.hid hL2
    have HW2 := Lib.hid hW2
    have HX2 := Lib.hid hx02
    have HK2 := Lib.hid hk12
    have HK12 := Lib.hid hK12
    have HK02 := Lib.hid hK02
    have hs2 : w.heap.size + 2 ≤ w2.heap.size := by rw [hw2, World.size_setCell]; omega
    clear hw2 ll cl fl hs1
    obtain ⟨la, ca, _, _⟩ := hL2.box
    obtain ⟨lb, cb, _, _⟩ := hK02.box
    obtain ⟨lc, cc, _, _⟩ := hK12.box
    clear hL2 hW2 hK02 hK12 hk12
    have hx22 : Ext w2 w2 := Ext.refl _
    by_cases hz : left = 0
    · have d1 : decide (left - 1 < 0) = true := decide_eq_true (by omega)
      go_wp2_with fail
      go_ret
      exact ⟨false, rfl, HK2.out, HX2.out, (fun h => by cases h), fun _ h => by have := h.1; omega⟩
    · have d1 : decide (left - 1 < 0) = false := decide_eq_false (by omega)
      by_cases hdd : depth = 21
      · have d2 : decide (20 < depth) = true := decide_eq_true (by omega)
        go_wp2_with fail
        go_ret
        exact ⟨false, rfl, HK2.out, HX2.out, (fun h => by cases h), fun _ h => by have := h.2.1; omega⟩
      · have d2 : decide (20 < depth) = false := decide_eq_false (by omega)
        have hf := pfits_any w2 (HT.out.ext HX2.out) p.kind p.num p.proc p.peer p.name p.a p.len p.cap
        go_wp2_with fail
        go_at_call 64
        refine hf.mono ?_
        rintro e w3 ⟨b, rfl, hb, hx3⟩
        have HB := Lib.hid hb
        clear hb hf
        cases b with
        | false =>
          go_wp2_with fail
          go_ret
          exact ⟨false, rfl, HK2.out.trans (hx3.keep _), HX2.out.trans hx3, (fun h => by cases h), fun _ h => by have := HB.out.2 h.2.2.here; cases this⟩
        | true =>
          have HN := Lib.hid (show p.NodeOk from HB.out.1 rfl)
          clear HB
          have hx23 := hx3
          have HX3 := Lib.hid (HX2.out.trans hx3)
          have HL3 := Lib.hid (HL2.out.ext hx3)
          have HW3 := Lib.hid (HW2.out.ext hx3)
          have HD3 := Lib.hid (HK12.out.ext hx3)
          have HK3 := Lib.hid (HK2.out.trans (hx3.keep _))
          have hH := has_Pred w0 w3 p HP.out.here 65 #[.pointer (some ⟨bl + 1, 0, none⟩), .pointer (some ⟨w.heap.size + 1, 0, none⟩)]
            (fun i w' => Keep (bl + 1) w3 w' ∧ Ext w0 w' ∧ Hold w' bl #[.int .i64 (left - 1 - (Pr.sum (fun i => (p.kid i).cnt) i : Int))] ∧ (Pr.sum (fun i => (p.kid i).cnt) i : Int) ≤ left - 1 ∧ ∀ j, j < i → ((p.kid j).dep : Int) + (depth + 1) ≤ 21 ∧ (p.kid j).All Pr.NodeOk)
            (fun i w' => Keep (bl + 1) w3 w' ∧ Ext w0 w' ∧ ¬ (p.kid i).Ok (left - 1 - (Pr.sum (fun i => (p.kid i).cnt) i : Int)) (depth + 1))
            (fun i w' h => h.2.1) ⟨Keep.refl _ _, HX3.out, by simpa [Pr.sum] using HL3.out, by simp [Pr.sum]; omega, fun j hj => absurd hj (Nat.not_lt_zero _)⟩ (enters_of Tryz.func65 (by kernel_rfl) rfl)
            (fun i hi w' hI => by
              obtain ⟨i1, i2, i3, i4, i5⟩ := hI
              refine (walk11_any w0 w' (p.kid i) bl (w.heap.size + 1) (left - 1 - (Pr.sum (fun i => (p.kid i).cnt) i : Int)) depth h3 (by omega) (Hold.keep HW3.out i1 (by omega)) (Hold.keep HD3.out i1 (by omega))
                (fun w4 hx4 => HIH.out i hi (HP.out.kid hi) _ _ w4 (i2.trans hx4) (i3.ext hx4) ((Hold.keep HW3.out i1 (by omega)).ext hx4) (by omega) (by omega) (by omega) (by omega))).mono ?_
              rintro e w4 ⟨b, rfl, k1, k2, k3, k4⟩
              refine ⟨b, rfl, fun hb => ?_, fun hb => ?_⟩
              · subst hb
                obtain ⟨⟨o1, o2, o3⟩, o4⟩ := k3 rfl
                have hsum := Pr.sum_cast (fun i => (p.kid i).cnt) i
                refine ⟨i1.trans k1, k2, ?_, by rw [hsum]; omega, fun j hj => ?_⟩
                · rw [hsum, show left - 1 - ((Pr.sum (fun i => (p.kid i).cnt) i : Int) + ((p.kid i).cnt : Int)) = left - 1 - (Pr.sum (fun i => (p.kid i).cnt) i : Int) - ((p.kid i).cnt : Int) by omega]; exact o4
                · by_cases e : j = i
                  · subst e; exact ⟨o2, o3⟩
                  · exact i5 j (by omega)
              · subst hb
                exact ⟨i1.trans k1, k2, k4 rfl⟩)
          obtain ⟨la, ca, _, _⟩ := (HK02.out.ext hx3).box
          have hx33 : Ext w3 w3 := Ext.refl _
          go_wp2_with fail
          go_at_call 51
          refine hH.mono ?_
          rintro e w4 ⟨b, rfl, q0, q1⟩
          have H0 := Lib.hid q0
          have H1 := Lib.hid q1
          clear q0 q1 hH
          cases b with
          | false =>
            have H := Lib.hid (H0.out rfl)
            clear H0 H1
            go_wp2_with fail
            go_ret
            obtain ⟨i1, i2, i3, i4, i5⟩ := H.out
            have hcs : (p.cnt : Int) = 1 + (Pr.sum (fun i => (p.kid i).cnt) p.len : Int) := by rw [Pr.cnt_eq]; omega
            have hds : (p.dep : Int) + depth ≤ 21 := by
              have : Pr.most (fun i => (p.kid i).dep) p.len ≤ (20 - depth).toNat := Pr.most_le.2 fun i hi => by have := (i5 i hi).1; omega
              rw [Pr.dep_eq]; omega
            refine ⟨true, rfl, HK3.out.trans i1, i2, fun _ => ⟨⟨by omega, hds, (Pr.All_eq _ _).2 ⟨HN.out, fun i hi => (i5 i hi).2⟩⟩, ?_⟩, (fun h => by cases h)⟩
            rw [hcs, show left - (1 + (Pr.sum (fun i => (p.kid i).cnt) p.len : Int)) = left - 1 - (Pr.sum (fun i => (p.kid i).cnt) p.len : Int) by omega]; exact i3
          | true =>
            obtain ⟨i, hi, h⟩ := H1.out rfl
            have H := Lib.hid h
            clear H0 H1 h
            go_wp2_with fail
            go_ret
            obtain ⟨i1, i2, i3⟩ := H.out
            refine ⟨false, rfl, HK3.out.trans i1, i2, (fun h => by cases h), fun _ h => i3 ⟨?_, ?_, h.2.2.kid hi⟩⟩
            · have hcs : (p.cnt : Int) = 1 + (Pr.sum (fun i => (p.kid i).cnt) p.len : Int) := by rw [Pr.cnt_eq]; omega
              have hsum := Pr.sum_cast (fun i => (p.kid i).cnt) i
              have hm := Pr.sum_mono (f := fun i => (p.kid i).cnt) (k := i + 1) (n := p.len) hi
              have := h.1
              omega
            · have hd := h.2.1
              have hm := (Pr.most_le (f := fun i => (p.kid i).dep) (n := p.len) (m := Pr.most (fun i => (p.kid i).dep) p.len)).1 (Nat.le_refl _) i hi
              rw [Pr.dep_eq] at hd
              omega

set_option maxRecDepth 100000 in
set_option maxHeartbeats 1000000 in
theorem formed_any' (w : World) (hT : TabAt w) (p : Pr) (hp : p.At w) : Calls Tryz.prog 28 #[p.val] w (BoolPost p.Formed w) := by
  have HP := Lib.hid hp
  have HT := Lib.hid hT
  clear hp hT
  simp only [Pr.val]
  go_enter Tryz.func28, Tryz.ntmps28
  go_upto_region 1 with fail
  refine boxed1 (w := w) (G := fun x => Code.wp _ _ _ _ x) ?_
  intro w1 hx1 hs1 ⟨l0, c0, _, k0⟩
  have hx11 : Ext w1 w1 := Ext.refl _
  go_upto_region 4 with fail
  refine boxed2 (w := w1) (G := fun x => Code.wp _ _ _ _ x) ?_
  intro w3 hx3 hs3 b1 b2
  rw [hs1] at b1 b2 hs3
  have k1 := b1.hold
  have k2 := b2.hold
  obtain ⟨l1, c1, _, _⟩ := b1
  obtain ⟨l2, c2, _, _⟩ := b2
  have hx33 : Ext w3 w3 := Ext.refl _
  have hW := walk1_any w (w.heap.size + 1) (by omega) HT.out p HP.out 200 1 w3 (hx1.trans hx3) k1 k2 (by omega) (by omega) (by omega) (by omega)
  have HX3 := Lib.hid (hx1.trans hx3)
  clear k0 k1 k2 hs1 hs3
  simp only [Pr.val] at hW
  go_wp2_with fail
  go_at_call 63
  refine hW.mono ?_
  rintro e w4 ⟨b, rfl, hk, hx4, h1, h2⟩
  have H1 := Lib.hid h1
  have H2 := Lib.hid h2
  clear h1 h2 hW
  go_wp2_with fail
  go_ret
  refine BoolPost.mk0 ?_ hx4
  unfold Pr.Formed
  cases b with
  | true =>
    obtain ⟨⟨o1, o2, o3⟩, _⟩ := H1.out rfl
    exact ⟨fun _ => ⟨by omega, by omega, o3⟩, fun _ => rfl⟩
  | false => exact ⟨(fun h => by cases h), fun h => absurd ⟨by omega, by omega, h.2.2⟩ (H2.out rfl)⟩

end Go.Proofs.YtdplphoohnnbcaaGreatDoor
