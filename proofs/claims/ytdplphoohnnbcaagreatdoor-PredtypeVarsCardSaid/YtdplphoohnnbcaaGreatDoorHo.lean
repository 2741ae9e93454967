/- Contracts of antecederef28: count, Size, Depth. Contracts of antecederef28: parts, nodes, Formed. -/
import Derived.Test.YtdplphoohnnbcaaGreatDoorHi
import Derived.Deep.LoopGhost
namespace Go.Proofs.YtdplphoohnnbcaaGreatDoor
open Go.RowKit Go.Shelf

/-- the number of nodes, or a number greater than a limit -/
def Pr.cntL (p : Pr) (l : Int) : Int := if (p.cnt : Int) ≤ l then p.cnt else l + 1
def Pr.depL (p : Pr) (l : Int) : Int := if (p.dep : Int) ≤ l then p.dep else l + 1
theorem Pr.cntL_le (p : Pr) (l : Int) : p.cntL l ≤ l + 1 := by unfold Pr.cntL; split <;> omega
theorem Pr.cntL_pos (p : Pr) {l : Int} (h : 0 ≤ l) : 1 ≤ p.cntL l := by unfold Pr.cntL; have := p.cnt_pos; split <;> omega
theorem Pr.depL_le (p : Pr) (l : Int) : p.depL l ≤ l + 1 := by unfold Pr.depL; split <;> omega
theorem Pr.depL_pos (p : Pr) {l : Int} (h : 0 ≤ l) : 1 ≤ p.depL l := by unfold Pr.depL; have := p.dep_pos; split <;> omega
def IntPost (x : Int) (w : World) (e : Ending) (w' : World) : Prop := e = .returned (.int .i64 x) ∧ Ext w w'
set_option maxRecDepth 100000 in
set_option maxHeartbeats 1000000 in
theorem rcount_any (w0 : World) : ∀ p : Pr, p.At w0 → ∀ (l : Int) (w : World), Ext w0 w → 0 ≤ l → l ≤ 1000 →
    Calls Tryz.prog 86 #[p.val, .int .i64 l] w (IntPost (p.cntL l) w) := by
  intro p
  induction p using Pr.ind with
  | h p ih =>
    intro hp l w hx hl0 hl1
    have HP := Lib.hid hp
    have HIH := Lib.hid ih
    have hn := hp.here.hn
    clear hp ih
    simp only [Pr.val]
    obtain ⟨pa, hpa⟩ : ∃ a, a = p.a := ⟨_, rfl⟩
    rw [← hpa]
    have HA := Lib.hid hpa
    clear hpa
    go_enter Tryz.func86, Tryz.ntmps86
    go_upto_region 1 with fail
    refine boxed1 (w := w) (G := fun x => Code.wp _ _ _ _ x) ?_
    intro w1 hx1 hs1 ⟨l0, c0, _, _⟩
    have hx11 : Ext w1 w1 := Ext.refl _
    have hx01 := hx.trans hx1
    clear hs1
    go_wp2_with fail
    go_loopg [5, 6] p.len (fun gg v5 v6 wr => ∃ (i : Nat) (n : Int), i ≤ p.len ∧ gg = p.len - i ∧ v6 = .int .i64 i ∧ v5 = .int .i64 n ∧ 1 ≤ n ∧ n ≤ l + 1 ∧ ((n = 1 + (Pr.sum (fun i => (p.kid i).cnt) i : Int)) ∨ (n = l + 1 ∧ l < 1 + (Pr.sum (fun i => (p.kid i).cnt) i : Int))) ∧ Ext w1 wr)
    case atStart => exact ⟨0, 1, by omega, rfl, rfl, rfl, by omega, by omega, .inl (by simp [Pr.sum]), hx11⟩
    case round =>
      obtain ⟨i, n, hi, rfl, rfl, rfl, hn1, hn2, hinv, hxr⟩ := hrel
      have HINV := Lib.hid hinv
      have hx0r := hx01.trans hxr
      clear hinv
      by_cases hlt : i < p.len
      · by_cases hnl : n ≤ l
        · have d1 : decide (n ≤ l) = true := decide_eq_true hnl
          have hlt' : (i : Int) < (p.len : Int) := by omega
          obtain rfl : pa = some ⟨p.b, p.off, none⟩ := by rw [HA.out]; exact HP.out.here.ha (by omega)
          have kb : ∀ w', Ext w0 w' → p.b < w'.heap.size := HP.out.here.hb (by omega)
          have k0 := fun w' h => HP.out.here.c0 w' h i hlt
          have k1 := fun w' h => HP.out.here.c1 w' h i hlt
          have k2 := fun w' h => HP.out.here.c2 w' h i hlt
          have k3 := fun w' h => HP.out.here.c3 w' h i hlt
          have k4 := fun w' h => HP.out.here.c4 w' h i hlt
          have k5 := fun w' h => HP.out.here.c5 w' h i hlt
          have hc := HIH.out i hlt (HP.out.kid hlt) (l - n) wr hx0r (by omega) (by omega)
          simp only [Pr.val] at hc
          have q1 := (p.kid i).cntL_pos (l := l - n) (by omega)
          have q2 := (p.kid i).cntL_le (l - n)
          have HCL := Lib.hid (show (p.kid i).cntL (l - n) = if ((p.kid i).cnt : Int) ≤ l - n then ((p.kid i).cnt : Int) else l - n + 1 from rfl)
          have HSC := Lib.hid (Pr.sum_cast (fun i => (p.kid i).cnt) i)
          generalize (p.kid i).cntL (l - n) = m at hc q1 q2 HCL
          go_wp2_with fail
          go_at_call 86
          refine hc.mono ?_
          rintro e w2 ⟨rfl, hx2⟩
          have hx12 := hxr.trans hx2
          clear hc k0 k1 k2 k3 k4 k5 kb
          go_wp2_with fail
          go_roundg (p.len - (i + 1))
          case rel =>
            refine ⟨i + 1, n + m, by omega, rfl, by go_num, rfl, by omega, by omega, ?_, hx12⟩
            have h1 := HINV.out
            have h2 := HCL.out
            have h3 := HSC.out
            rw [h3]
            split at h2
            · left; omega
            · right; omega
          case measure => omega
        · have d1 : decide (n ≤ l) = false := decide_eq_false hnl
          go_wp2_with fail
          go_ret
          refine ⟨ret_int ?_, hx1.trans hxr⟩
          have h1 := HINV.out
          have h2 := Pr.sum_mono (f := fun i => (p.kid i).cnt) (k := i) (n := p.len) (by omega)
          have h3 := p.cnt_eq
          unfold Pr.cntL
          rw [if_neg (by omega)]; omega
      · have hie : i = p.len := by omega
        subst hie
        go_wp2_with fail
        go_ret
        refine ⟨ret_int ?_, hx1.trans hxr⟩
        have h1 := HINV.out
        have h3 := p.cnt_eq
        unfold Pr.cntL
        split <;> omega
set_option maxRecDepth 100000 in
set_option maxHeartbeats 1000000 in
theorem rDepth_any (w0 : World) : ∀ p : Pr, p.At w0 → ∀ (l : Int) (w : World), Ext w0 w → 0 ≤ l → l ≤ 1000 →
    Calls Tryz.prog 48 #[p.val, .int .i64 l] w (IntPost (p.depL l) w) := by
  intro p
  induction p using Pr.ind with
  | h p ih =>
    intro hp l w hx hl0 hl1
    have HP := Lib.hid hp
    have HIH := Lib.hid ih
    have hn := hp.here.hn
    clear hp ih
    by_cases hlz : l = 0
    · subst hlz
      simp only [Pr.val]
      obtain ⟨pa, hpa⟩ : ∃ a, a = p.a := ⟨_, rfl⟩
      rw [← hpa]
      have HA := Lib.hid hpa
      clear hpa
      go_enter Tryz.func48, Tryz.ntmps48
      go_upto_region 1 with fail
      refine boxed1 (w := w) (G := fun x => Code.wp _ _ _ _ x) ?_
      intro w1 hx1 hs1 ⟨l0, c0, _, _⟩
      have hx11 : Ext w1 w1 := Ext.refl _
      have hx01 := hx.trans hx1
      clear hs1
      go_wp2_with fail
      go_ret
      refine ⟨ret_int ?_, hx1⟩
      unfold Pr.depL
      have := p.dep_pos
      rw [if_neg (by omega)]; rfl
    · have d0 : (l == 0) = false := by simp [hlz]
      simp only [Pr.val]
      obtain ⟨pa, hpa⟩ : ∃ a, a = p.a := ⟨_, rfl⟩
      rw [← hpa]
      have HA := Lib.hid hpa
      clear hpa
      go_enter Tryz.func48, Tryz.ntmps48
      go_upto_region 1 with fail
      refine boxed1 (w := w) (G := fun x => Code.wp _ _ _ _ x) ?_
      intro w1 hx1 hs1 ⟨l0, c0, _, _⟩
      have hx11 : Ext w1 w1 := Ext.refl _
      have hx01 := hx.trans hx1
      clear hs1
      go_wp2_with fail
      go_loopg [5, 6] p.len (fun gg v5 v6 wr => ∃ (i : Nat) (n : Int), i ≤ p.len ∧ gg = p.len - i ∧ v6 = .int .i64 i ∧ v5 = .int .i64 n ∧ 0 ≤ n ∧ n ≤ l ∧ ((n = (Pr.most (fun i => (p.kid i).dep) i : Int)) ∨ (n = l ∧ l ≤ (Pr.most (fun i => (p.kid i).dep) i : Int))) ∧ Ext w1 wr)
      case atStart => exact ⟨0, 0, by omega, rfl, rfl, rfl, by omega, by omega, .inl (by simp [Pr.most]), hx11⟩
      case round =>
        obtain ⟨i, n, hi, rfl, rfl, rfl, hn1, hn2, hinv, hxr⟩ := hrel
        have HINV := Lib.hid hinv
        have hx0r := hx01.trans hxr
        clear hinv
        by_cases hlt : i < p.len
        · skip
          have hlt' : (i : Int) < (p.len : Int) := by omega
          obtain rfl : pa = some ⟨p.b, p.off, none⟩ := by rw [HA.out]; exact HP.out.here.ha (by omega)
          have kb : ∀ w', Ext w0 w' → p.b < w'.heap.size := HP.out.here.hb (by omega)
          have k0 := fun w' h => HP.out.here.c0 w' h i hlt
          have k1 := fun w' h => HP.out.here.c1 w' h i hlt
          have k2 := fun w' h => HP.out.here.c2 w' h i hlt
          have k3 := fun w' h => HP.out.here.c3 w' h i hlt
          have k4 := fun w' h => HP.out.here.c4 w' h i hlt
          have k5 := fun w' h => HP.out.here.c5 w' h i hlt
          have hc := HIH.out i hlt (HP.out.kid hlt) (l - 1) wr hx0r (by omega) (by omega)
          simp only [Pr.val] at hc
          have q1 := (p.kid i).depL_pos (l := l - 1) (by omega)
          have q2 := (p.kid i).depL_le (l - 1)
          have HCL := Lib.hid (show (p.kid i).depL (l - 1) = if ((p.kid i).dep : Int) ≤ l - 1 then ((p.kid i).dep : Int) else l - 1 + 1 from rfl)
          have HSC := Lib.hid (show Pr.most (fun i => (p.kid i).dep) (i + 1) = max (Pr.most (fun i => (p.kid i).dep) i) (p.kid i).dep from rfl)
          generalize (p.kid i).depL (l - 1) = m at hc q1 q2 HCL
          go_wp2_with fail
          go_at_call 48
          refine hc.mono ?_
          rintro e w2 ⟨rfl, hx2⟩
          have hx12 := hxr.trans hx2
          clear hc k0 k1 k2 k3 k4 k5 kb
          go_wp2_with fail
          all_goals
            go_roundg (p.len - (i + 1))
            case rel =>
              refine ⟨i + 1, _, by omega, rfl, by go_num, rfl, by omega, by omega, ?_, hx12⟩
              have h1 := HINV.out
              have h2 := HCL.out
              have h3 := HSC.out
              rw [h3]
              split at h2
              · omega
              · omega
            case measure => omega
        · have hie : i = p.len := by omega
          subst hie
          go_wp2_with fail
          go_ret
          refine ⟨ret_int ?_, hx1.trans hxr⟩
          have h1 := HINV.out
          have h3 := p.dep_eq
          unfold Pr.depL
          split <;> omega
set_option maxRecDepth 100000 in
theorem rSize_any (w0 : World) (p : Pr) (hp : p.At w0) (w : World) (hx : Ext w0 w) :
    Calls Tryz.prog 47 #[p.val] w (IntPost (p.cntL 200) w) := by
  have hc := fun w1 h => rcount_any w0 p hp 200 w1 h (by omega) (by omega)
  have q1 := p.cntL_pos (l := 200) (by omega)
  have q2 := p.cntL_le 200
  generalize p.cntL 200 = m at hc q1 q2 ⊢
  simp only [Pr.val] at hc ⊢
  have HC := Lib.hid hc
  clear hc hp
  go_enter Tryz.func47, Tryz.ntmps47
  go_upto_region 1 with fail
  refine boxed1 (w := w) (G := fun x => Code.wp _ _ _ _ x) ?_
  intro w1 hx1 hs1 ⟨l0, c0, _, _⟩
  have hx11 : Ext w1 w1 := Ext.refl _
  clear hs1
  go_wp2_with fail
  go_at_call 86
  refine (HC.out w1 (hx.trans hx1)).mono ?_
  rintro e w2 ⟨rfl, hx2⟩
  go_wp2_with fail
  go_ret
  all_goals first | exact ⟨rfl, hx1.trans hx2⟩ | exact ⟨ret_int (by omega), hx1.trans hx2⟩

end Go.Proofs.YtdplphoohnnbcaaGreatDoor

namespace Go.Proofs.YtdplphoohnnbcaaGreatDoor
open Go.RowKit Go.Shelf

theorem partsI_0 {k : Int} (h : (1 ≤ k ∧ k ≤ 4) ∨ k = 13 ∨ k = 14) : partsI k = 0 := by
  have : k = 1 ∨ k = 2 ∨ k = 3 ∨ k = 4 ∨ k = 13 ∨ k = 14 := by omega
  rcases this with rfl | rfl | rfl | rfl | rfl | rfl <;> rfl
theorem partsI_1 {k : Int} (h : k = 5 ∨ k = 15 ∨ (18 ≤ k ∧ k ≤ 21)) : partsI k = 1 := by
  have : k = 5 ∨ k = 15 ∨ k = 18 ∨ k = 19 ∨ k = 20 ∨ k = 21 := by omega
  rcases this with rfl | rfl | rfl | rfl | rfl | rfl <;> rfl
theorem partsI_2 {k : Int} (h : (6 ≤ k ∧ k ≤ 12) ∨ k = 16 ∨ k = 17) : partsI k = 2 := by
  have : k = 6 ∨ k = 7 ∨ k = 8 ∨ k = 9 ∨ k = 10 ∨ k = 11 ∨ k = 12 ∨ k = 16 ∨ k = 17 := by omega
  rcases this with rfl | rfl | rfl | rfl | rfl | rfl | rfl | rfl | rfl <;> rfl
theorem partsI_no {k : Int} (h : k < 1 ∨ 21 < k) : partsI k = -1 := by
  by_cases h0 : k = 0
  · subst h0; rfl
  · unfold partsI
    by_cases h1 : k < 0
    · rw [if_pos h1]
    · rw [if_neg h1, List.getD_eq_getElem?_getD, List.getElem?_eq_none (by show 22 ≤ _; omega)]; rfl
theorem partsI_range {k : Int} (h : 0 ≤ partsI k) : 1 ≤ k ∧ k ≤ 21 := by
  by_cases h0 : k < 1 ∨ 21 < k
  · rw [partsI_no h0] at h; omega
  · omega
theorem rparts_any (k : Int) (w : World) :
    Calls Tryz.prog 87 #[.int .i64 k] w fun e w' => e = .returned (.int .i64 (partsI k)) ∧ w = w' := by
  by_cases h : 1 ≤ k ∧ k ≤ 21
  · have : k = 1 ∨ k = 2 ∨ k = 3 ∨ k = 4 ∨ k = 5 ∨ k = 6 ∨ k = 7 ∨ k = 8 ∨ k = 9 ∨ k = 10 ∨ k = 11 ∨ k = 12 ∨ k = 13 ∨ k = 14 ∨ k = 15 ∨ k = 16 ∨ k = 17 ∨ k = 18 ∨ k = 19 ∨ k = 20 ∨ k = 21 := by omega
    clear h
    rcases this with rfl | rfl | rfl | rfl | rfl | rfl | rfl | rfl | rfl | rfl | rfl | rfl | rfl | rfl | rfl | rfl | rfl | rfl | rfl | rfl | rfl
    all_goals
      go_enter Tryz.func87, Tryz.ntmps87
      go_wp2
      go_ret
      exact ⟨rfl, rfl⟩
  · have H3 := Lib.hid (partsI_no (k := k) (by omega))
    have e3 : (k == 13) = false := by simp; omega
    have e4 : (k == 14) = false := by simp; omega
    have e5 : (k == 5) = false := by simp; omega
    have e6 : (k == 15) = false := by simp; omega
    have e7 : (k == 16) = false := by simp; omega
    have e8 : (k == 17) = false := by simp; omega
    by_cases h1 : 1 ≤ k
    · have g1 : decide (1 ≤ k) = true := decide_eq_true h1
      have g2 : decide (k ≤ 4) = false := decide_eq_false (by omega)
      have g3 : decide (18 ≤ k) = true := decide_eq_true (by omega)
      have g4 : decide (k ≤ 21) = false := decide_eq_false (by omega)
      have g5 : decide (6 ≤ k) = true := decide_eq_true (by omega)
      have g6 : decide (k ≤ 12) = false := decide_eq_false (by omega)
      clear h h1
      go_enter Tryz.func87, Tryz.ntmps87
      go_wp2
      go_ret
      exact ⟨ret_int H3.out.symm, rfl⟩
    · have g1 : decide (1 ≤ k) = false := decide_eq_false h1
      have g3 : decide (18 ≤ k) = false := decide_eq_false (by omega)
      have g5 : decide (6 ≤ k) = false := decide_eq_false (by omega)
      clear h h1
      go_enter Tryz.func87, Tryz.ntmps87
      go_wp2
      go_ret
      exact ⟨ret_int H3.out.symm, rfl⟩
/-- as the reference says it -/
def NodeR (kind num proc peer : Int) (name : ByteArray) (len : Nat) : Prop :=
  partsI kind = (len : Int) ∧ ((kind = 1 ∧ 0 ≤ num ∧ num ≤ 1125899906842624) ∨ (kind ≠ 1 ∧ num = 0)) ∧ ((2 ≤ kind ∧ kind ≤ 4) ∨ (proc = 0 ∧ peer = 0 ∧ name.toList = []))
theorem nodeR_iff {kind num proc peer : Int} {name : ByteArray} {len : Nat} : NodeR kind num proc peer name len ↔ NodeP kind num proc peer name len := by
  unfold NodeR NodeP
  constructor
  · rintro ⟨h1, h2, h3⟩
    have := partsI_range (k := kind) (by omega)
    exact ⟨by omega, by omega, h1.symm, by omega, by omega, by omega, h3⟩
  · rintro ⟨h1, h2, h3, h4, h5, h6, h7⟩
    exact ⟨h3.symm, by omega, h7⟩

set_option maxRecDepth 100000 in
set_option maxHeartbeats 4000000 in
theorem rnodes_any (w0 : World) : ∀ p : Pr, p.At w0 → ∀ (w : World), Ext w0 w → Calls Tryz.prog 49 #[p.val] w (BoolPost (p.All Pr.NodeOk) w) := by
  intro p
  induction p using Pr.ind with
  | h p ih =>
    intro hp w hx
    have HP := Lib.hid hp
    have HIH := Lib.hid ih
    have hn := hp.here.hn
    clear hp ih
    by_cases q1 : partsI p.kind = (p.len : Int)
    · have d1 : (partsI p.kind != (p.len : Int)) = false := by simp [q1]
      have Q1 := Lib.hid q1
      clear q1
      by_cases q2 : (p.kind = 1 ∧ 0 ≤ p.num ∧ p.num ≤ 1125899906842624) ∨ (p.kind ≠ 1 ∧ p.num = 0)
      · have Q2 := Lib.hid q2
        clear q2
        by_cases q3 : (2 ≤ p.kind ∧ p.kind ≤ 4) ∨ (p.proc = 0 ∧ p.peer = 0 ∧ p.name.toList = [])
        · have Q3 := Lib.hid q3
          clear q3
          have hn0 := Q1.out
          by_cases e1 : p.kind = 1
          · have d2 : (p.kind == 1) = true := by simp [e1]
            have d3 : decide (p.num < 0) = false := decide_eq_false (by have := Q2.out; omega)
            have d4 : decide (1125899906842624 < p.num) = false := decide_eq_false (by have := Q2.out; omega)
            have d5 : decide (p.kind < 2) = true := decide_eq_true (by omega)
            have f0 : p.proc = 0 ∧ p.peer = 0 ∧ p.name.toList = [] := by have := Q3.out; rcases this with h | h; · omega
                                                                         · exact h
            obtain ⟨f1, f2, f3⟩ := f0
            have d6 : (p.proc != 0) = false := by simp [f1]
            have d7 : (p.peer != 0) = false := by simp [f2]
            have d8 : p.name.toList.isEmpty = true := by simp [f3]
            have d9 : (!p.name.toList.isEmpty) = false := by simp [f3]
            clear e1 f1 f2 hn0
            simp only [Pr.val]
            obtain ⟨pa, hpa⟩ : ∃ a, a = p.a := ⟨_, rfl⟩
            rw [← hpa]
            have HA := Lib.hid hpa
            clear hpa
            go_enter Tryz.func49, Tryz.ntmps49
            go_upto_region 1 with fail
            refine boxed1 (w := w) (G := fun x => Code.wp _ _ _ _ x) ?_
            intro w1 hx1 hs1 ⟨l0, c0, _, _⟩
            have hx11 : Ext w1 w1 := Ext.refl _
            have hx01 := hx.trans hx1
            clear hs1
            go_quiet ((go_at_call 87; exact Calls.quiet_of_same ((rparts_any _ _).mono fun e w' h => ⟨h.1, h.2.symm⟩)))
            have hx12 := hx11.drewN (n := 0)
            have HND := Lib.hid (show p.NodeOk from nodeR_iff.1 ⟨Q1.out, Q2.out, Q3.out⟩)
            go_wp2_with fail
            go_loopg [3] p.len (fun gg v wr => ∃ i : Nat, i ≤ p.len ∧ gg = p.len - i ∧ v = .int .i64 i ∧ (∀ j, j < i → (p.kid j).All Pr.NodeOk) ∧ Ext w1 wr)
            case atStart => exact ⟨0, by omega, rfl, rfl, fun j hj => absurd hj (Nat.not_lt_zero _), hx11.drewN _⟩
            case round =>
              obtain ⟨i, hi, rfl, rfl, hall, hxr⟩ := hrel
              have HALL := Lib.hid hall
              have hx0r := hx01.trans hxr
              clear hall
              by_cases hlt : i < p.len
              · skip
                have hlt' : (i : Int) < (p.len : Int) := by omega
                obtain rfl : pa = some ⟨p.b, p.off, none⟩ := by rw [HA.out]; exact HP.out.here.ha (by omega)
                have kb : ∀ w', Ext w0 w' → p.b < w'.heap.size := HP.out.here.hb (by omega)
                have k0 := fun w' h => HP.out.here.c0 w' h i hlt
                have k1 := fun w' h => HP.out.here.c1 w' h i hlt
                have k2 := fun w' h => HP.out.here.c2 w' h i hlt
                have k3 := fun w' h => HP.out.here.c3 w' h i hlt
                have k4 := fun w' h => HP.out.here.c4 w' h i hlt
                have k5 := fun w' h => HP.out.here.c5 w' h i hlt
                have hc := HIH.out i hlt (HP.out.kid hlt) wr hx0r
                simp only [Pr.val] at hc
                go_wp2_with fail
                go_at_call 49
                refine hc.mono ?_
                rintro e w2 ⟨b, rfl, hb, hx2⟩
                have hx12 := hxr.trans hx2
                have HB := Lib.hid hb
                clear hc k0 k1 k2 k3 k4 k5 kb hb
                cases b with
                | false =>
                  go_wp2_with fail
                  go_ret
                  exact BoolPost.n (fun h => by have := HB.out.2 (h.kid hlt); cases this) (hx1.trans hx12)
                | true =>
                  have HB1 := Lib.hid (HB.out.1 rfl)
                  clear HB
                  go_wp2_with fail
                  go_roundg (p.len - (i + 1))
                  case rel => exact ⟨i + 1, by omega, rfl, by go_num, fun j hj => by
                    by_cases e : j = i
                    · subst e; exact HB1.out
                    · exact HALL.out j (by omega), hx12⟩
                  case measure => omega
              · have hie : i = p.len := by omega
                subst hie
                go_wp2_with fail
                go_ret
                exact BoolPost.y ((Pr.All_eq _ _).2 ⟨HND.out, HALL.out⟩) (hx1.trans hxr)
          · have d2 : (p.kind == 1) = false := by simp [e1]
            have d3 : (p.num != 0) = false := by have := Q2.out; simp; omega
            have hk1 := partsI_range (k := p.kind) (by omega)
            have d5 : decide (p.kind < 2) = false := decide_eq_false (by omega)
            by_cases e4 : 4 < p.kind
            · have d4 : decide (4 < p.kind) = true := decide_eq_true e4
              have f0 : p.proc = 0 ∧ p.peer = 0 ∧ p.name.toList = [] := by have := Q3.out; rcases this with h | h; · omega
                                                                           · exact h
              obtain ⟨f1, f2, f3⟩ := f0
              have d6 : (p.proc != 0) = false := by simp [f1]
              have d7 : (p.peer != 0) = false := by simp [f2]
              have d8 : p.name.toList.isEmpty = true := by simp [f3]
              have d9 : (!p.name.toList.isEmpty) = false := by simp [f3]
              clear e1 f1 f2 hn0 e4 hk1
              simp only [Pr.val]
              obtain ⟨pa, hpa⟩ : ∃ a, a = p.a := ⟨_, rfl⟩
              rw [← hpa]
              have HA := Lib.hid hpa
              clear hpa
              go_enter Tryz.func49, Tryz.ntmps49
              go_upto_region 1 with fail
              refine boxed1 (w := w) (G := fun x => Code.wp _ _ _ _ x) ?_
              intro w1 hx1 hs1 ⟨l0, c0, _, _⟩
              have hx11 : Ext w1 w1 := Ext.refl _
              have hx01 := hx.trans hx1
              clear hs1
              go_quiet ((go_at_call 87; exact Calls.quiet_of_same ((rparts_any _ _).mono fun e w' h => ⟨h.1, h.2.symm⟩)))
              have hx12 := hx11.drewN (n := 0)
              have HND := Lib.hid (show p.NodeOk from nodeR_iff.1 ⟨Q1.out, Q2.out, Q3.out⟩)
              go_wp2_with fail
              go_loopg [3] p.len (fun gg v wr => ∃ i : Nat, i ≤ p.len ∧ gg = p.len - i ∧ v = .int .i64 i ∧ (∀ j, j < i → (p.kid j).All Pr.NodeOk) ∧ Ext w1 wr)
              case atStart => exact ⟨0, by omega, rfl, rfl, fun j hj => absurd hj (Nat.not_lt_zero _), hx11.drewN _⟩
              case round =>
                obtain ⟨i, hi, rfl, rfl, hall, hxr⟩ := hrel
                have HALL := Lib.hid hall
                have hx0r := hx01.trans hxr
                clear hall
                by_cases hlt : i < p.len
                · skip
                  have hlt' : (i : Int) < (p.len : Int) := by omega
                  obtain rfl : pa = some ⟨p.b, p.off, none⟩ := by rw [HA.out]; exact HP.out.here.ha (by omega)
                  have kb : ∀ w', Ext w0 w' → p.b < w'.heap.size := HP.out.here.hb (by omega)
                  have k0 := fun w' h => HP.out.here.c0 w' h i hlt
                  have k1 := fun w' h => HP.out.here.c1 w' h i hlt
                  have k2 := fun w' h => HP.out.here.c2 w' h i hlt
                  have k3 := fun w' h => HP.out.here.c3 w' h i hlt
                  have k4 := fun w' h => HP.out.here.c4 w' h i hlt
                  have k5 := fun w' h => HP.out.here.c5 w' h i hlt
                  have hc := HIH.out i hlt (HP.out.kid hlt) wr hx0r
                  simp only [Pr.val] at hc
                  go_wp2_with fail
                  go_at_call 49
                  refine hc.mono ?_
                  rintro e w2 ⟨b, rfl, hb, hx2⟩
                  have hx12 := hxr.trans hx2
                  have HB := Lib.hid hb
                  clear hc k0 k1 k2 k3 k4 k5 kb hb
                  cases b with
                  | false =>
                    go_wp2_with fail
                    go_ret
                    exact BoolPost.n (fun h => by have := HB.out.2 (h.kid hlt); cases this) (hx1.trans hx12)
                  | true =>
                    have HB1 := Lib.hid (HB.out.1 rfl)
                    clear HB
                    go_wp2_with fail
                    go_roundg (p.len - (i + 1))
                    case rel => exact ⟨i + 1, by omega, rfl, by go_num, fun j hj => by
                      by_cases e : j = i
                      · subst e; exact HB1.out
                      · exact HALL.out j (by omega), hx12⟩
                    case measure => omega
                · have hie : i = p.len := by omega
                  subst hie
                  go_wp2_with fail
                  go_ret
                  exact BoolPost.y ((Pr.All_eq _ _).2 ⟨HND.out, HALL.out⟩) (hx1.trans hxr)
            · have d4 : decide (4 < p.kind) = false := decide_eq_false e4
              clear e1 hn0 e4 hk1
              simp only [Pr.val]
              obtain ⟨pa, hpa⟩ : ∃ a, a = p.a := ⟨_, rfl⟩
              rw [← hpa]
              have HA := Lib.hid hpa
              clear hpa
              go_enter Tryz.func49, Tryz.ntmps49
              go_upto_region 1 with fail
              refine boxed1 (w := w) (G := fun x => Code.wp _ _ _ _ x) ?_
              intro w1 hx1 hs1 ⟨l0, c0, _, _⟩
              have hx11 : Ext w1 w1 := Ext.refl _
              have hx01 := hx.trans hx1
              clear hs1
              go_quiet ((go_at_call 87; exact Calls.quiet_of_same ((rparts_any _ _).mono fun e w' h => ⟨h.1, h.2.symm⟩)))
              have hx12 := hx11.drewN (n := 0)
              have HND := Lib.hid (show p.NodeOk from nodeR_iff.1 ⟨Q1.out, Q2.out, Q3.out⟩)
              go_wp2_with fail
              go_loopg [3] p.len (fun gg v wr => ∃ i : Nat, i ≤ p.len ∧ gg = p.len - i ∧ v = .int .i64 i ∧ (∀ j, j < i → (p.kid j).All Pr.NodeOk) ∧ Ext w1 wr)
              case atStart => exact ⟨0, by omega, rfl, rfl, fun j hj => absurd hj (Nat.not_lt_zero _), hx11.drewN _⟩
              case round =>
                obtain ⟨i, hi, rfl, rfl, hall, hxr⟩ := hrel
                have HALL := Lib.hid hall
                have hx0r := hx01.trans hxr
                clear hall
                by_cases hlt : i < p.len
                · skip
                  have hlt' : (i : Int) < (p.len : Int) := by omega
                  obtain rfl : pa = some ⟨p.b, p.off, none⟩ := by rw [HA.out]; exact HP.out.here.ha (by omega)
                  have kb : ∀ w', Ext w0 w' → p.b < w'.heap.size := HP.out.here.hb (by omega)
                  have k0 := fun w' h => HP.out.here.c0 w' h i hlt
                  have k1 := fun w' h => HP.out.here.c1 w' h i hlt
                  have k2 := fun w' h => HP.out.here.c2 w' h i hlt
                  have k3 := fun w' h => HP.out.here.c3 w' h i hlt
                  have k4 := fun w' h => HP.out.here.c4 w' h i hlt
                  have k5 := fun w' h => HP.out.here.c5 w' h i hlt
                  have hc := HIH.out i hlt (HP.out.kid hlt) wr hx0r
                  simp only [Pr.val] at hc
                  go_wp2_with fail
                  go_at_call 49
                  refine hc.mono ?_
                  rintro e w2 ⟨b, rfl, hb, hx2⟩
                  have hx12 := hxr.trans hx2
                  have HB := Lib.hid hb
                  clear hc k0 k1 k2 k3 k4 k5 kb hb
                  cases b with
                  | false =>
                    go_wp2_with fail
                    go_ret
                    exact BoolPost.n (fun h => by have := HB.out.2 (h.kid hlt); cases this) (hx1.trans hx12)
                  | true =>
                    have HB1 := Lib.hid (HB.out.1 rfl)
                    clear HB
                    go_wp2_with fail
                    go_roundg (p.len - (i + 1))
                    case rel => exact ⟨i + 1, by omega, rfl, by go_num, fun j hj => by
                      by_cases e : j = i
                      · subst e; exact HB1.out
                      · exact HALL.out j (by omega), hx12⟩
                    case measure => omega
                · have hie : i = p.len := by omega
                  subst hie
                  go_wp2_with fail
                  go_ret
                  exact BoolPost.y ((Pr.All_eq _ _).2 ⟨HND.out, HALL.out⟩) (hx1.trans hxr)
        · have HNO := Lib.hid (show ¬ NodeR p.kind p.num p.proc p.peer p.name p.len from fun h => q3 h.2.2)
          have hn0 := Q1.out
          have hk1 := partsI_range (k := p.kind) (by omega)
          have hnn : ¬ (2 ≤ p.kind ∧ p.kind ≤ 4) := fun h => q3 (.inl h)
          have hnz : ¬ (p.proc = 0 ∧ p.peer = 0 ∧ p.name.toList = []) := fun h => q3 (.inr h)
          have HZ := Lib.hid hnz
          clear q3 hnz
          have s1 : p.kind = 1 ∨ 4 < p.kind := by omega
          by_cases e1 : p.kind = 1
          · have d2 : (p.kind == 1) = true := by simp [e1]
            have d3 : decide (p.num < 0) = false := decide_eq_false (by have := Q2.out; omega)
            have d4 : decide (1125899906842624 < p.num) = false := decide_eq_false (by have := Q2.out; omega)
            have d5 : decide (p.kind < 2) = true := decide_eq_true (by omega)
            clear e1 hn0 s1 hnn hk1
            by_cases f1 : p.proc = 0
            · have d6 : (p.proc != 0) = false := by simp [f1]
              by_cases f2 : p.peer = 0
              · have d7 : (p.peer != 0) = false := by simp [f2]
                have f3 : ¬ p.name.toList = [] := fun h => HZ.out ⟨f1, f2, h⟩
                have d8 : p.name.toList.isEmpty = false := by simp [f3]
                have d9 : (!p.name.toList.isEmpty) = true := by simp [f3]
                clear f1 f2
                simp only [Pr.val]
                obtain ⟨pa, hpa⟩ : ∃ a, a = p.a := ⟨_, rfl⟩
                rw [← hpa]
                have HA := Lib.hid hpa
                clear hpa
                go_enter Tryz.func49, Tryz.ntmps49
                go_upto_region 1 with fail
                refine boxed1 (w := w) (G := fun x => Code.wp _ _ _ _ x) ?_
                intro w1 hx1 hs1 ⟨l0, c0, _, _⟩
                have hx11 : Ext w1 w1 := Ext.refl _
                have hx01 := hx.trans hx1
                clear hs1
                go_quiet ((go_at_call 87; exact Calls.quiet_of_same ((rparts_any _ _).mono fun e w' h => ⟨h.1, h.2.symm⟩)))
                have hx12 := hx11.drewN (n := 0)
                go_wp2_with fail
                go_ret
                exact BoolPost.n (fun h => by have h := nodeR_iff.2 h.here; exact HNO.out h) (hx1.drewN _)
              · have d7 : (p.peer != 0) = true := by simp [f2]
                clear f1 f2
                simp only [Pr.val]
                obtain ⟨pa, hpa⟩ : ∃ a, a = p.a := ⟨_, rfl⟩
                rw [← hpa]
                have HA := Lib.hid hpa
                clear hpa
                go_enter Tryz.func49, Tryz.ntmps49
                go_upto_region 1 with fail
                refine boxed1 (w := w) (G := fun x => Code.wp _ _ _ _ x) ?_
                intro w1 hx1 hs1 ⟨l0, c0, _, _⟩
                have hx11 : Ext w1 w1 := Ext.refl _
                have hx01 := hx.trans hx1
                clear hs1
                go_quiet ((go_at_call 87; exact Calls.quiet_of_same ((rparts_any _ _).mono fun e w' h => ⟨h.1, h.2.symm⟩)))
                have hx12 := hx11.drewN (n := 0)
                go_wp2_with fail
                go_ret
                exact BoolPost.n (fun h => by have h := nodeR_iff.2 h.here; exact HNO.out h) (hx1.drewN _)
            · have d6 : (p.proc != 0) = true := by simp [f1]
              clear f1
              simp only [Pr.val]
              obtain ⟨pa, hpa⟩ : ∃ a, a = p.a := ⟨_, rfl⟩
              rw [← hpa]
              have HA := Lib.hid hpa
              clear hpa
              go_enter Tryz.func49, Tryz.ntmps49
              go_upto_region 1 with fail
              refine boxed1 (w := w) (G := fun x => Code.wp _ _ _ _ x) ?_
              intro w1 hx1 hs1 ⟨l0, c0, _, _⟩
              have hx11 : Ext w1 w1 := Ext.refl _
              have hx01 := hx.trans hx1
              clear hs1
              go_quiet ((go_at_call 87; exact Calls.quiet_of_same ((rparts_any _ _).mono fun e w' h => ⟨h.1, h.2.symm⟩)))
              have hx12 := hx11.drewN (n := 0)
              go_wp2_with fail
              go_ret
              exact BoolPost.n (fun h => by have h := nodeR_iff.2 h.here; exact HNO.out h) (hx1.drewN _)
          · have d2 : (p.kind == 1) = false := by simp [e1]
            have d3 : (p.num != 0) = false := by have := Q2.out; simp; omega
            have d5 : decide (p.kind < 2) = false := decide_eq_false (by omega)
            have d4 : decide (4 < p.kind) = true := decide_eq_true (by omega)
            clear e1 hn0 s1 hnn hk1
            by_cases f1 : p.proc = 0
            · have d6 : (p.proc != 0) = false := by simp [f1]
              by_cases f2 : p.peer = 0
              · have d7 : (p.peer != 0) = false := by simp [f2]
                have f3 : ¬ p.name.toList = [] := fun h => HZ.out ⟨f1, f2, h⟩
                have d8 : p.name.toList.isEmpty = false := by simp [f3]
                have d9 : (!p.name.toList.isEmpty) = true := by simp [f3]
                clear f1 f2
                simp only [Pr.val]
                obtain ⟨pa, hpa⟩ : ∃ a, a = p.a := ⟨_, rfl⟩
                rw [← hpa]
                have HA := Lib.hid hpa
                clear hpa
                go_enter Tryz.func49, Tryz.ntmps49
                go_upto_region 1 with fail
                refine boxed1 (w := w) (G := fun x => Code.wp _ _ _ _ x) ?_
                intro w1 hx1 hs1 ⟨l0, c0, _, _⟩
                have hx11 : Ext w1 w1 := Ext.refl _
                have hx01 := hx.trans hx1
                clear hs1
                go_quiet ((go_at_call 87; exact Calls.quiet_of_same ((rparts_any _ _).mono fun e w' h => ⟨h.1, h.2.symm⟩)))
                have hx12 := hx11.drewN (n := 0)
                go_wp2_with fail
                go_ret
                exact BoolPost.n (fun h => by have h := nodeR_iff.2 h.here; exact HNO.out h) (hx1.drewN _)
              · have d7 : (p.peer != 0) = true := by simp [f2]
                clear f1 f2
                simp only [Pr.val]
                obtain ⟨pa, hpa⟩ : ∃ a, a = p.a := ⟨_, rfl⟩
                rw [← hpa]
                have HA := Lib.hid hpa
                clear hpa
                go_enter Tryz.func49, Tryz.ntmps49
                go_upto_region 1 with fail
                refine boxed1 (w := w) (G := fun x => Code.wp _ _ _ _ x) ?_
                intro w1 hx1 hs1 ⟨l0, c0, _, _⟩
                have hx11 : Ext w1 w1 := Ext.refl _
                have hx01 := hx.trans hx1
                clear hs1
                go_quiet ((go_at_call 87; exact Calls.quiet_of_same ((rparts_any _ _).mono fun e w' h => ⟨h.1, h.2.symm⟩)))
                have hx12 := hx11.drewN (n := 0)
                go_wp2_with fail
                go_ret
                exact BoolPost.n (fun h => by have h := nodeR_iff.2 h.here; exact HNO.out h) (hx1.drewN _)
            · have d6 : (p.proc != 0) = true := by simp [f1]
              clear f1
              simp only [Pr.val]
              obtain ⟨pa, hpa⟩ : ∃ a, a = p.a := ⟨_, rfl⟩
              rw [← hpa]
              have HA := Lib.hid hpa
              clear hpa
              go_enter Tryz.func49, Tryz.ntmps49
              go_upto_region 1 with fail
              refine boxed1 (w := w) (G := fun x => Code.wp _ _ _ _ x) ?_
              intro w1 hx1 hs1 ⟨l0, c0, _, _⟩
              have hx11 : Ext w1 w1 := Ext.refl _
              have hx01 := hx.trans hx1
              clear hs1
              go_quiet ((go_at_call 87; exact Calls.quiet_of_same ((rparts_any _ _).mono fun e w' h => ⟨h.1, h.2.symm⟩)))
              have hx12 := hx11.drewN (n := 0)
              go_wp2_with fail
              go_ret
              exact BoolPost.n (fun h => by have h := nodeR_iff.2 h.here; exact HNO.out h) (hx1.drewN _)
      · have HNO := Lib.hid (show ¬ NodeR p.kind p.num p.proc p.peer p.name p.len from fun h => q2 h.2.1)
        by_cases e1 : p.kind = 1
        · have d2 : (p.kind == 1) = true := by simp [e1]
          by_cases e2 : p.num < 0
          · have d3 : decide (p.num < 0) = true := decide_eq_true e2
            clear q2 e1
            simp only [Pr.val]
            obtain ⟨pa, hpa⟩ : ∃ a, a = p.a := ⟨_, rfl⟩
            rw [← hpa]
            have HA := Lib.hid hpa
            clear hpa
            go_enter Tryz.func49, Tryz.ntmps49
            go_upto_region 1 with fail
            refine boxed1 (w := w) (G := fun x => Code.wp _ _ _ _ x) ?_
            intro w1 hx1 hs1 ⟨l0, c0, _, _⟩
            have hx11 : Ext w1 w1 := Ext.refl _
            have hx01 := hx.trans hx1
            clear hs1
            go_quiet ((go_at_call 87; exact Calls.quiet_of_same ((rparts_any _ _).mono fun e w' h => ⟨h.1, h.2.symm⟩)))
            have hx12 := hx11.drewN (n := 0)
            go_wp2_with fail
            go_ret
            exact BoolPost.n (fun h => by have h := nodeR_iff.2 h.here; exact HNO.out h) (hx1.drewN _)
          · have d3 : decide (p.num < 0) = false := decide_eq_false e2
            have d4 : decide (1125899906842624 < p.num) = true := decide_eq_true (by omega)
            clear q2 e1
            simp only [Pr.val]
            obtain ⟨pa, hpa⟩ : ∃ a, a = p.a := ⟨_, rfl⟩
            rw [← hpa]
            have HA := Lib.hid hpa
            clear hpa
            go_enter Tryz.func49, Tryz.ntmps49
            go_upto_region 1 with fail
            refine boxed1 (w := w) (G := fun x => Code.wp _ _ _ _ x) ?_
            intro w1 hx1 hs1 ⟨l0, c0, _, _⟩
            have hx11 : Ext w1 w1 := Ext.refl _
            have hx01 := hx.trans hx1
            clear hs1
            go_quiet ((go_at_call 87; exact Calls.quiet_of_same ((rparts_any _ _).mono fun e w' h => ⟨h.1, h.2.symm⟩)))
            have hx12 := hx11.drewN (n := 0)
            go_wp2_with fail
            go_ret
            exact BoolPost.n (fun h => by have h := nodeR_iff.2 h.here; exact HNO.out h) (hx1.drewN _)
        · have d2 : (p.kind == 1) = false := by simp [e1]
          have d3 : (p.num != 0) = true := by simp; omega
          clear q2 e1
          simp only [Pr.val]
          obtain ⟨pa, hpa⟩ : ∃ a, a = p.a := ⟨_, rfl⟩
          rw [← hpa]
          have HA := Lib.hid hpa
          clear hpa
          go_enter Tryz.func49, Tryz.ntmps49
          go_upto_region 1 with fail
          refine boxed1 (w := w) (G := fun x => Code.wp _ _ _ _ x) ?_
          intro w1 hx1 hs1 ⟨l0, c0, _, _⟩
          have hx11 : Ext w1 w1 := Ext.refl _
          have hx01 := hx.trans hx1
          clear hs1
          go_quiet ((go_at_call 87; exact Calls.quiet_of_same ((rparts_any _ _).mono fun e w' h => ⟨h.1, h.2.symm⟩)))
          have hx12 := hx11.drewN (n := 0)
          go_wp2_with fail
          go_ret
          exact BoolPost.n (fun h => by have h := nodeR_iff.2 h.here; exact HNO.out h) (hx1.drewN _)
    · have d1 : (partsI p.kind != (p.len : Int)) = true := by simp [q1]
      have HNO := Lib.hid (show ¬ NodeR p.kind p.num p.proc p.peer p.name p.len from fun h => q1 h.1)
      clear q1
      simp only [Pr.val]
      obtain ⟨pa, hpa⟩ : ∃ a, a = p.a := ⟨_, rfl⟩
      rw [← hpa]
      have HA := Lib.hid hpa
      clear hpa
      go_enter Tryz.func49, Tryz.ntmps49
      go_upto_region 1 with fail
      refine boxed1 (w := w) (G := fun x => Code.wp _ _ _ _ x) ?_
      intro w1 hx1 hs1 ⟨l0, c0, _, _⟩
      have hx11 : Ext w1 w1 := Ext.refl _
      have hx01 := hx.trans hx1
      clear hs1
      go_quiet ((go_at_call 87; exact Calls.quiet_of_same ((rparts_any _ _).mono fun e w' h => ⟨h.1, h.2.symm⟩)))
      have hx12 := hx11.drewN (n := 0)
      go_wp2_with fail
      go_ret
      exact BoolPost.n (fun h => by have h := nodeR_iff.2 h.here; exact HNO.out h) (hx1.drewN _)

end Go.Proofs.YtdplphoohnnbcaaGreatDoor
