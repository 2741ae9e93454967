/- Contract of the law's few: it says no, or the trace has at most 10 processes and 80 events. Contract: lamport.Check. Contract of antecederef14: Latest. Contract of antecederef14: Check; it is the program's condition. -/
import Derived.Test.YtecgigeeolindaaGc
import Derived.Test.YtecgigeeolindaaGb
import Derived.Test.YtecgigeeolindaaGg
import Derived.Deep.LoopGhost
import Derived.Test.YtecgigeeolindaaGn
import Derived.Test.YtecgigeeolindaaGm
namespace Go.Proofs.Ytecgigeeolindaa
open Go.RowKit Go.Shelf

set_option maxHeartbeats 400000 in
theorem few1_any (w : World) (a b c d : Int) (e : Option Addr) (n cap : Nat) :
    Calls Try.prog 33 #[.agg #[.int .i64 a, .int .i64 b, .int .i64 c, .int .i64 d, .slice e n cap]] w fun r w' => r = .returned (.bool (decide (12 < (n : Int)))) ∧ Ext w w' := by
  go_enter Try.func33, Try.ntmps33
  go_wp2
  go_ret
  exact ⟨ret_bool (by simp), Ext.alloc _ _⟩
set_option maxHeartbeats 400000 in
theorem few2_any (w : World) (s : ByteArray) (v : Int) :
    Calls Try.prog 35 #[.agg #[.string s, .int .i64 v]] w fun r w' => r = .returned (.bool (decide (40 < (s.size : Int)))) ∧ Ext w w' := by
  go_enter Try.func35, Try.ntmps35
  go_wp2
  go_ret
  exact ⟨ret_bool (by simp), Ext.alloc _ _⟩
def FewPost (T : TM) (w : World) (e : Ending) (w' : World) : Prop := Ext w w' ∧ ∃ b : Bool, e = .returned (.bool b) ∧ (b = true → T.n ≤ 10 ∧ tot T.en T.n ≤ 80)
theorem tot_succ (f : Nat → Nat) (n : Nat) : tot f (n + 1) = tot f n + f n := rfl
theorem tot_mono {f : Nat → Nat} {k : Nat} : ∀ {n : Nat}, k ≤ n → tot f k ≤ tot f n
  | 0, h => by rw [show k = 0 by omega]; exact Nat.le_refl _
  | n + 1, h => by
    rcases Nat.lt_or_ge n k with h' | h'
    · rw [show k = n + 1 by omega]; exact Nat.le_refl _
    · have := tot_mono (f := f) h'; rw [tot_succ]; omega
theorem tot_one_le {f : Nat → Nat} {k n : Nat} (h : k < n) : f k ≤ tot f n := by
  have h1 := tot_mono (f := f) (k := k + 1) (n := n) (by omega)
  rw [tot_succ] at h1; omega
set_option maxRecDepth 100000 in
set_option maxHeartbeats 2000000 in
theorem few_any (w : World) (T : TM) (hT : T.At w) : Calls Try.prog 11 #[T.val] w (FewPost T w) := by
  have hn := hT.P.hn
  have HT := Lib.hid hT
  clear hT
  go_enter Try.func11, Try.ntmps11
  go_upto_region 1 with fail
  refine boxed1 (w := w) (G := fun x => Code.wp _ _ _ _ x) ?_
  intro w1 hx1 hs1 ⟨l0, c0, _, _⟩
  have hx11 : Ext w1 w1 := Ext.refl _
  clear hs1
  obtain ⟨ta, hta⟩ : ∃ a, a = T.a := ⟨_, rfl⟩
  rw [← hta] at c0
  have HTA := Lib.hid hta
  clear hta
  go_wp2_with fail
  go_loopg [3, 9] T.n (fun gg v3 v9 wr => ∃ k : Nat, k ≤ T.n ∧ gg = T.n - k ∧ v3 = .int .i64 (tot T.en k : Nat) ∧ v9 = .int .i64 k ∧ tot T.en k ≤ 80 ∧ Ext w1 wr)
  case atStart => exact ⟨0, by omega, rfl, rfl, rfl, by show 0 ≤ 80; omega, hx11⟩
  case round =>
    obtain ⟨k, hk, rfl, rfl, rfl, ht, hxr⟩ := hrel
    have hxw := hx1.trans hxr
    by_cases hlt : k < T.n
    · have hlt' : (k : Int) < (T.n : Int) := by omega
      obtain rfl : ta = some ⟨T.b, T.off, none⟩ := by rw [HTA.out]; exact HT.out.P.pa (by omega)
      have pb := HT.out.P.pb (by omega)
      have p0 : ∀ w', Ext w w' → w'.cell? ⟨T.b, T.off + k * 3, none⟩ = some (.string (T.name k)) := fun w' h => HT.out.P.p0 w' h k hlt
      have p1 : ∀ w', Ext w w' → w'.cell? ⟨T.b, T.off + k * 3 + 1, none⟩ = some (.slice (T.va k) (T.vn k) (T.vc k)) := fun w' h => HT.out.P.p1 w' h k hlt
      have p2 : ∀ w', Ext w w' → w'.cell? ⟨T.b, T.off + k * 3 + 2, none⟩ = some (.slice (T.ea k) (T.en k) (T.ec k)) := fun w' h => HT.out.P.p2 w' h k hlt
      have hen := HT.out.E.he k hlt
      have hvn := HT.out.V.hv k hlt
      have hnm := HT.out.ok.name k hlt
      go_upto_region 5 with fail
      refine boxed1 (w := wr) (G := fun x => Code.wp _ _ _ _ x) ?_
      intro w2 hx2 hs2 ⟨l2, c2, _, _⟩
      have hx22 : Ext w2 w2 := Ext.refl _
      have hxw2 := hxw.trans hx2
      have hx12 := hxr.trans hx2
      clear hs2 p0 p1 p2 pb
      generalize wr.heap.size = xb at l2 c2 ⊢
      obtain ⟨m, hm⟩ : ∃ m : Nat, m = tot T.en k + T.en k := ⟨_, rfl⟩
      have HM := Lib.hid (show m = tot T.en (k + 1) from hm)
      have hmw : IntKind.i64.wrap ((tot T.en k : Int) + (T.en k : Int)) = (m : Int) := by rw [IntWalk.i64_in _ (by omega)]; omega
      have hadd : ((tot T.en k : Int) + (T.en k : Int)) = (m : Int) := by omega
      clear hm
      by_cases h80 : 80 < m
      · have b1 : decide ((80 : Int) < (m : Int)) = true := decide_eq_true (by omega)
        have b1' : decide (80 < m) = true := decide_eq_true h80
        go_wp2_with fail
        go_ret
        exact ⟨hxw2, false, rfl, fun h => by cases h⟩
      · have b1 : decide ((80 : Int) < (m : Int)) = false := decide_eq_false (by omega)
        have b1' : decide (80 < m) = false := decide_eq_false h80
        by_cases h12 : 12 < T.vn k
        · have b2 : decide ((12 : Int) < (T.vn k : Int)) = true := decide_eq_true (by omega)
          have b2' : decide (12 < T.vn k) = true := decide_eq_true h12
          go_wp2_with fail
          go_ret
          exact ⟨hxw2, false, rfl, fun h => by cases h⟩
        · have b2 : decide ((12 : Int) < (T.vn k : Int)) = false := decide_eq_false (by omega)
          have b2' : decide (12 < T.vn k) = false := decide_eq_false h12
          by_cases h40 : 40 < (T.name k).size
          · have b3 : decide ((40 : Int) < ((T.name k).size : Int)) = true := decide_eq_true (by omega)
            have b3' : decide (40 < (T.name k).size) = true := decide_eq_true h40
            go_wp2_with fail
            go_ret
            exact ⟨hxw2, false, rfl, fun h => by cases h⟩
          · have b3 : decide ((40 : Int) < ((T.name k).size : Int)) = false := decide_eq_false (by omega)
            have b3' : decide (40 < (T.name k).size) = false := decide_eq_false h40
            have hEv := has_Event w2 (T.ea k) (T.eb k) (T.eo k) (T.en k) (T.ec k) (fun i => .int .i64 (T.kind k i)) (fun i => .int .i64 (T.peer k i)) (fun i => .int .i64 (T.msg k i)) (fun i => .int .i64 (T.time k i)) (fun i => .slice (T.aa k i) (T.an k i) (T.ac k i))
              33 #[] (fun i => decide (12 < (T.an k i : Int))) hen (fun h => HT.out.E.ea k hlt h) (fun w' hx i hi => HT.out.E.e0 w' (hxw2.trans hx) k i hlt hi) (fun w' hx i hi => HT.out.E.e1 w' (hxw2.trans hx) k i hlt hi) (fun w' hx i hi => HT.out.E.e2 w' (hxw2.trans hx) k i hlt hi) (fun w' hx i hi => HT.out.E.e3 w' (hxw2.trans hx) k i hlt hi) (fun w' hx i hi => HT.out.E.e4 w' (hxw2.trans hx) k i hlt hi)
              (enters_of Try.func33 (by kernel_rfl) rfl) (fun i hi w' hx => few1_any w' _ _ _ _ _ _ _)
            have hVr := fun w3 (hx3 : Ext w w3) => has_Var w3 (T.va k) (T.vb k) (T.vo k) (T.vn k) (T.vc k) (fun i => .string (T.vname k i)) (fun i => .int .i64 (T.vinit k i))
              35 #[] (fun i => decide (40 < ((T.vname k i).size : Int))) hvn (fun h => HT.out.V.va k hlt h) (fun w' hx i hi => HT.out.V.v0 w' (hx3.trans hx) k i hlt hi) (fun w' hx i hi => HT.out.V.v1 w' (hx3.trans hx) k i hlt hi)
              (enters_of Try.func35 (by kernel_rfl) rfl) (fun i hi w' hx => few2_any w' _ _)
            cases hE : anyB (fun i => decide (12 < (T.an k i : Int))) (T.en k) with
            | true =>
              rw [hE] at hEv
              clear hE hVr
              go_wp2_with fail
              go_at_call 32
              refine hEv.mono ?_
              rintro e w3 ⟨rfl, hx3⟩
              have hx33 := hxw2.trans hx3
              clear hEv
              go_wp2_with fail
              go_ret
              exact ⟨hx33, false, rfl, fun h => by cases h⟩
            | false =>
              rw [hE] at hEv
              clear hE
              go_wp2_with fail
              go_at_call 32
              refine hEv.mono ?_
              rintro e w3 ⟨rfl, hx3⟩
              have hx33 := hxw2.trans hx3
              have hx13 := hx12.trans hx3
              have hVr3 := hVr w3 hx33
              clear hEv hVr
              cases hV : anyB (fun i => decide (40 < ((T.vname k i).size : Int))) (T.vn k) with
              | true =>
                rw [hV] at hVr3
                clear hV
                go_wp2_with fail
                go_at_call 34
                refine hVr3.mono ?_
                rintro e w4 ⟨rfl, hx4⟩
                have hx44 := hx33.trans hx4
                clear hVr3
                go_wp2_with fail
                go_ret
                exact ⟨hx44, false, rfl, fun h => by cases h⟩
              | false =>
                rw [hV] at hVr3
                clear hV
                go_wp2_with fail
                go_at_call 34
                refine hVr3.mono ?_
                rintro e w4 ⟨rfl, hx4⟩
                have hx44 := hx33.trans hx4
                have hx14 := hx13.trans hx4
                clear hVr3
                go_wp2_with fail
                go_roundg (T.n - (k + 1))
                case rel => exact ⟨k + 1, by omega, rfl, by rw [← HM.out], by go_num, by rw [← HM.out]; omega, hx14⟩
                case measure => omega
    · have hke : k = T.n := by omega
      subst hke
      have HTO := Lib.hid ht
      by_cases h10 : T.n ≤ 10
      · have b1 : decide ((T.n : Int) ≤ 10) = true := decide_eq_true (by omega)
        have b1' : decide (T.n ≤ 10) = true := decide_eq_true h10
        go_wp2_with fail
        go_ret
        exact ⟨hxw, true, rfl, fun _ => ⟨h10, HTO.out⟩⟩
      · have b1 : decide ((T.n : Int) ≤ 10) = false := decide_eq_false (by omega)
        have b1' : decide (T.n ≤ 10) = false := decide_eq_false h10
        go_wp2_with fail
        go_ret
        exact ⟨hxw, false, rfl, fun h => by cases h⟩

end Go.Proofs.Ytecgigeeolindaa

namespace Go.Proofs.Ytecgigeeolindaa
open Go.RowKit Go.Shelf

/-- the stamp before -/
def Mx.last (M : Mx) (p i : Nat) : Int := if i = 0 then 0 else M.val p (i - 1)
theorem Mx.last_succ (M : Mx) (p i : Nat) : M.last p (i + 1) = M.val p i := by unfold Mx.last; rw [if_neg (by omega)]; rfl
/-- an event's stamp fulfils the clock condition -/
def Tr.CkOk (T : Tr) (M : Mx) (p i : Nat) : Prop := M.last p i < M.val p i ∧ M.val p i ≤ 1125899906842624 ∧ (T.kind p i = 3 → M.val (T.sndN (p, i)).1 (T.sndN (p, i)).2 < M.val p i)
def Tr.CheckP (T : Tr) (M : Mx) : Prop := T.Valid ∧ T.FitsM M ∧ ∀ p i, p < T.n → i < T.en p → T.CkOk M p i
set_option maxHeartbeats 1000000 in
theorem lcheck_no (w : World) (T : TM) (hT : T.At w) (hV : ¬ T.toTr.Valid) (M : MM) :
    Calls Try.prog 21 #[T.val, .slice M.a M.n M.cap] w (BoolPost (T.toTr.CheckP M.toMx) w) := by
  go_enter Try.func21, Try.ntmps21
  go_upto_region 1 with fail
  refine boxed1 (w := w) (G := fun x => Code.wp _ _ _ _ x) ?_
  intro w1 hx1 hs1 ⟨l0, c0, _, _⟩
  have hx11 : Ext w1 w1 := Ext.refl _
  have hF := valid_any w1 T (hT.ext hx1)
  clear hs1 hT
  go_wp2_with (go_at_call 37; refine hF.mono ?_; rintro e w2 ⟨b, rfl, hb, hx2⟩; obtain rfl : b = false := (Bool.eq_false_iff.2 fun h => hV (hb.1 h)))
  go_ret
  exact BoolPost.no (fun h => hV h.1) (hx1.trans hx2)
set_option maxRecDepth 100000 in
set_option maxHeartbeats 4000000 in
theorem lcheck_yes (w : World) (T : TM) (hT : T.At w) (hV : T.toTr.Valid) (M : MM) (hM : M.At w) :
    Calls Try.prog 21 #[T.val, .slice M.a M.n M.cap] w (BoolPost (T.toTr.CheckP M.toMx) w) := by
  have hn1 := hV.n1
  have hn8 := hV.n8
  have hE8 : ∀ k, k < T.n → T.en k ≤ 64 := fun k hk => (hV.pr k hk).2.2.2.2
  have pa := hT.P.pa (by omega)
  have HT := Lib.hid hT
  have HV := Lib.hid hV
  have HM := Lib.hid hM
  have hmn := hM.hn
  clear hT hV hM
  by_cases hnn : M.n = T.n
  · have d1 : ((M.n : Int) != (T.n : Int)) = false := by simp; omega
    have d2 : (M.n != T.n) = false := by simp; omega
    have hm0 : 0 < M.n := by omega
    have pb := HT.out.P.pb (by omega)
    have ma := HM.out.pa hm0
    have mb := HM.out.pb hm0
    have HN := Lib.hid hnn
    clear hnn
    go_enter Try.func21, Try.ntmps21
    go_upto_region 1 with fail
    refine boxed1 (w := w) (G := fun x => Code.wp _ _ _ _ x) ?_
    intro w1 hx1 hs1 ⟨l0, c0, _, _⟩
    have hx11 : Ext w1 w1 := Ext.refl _
    have hF := valid_any w1 T (HT.out.ext hx1)
    simp only [TM.val, pa] at hF
    clear hs1
    go_wp2_with fail
    go_at_call 37
    refine hF.mono ?_
    rintro e w2 ⟨b, rfl, hb, hx2⟩
    obtain rfl : b = true := hb.2 HV.out
    clear hF hb
    go_wp2_with fail
    have hxw2 := hx1.trans hx2
    clear d1 d2
    go_loopg [29] T.n (fun gg v wr => ∃ k : Nat, k ≤ T.n ∧ gg = T.n - k ∧ v = .int .i64 k ∧ Ext w2 wr ∧ ∀ j, j < k → M.rn j = T.en j)
    case atStart => exact ⟨0, by omega, rfl, rfl, Ext.refl _, fun j hj => by omega⟩
    case round =>
      obtain ⟨k, hk, rfl, rfl, hxr, hok⟩ := hrel
      have HOK := Lib.hid hok
      clear hok
      have hxw := hxw2.trans hxr
      have hx1r := hx2.trans hxr
      have hrr : Ext wr wr := Ext.refl _
      by_cases hlt : k < T.n
      · have hlt' : (k : Int) < (T.n : Int) := by omega
        have hlm : k < M.n := by have := HN.out; omega
        have hlm' : (k : Int) < (M.n : Int) := by omega
        have p0 : ∀ w', Ext w w' → w'.cell? ⟨T.b, T.off + k * 3, none⟩ = some (.string (T.name k)) := fun w' h => HT.out.P.p0 w' h k hlt
        have p1 : ∀ w', Ext w w' → w'.cell? ⟨T.b, T.off + k * 3 + 1, none⟩ = some (.slice (T.va k) (T.vn k) (T.vc k)) := fun w' h => HT.out.P.p1 w' h k hlt
        have p2 : ∀ w', Ext w w' → w'.cell? ⟨T.b, T.off + k * 3 + 2, none⟩ = some (.slice (T.ea k) (T.en k) (T.ec k)) := fun w' h => HT.out.P.p2 w' h k hlt
        have m0 : ∀ w', Ext w w' → w'.cell? ⟨M.b, M.off + k, none⟩ = some (.slice (M.ra k) (M.rn k) (M.rc k)) := fun w' h => HM.out.p0 w' h k hlm
        go_upto_region 6 with fail
        refine boxed1 (w := wr) (G := fun x => Code.wp _ _ _ _ x) ?_
        intro w4 hx4 hs4 ⟨l4, c4, _, _⟩
        have hx44 : Ext w4 w4 := Ext.refl _
        have hxw4 := hxw.trans hx4
        have hx24 := hxr.trans hx4
        have hx14 := hx1r.trans hx4
        clear hs4 p0 p1 p2
        by_cases he : M.rn k = T.en k
        · have HE := Lib.hid he
          have d3 : ((M.rn k : Int) != (T.en k : Int)) = false := by simp; omega
          have d4 : (M.rn k != T.en k) = false := by simp; omega
          clear he
          go_quiet (fail)
          clear d3 d4
          go_wp2_with fail
          go_roundg (T.n - (k + 1))
          case rel => exact ⟨k + 1, by omega, rfl, by go_num, hx24.drewN _, fun j hj => by
            by_cases e : j = k
            · subst e; exact HE.out
            · exact HOK.out j (by omega)⟩
          case measure => omega
        · have HE := Lib.hid he
          have d3 : ((M.rn k : Int) != (T.en k : Int)) = true := by simp; omega
          have d4 : (M.rn k != T.en k) = true := by simp; omega
          clear he
          go_quiet (fail)
          go_wp2_with fail
          go_ret
          exact BoolPost.no (fun h => HE.out (h.2.1.2 k hlt)) (hxw4.drewN _)
      · have hke : k = T.n := by omega
        subst hke
        have HF := Lib.hid (show T.toTr.FitsM M.toMx from ⟨HN.out, fun j hj => HOK.out j hj⟩)
        have hSn := fun W (hx : Ext w W) (p i : Nat) (hp : p < T.n) (hi : i < T.en p) (h3 : T.kind p i = 3) => (sent_any W T (HT.out.ext hx) HV.out M (HM.out.ext hx) HN.out ⟨(p, i), hp, hi⟩ h3).mono (R' := fun e w' => e = .returned (.tuple #[.int .i64 (M.val (T.toTr.sndN (p, i)).1 (T.toTr.sndN (p, i)).2), .bool true]) ∧ Ext W w') fun e w' ⟨he, hx'⟩ => ⟨by
          rw [he]; refine ret_eq ?_
          have h9 := T.toTr.sndN_eq ⟨(p, i), hp, hi⟩
          have hv := T.toTr.sndN_V (y := (p, i)) ⟨hp, hi⟩
          unfold sentV; rw [← h9]; refine if_neg (Nat.not_le.2 ?_)
          rw [HF.out.2 _ hv.1]; exact hv.2, hx'⟩
        simp only [TM.val, TM.ev, pa, ma] at hSn
        have HSN := Lib.hid hSn
        clear hSn
        clear hrr
        go_wp2_with fail
        go_loopg [47] T.n (fun gg v wr => ∃ k : Nat, k ≤ T.n ∧ gg = T.n - k ∧ v = .int .i64 k ∧ Ext w2 wr ∧ ∀ j i, j < k → i < T.en j → T.toTr.CkOk M.toMx j i)
        case atStart => exact ⟨0, by omega, rfl, rfl, hxr, fun j i hj => by omega⟩
        case round =>
          obtain ⟨k, hk, rfl, rfl, hxr, hok⟩ := hrel
          have HOK2 := Lib.hid hok
          clear hok
          have hxw := hxw2.trans hxr
          have hx1r := hx2.trans hxr
          by_cases hlt : k < T.n
          · have hlt' : (k : Int) < (T.n : Int) := by omega
            have hlm : k < M.n := by have := HN.out; omega
            have hlm' : (k : Int) < (M.n : Int) := by omega
            have hrk := HF.out.2 k hlt
            have hen := hE8 k hlt
            obtain ⟨ea, hea⟩ : ∃ a, a = T.ea k := ⟨_, rfl⟩
            have p0 : ∀ w', Ext w w' → w'.cell? ⟨T.b, T.off + k * 3, none⟩ = some (.string (T.name k)) := fun w' h => HT.out.P.p0 w' h k hlt
            have p1 : ∀ w', Ext w w' → w'.cell? ⟨T.b, T.off + k * 3 + 1, none⟩ = some (.slice (T.va k) (T.vn k) (T.vc k)) := fun w' h => HT.out.P.p1 w' h k hlt
            have p2 : ∀ w', Ext w w' → w'.cell? ⟨T.b, T.off + k * 3 + 2, none⟩ = some (.slice ea (T.en k) (T.ec k)) := fun w' h => by rw [hea]; exact HT.out.P.p2 w' h k hlt
            have m0 : ∀ w', Ext w w' → w'.cell? ⟨M.b, M.off + k, none⟩ = some (.slice (M.ra k) (M.rn k) (M.rc k)) := fun w' h => HM.out.p0 w' h k hlm
            have HEA := Lib.hid hea
            have HRK := Lib.hid hrk
            clear hea hrk
            go_upto_region 12 with fail
            refine boxed1 (w := wr) (G := fun x => Code.wp _ _ _ _ x) ?_
            intro w4 hx4 hs4 ⟨l4, c4, _, _⟩
            have hx44 : Ext w4 w4 := Ext.refl _
            have hxw4 := hxw.trans hx4
            have hx24 := hxr.trans hx4
            have hx14 := hx1r.trans hx4
            clear hs4 p0 p1 p2
            go_wp2_with fail
            go_loopg [9, 55] (T.en k) (fun gg v9 v55 wr => ∃ i : Nat, i ≤ T.en k ∧ gg = T.en k - i ∧ v9 = .int .i64 (M.last k i) ∧ v55 = .int .i64 i ∧ Ext w4 wr ∧ ∀ j, j < i → T.toTr.CkOk M.toMx k j)
            case atStart => exact ⟨0, by omega, rfl, rfl, rfl, hx44, fun j hj => by omega⟩
            case round =>
              obtain ⟨i, hi, rfl, rfl, rfl, hxr, hok⟩ := hrel
              have HOK3 := Lib.hid hok
              clear hok
              have hxw := hxw4.trans hxr
              have hx1r := hx14.trans hxr
              have hx2r := hx24.trans hxr
              by_cases hli : i < T.en k
              · have hli' : (i : Int) < (T.en k : Int) := by omega
                obtain rfl : ea = some ⟨T.eb k, T.eo k, none⟩ := by rw [HEA.out]; exact HT.out.E.ea k hlt (by omega)
                have eb := HT.out.E.eb k hlt (by omega)
                have e0 : ∀ w', Ext w w' → w'.cell? ⟨T.eb k, T.eo k + i * 5, none⟩ = some (.int .i64 (T.kind k i)) := fun w' h => HT.out.E.e0 w' h k i hlt hli
                have e1 : ∀ w', Ext w w' → w'.cell? ⟨T.eb k, T.eo k + i * 5 + 1, none⟩ = some (.int .i64 (T.peer k i)) := fun w' h => HT.out.E.e1 w' h k i hlt hli
                have e2 : ∀ w', Ext w w' → w'.cell? ⟨T.eb k, T.eo k + i * 5 + 2, none⟩ = some (.int .i64 (T.msg k i)) := fun w' h => HT.out.E.e2 w' h k i hlt hli
                have e3 : ∀ w', Ext w w' → w'.cell? ⟨T.eb k, T.eo k + i * 5 + 3, none⟩ = some (.int .i64 (T.time k i)) := fun w' h => HT.out.E.e3 w' h k i hlt hli
                have e4 : ∀ w', Ext w w' → w'.cell? ⟨T.eb k, T.eo k + i * 5 + 4, none⟩ = some (.slice (T.aa k i) (T.an k i) (T.ac k i)) := fun w' h => HT.out.E.e4 w' h k i hlt hli
                have hlr : i < M.rn k := by rw [HRK.out]; exact hli
                have hlr' : (i : Int) < (M.rn k : Int) := by omega
                have mra := HM.out.ra k hlm (by omega)
                have mrb := HM.out.rb k hlm (by omega)
                have mr0 : ∀ w', Ext w w' → w'.cell? ⟨M.rb k, M.ro k + i, none⟩ = some (.int .i64 (M.val k i)) := fun w' h => HM.out.r0 w' h k i hlm hlr
                go_upto_region 16 with fail
                refine boxed1 (w := wr) (G := fun x => Code.wp _ _ _ _ x) ?_
                intro w5 hx5 hs5 ⟨l5, c5, _, _⟩
                have hx55 : Ext w5 w5 := Ext.refl _
                have hxw5 := hxw.trans hx5
                have hx25 := hx2r.trans hx5
                have hx15 := hx1r.trans hx5
                have hx45 := hxr.trans hx5
                clear hs5 e0 e1 e2 e3 e4
                by_cases hlv : M.val k i ≤ M.last k i
                · have b1 : decide (M.val k i ≤ M.last k i) = true := decide_eq_true hlv
                  go_wp2_with fail
                  go_ret
                  exact BoolPost.no (fun h => by have := (h.2.2 k i hlt hli).1; omega) hxw5
                · have b1 : decide (M.val k i ≤ M.last k i) = false := decide_eq_false hlv
                  by_cases hmx : 1125899906842624 < M.val k i
                  · have b2 : decide (1125899906842624 < M.val k i) = true := decide_eq_true hmx
                    go_wp2_with fail
                    go_ret
                    exact BoolPost.no (fun h => by have := (h.2.2 k i hlt hli).2.1; omega) hxw5
                  · have b2 : decide (1125899906842624 < M.val k i) = false := decide_eq_false hmx
                    by_cases hk3 : T.kind k i = 3
                    · have k1 : (T.kind k i == 3) = true := by simpa using hk3
                      have hs9 := HSN.out w5 hxw5 k i hlt hli hk3
                      have HK3 := Lib.hid hk3
                      clear hk3
                      by_cases hgt : M.val k i ≤ M.val (T.toTr.sndN (k, i)).1 (T.toTr.sndN (k, i)).2
                      · have b3 : decide (M.val k i ≤ M.val (T.toTr.sndN (k, i)).1 (T.toTr.sndN (k, i)).2) = true := decide_eq_true hgt
                        go_wp2_with fail
                        go_at_call 46
                        refine hs9.mono ?_
                        rintro e w6 ⟨rfl, hx6⟩
                        clear hs9
                        go_wp2_with fail
                        go_ret
                        exact BoolPost.no (fun h => by have := (h.2.2 k i hlt hli).2.2 HK3.out; omega) (hxw5.trans hx6)
                      · have b3 : decide (M.val k i ≤ M.val (T.toTr.sndN (k, i)).1 (T.toTr.sndN (k, i)).2) = false := decide_eq_false hgt
                        have HC := Lib.hid (show T.toTr.CkOk M.toMx k i from ⟨by omega, by omega, fun _ => by omega⟩)
                        go_wp2_with fail
                        go_at_call 46
                        refine hs9.mono ?_
                        rintro e w6 ⟨rfl, hx6⟩
                        clear hs9
                        go_wp2_with fail
                        go_roundg (T.en k - (i + 1))
                        case rel => exact ⟨i + 1, by omega, rfl, by rw [Mx.last_succ], by go_num, hx45.trans hx6, fun j hj => by
                          by_cases e : j = i
                          · subst e; exact HC.out
                          · exact HOK3.out j (by omega)⟩
                        case measure => omega
                    · have k1 : (T.kind k i == 3) = false := by simpa using hk3
                      have HC := Lib.hid (show T.toTr.CkOk M.toMx k i from ⟨by omega, by omega, fun h => absurd h hk3⟩)
                      clear hk3
                      go_wp2_with fail
                      go_roundg (T.en k - (i + 1))
                      case rel => exact ⟨i + 1, by omega, rfl, by rw [Mx.last_succ], by go_num, hx45, fun j hj => by
                        by_cases e : j = i
                        · subst e; exact HC.out
                        · exact HOK3.out j (by omega)⟩
                      case measure => omega
              · have hie : i = T.en k := by omega
                subst hie
                go_wp2_with fail
                go_roundg (T.n - (k + 1))
                case rel => exact ⟨k + 1, by omega, rfl, by go_num, hx2r, fun j i2 hj hi2 => by
                  by_cases e : j = k
                  · subst e; exact HOK3.out i2 hi2
                  · exact HOK2.out j i2 (by omega) hi2⟩
                case measure => omega
          · have hke : k = T.n := by omega
            subst hke
            go_wp2_with fail
            go_ret
            exact BoolPost.yes ⟨HV.out, HF.out, fun p i hp hi => HOK2.out p i hp hi⟩ hxw
  · have d1 : ((M.n : Int) != (T.n : Int)) = true := by simp; omega
    have d2 : (M.n != T.n) = true := by simp; omega
    have HN := Lib.hid hnn
    clear hnn
    go_enter Try.func21, Try.ntmps21
    go_upto_region 1 with fail
    refine boxed1 (w := w) (G := fun x => Code.wp _ _ _ _ x) ?_
    intro w1 hx1 hs1 ⟨l0, c0, _, _⟩
    have hx11 : Ext w1 w1 := Ext.refl _
    have hF := valid_any w1 T (HT.out.ext hx1)
    simp only [TM.val, pa] at hF
    clear hs1
    go_wp2_with fail
    go_at_call 37
    refine hF.mono ?_
    rintro e w2 ⟨b, rfl, hb, hx2⟩
    obtain rfl : b = true := hb.2 HV.out
    clear hF hb
    go_wp2_with fail
    have hxw2 := hx1.trans hx2
    go_ret
    exact BoolPost.no (fun h => HN.out h.2.1.1) hxw2

end Go.Proofs.Ytecgigeeolindaa

namespace Go.Proofs.Ytecgigeeolindaa
open Go.RowKit Go.Shelf

/-- the greatest stamp of the events in a list; at least 0 -/
def Mx.top (M : Mx) (l : List NN) : Int := l.foldl (fun k y => max k (M.val y.1 y.2)) 0
theorem Mx.top_nil (M : Mx) : M.top [] = 0 := rfl
theorem Mx.top_snoc (M : Mx) (l : List NN) (y : NN) : M.top (l ++ [y]) = max (M.top l) (M.val y.1 y.2) := by unfold Mx.top; rw [List.foldl_append]; rfl
/-- the greatest stamp of an event directly before x -/
noncomputable def Tr.latest (T : Tr) (M : Mx) (x : NN) : Int := M.top (T.bk x)
set_option maxRecDepth 100000 in
set_option maxHeartbeats 2000000 in
theorem rlatest_any (w : World) (T : TM) (hT : T.At w) (hV : T.toTr.Pre) (M : MM) (hM : M.At w) (hF : T.toTr.FitsM M.toMx) (p i : Nat) (hp : p < T.n) (hi : i < T.en p) :
    Calls Try.prog 18 #[T.val, .slice M.a M.n M.cap, .agg #[.int .i64 p, .int .i64 (i + 1)]] w fun e w' => e = .returned (.int .i64 (T.toTr.latest M.toMx (p, i))) ∧ Ext w w' := by
  have hn1 := hV.n1
  have hn8 := hV.n8
  have hE8 : ∀ k, k < T.n → T.en k ≤ 64 := fun k hk => (hV.pr k hk).2.2.2.2
  have pa := hT.P.pa (by omega)
  have hmn : M.n = T.n := hF.1
  have ma := hM.pa (by omega)
  have mb := hM.pb (by omega)
  have hB := fun W (hx : Ext w W) p i hp hi => rdir_any W T (hT.ext hx) hV p i hp hi
  simp only [TM.val, pa] at hB
  have HB := Lib.hid hB
  have HM := Lib.hid hM
  have HF := Lib.hid hF
  have HMN := Lib.hid hmn
  have hV0 : T.toTr.V (p, i) := ⟨hp, hi⟩
  have HBV := Lib.hid (show ∀ y ∈ T.toTr.bk (p, i), T.toTr.V y from fun y hy => Tr.Dir.V hV0 (Tr.mem_bk.1 hy))
  clear hT hV hB hM hF hmn hV0
  go_enter Try.func18, Try.ntmps18
  go_upto_region 1 with fail
  refine boxed2 (w := w) (G := fun x => Code.wp _ _ _ _ x) ?_
  intro w1 hx1 hs1 ⟨l0, c0, _, _⟩ ⟨l1, c1, _, _⟩
  have hx11 : Ext w1 w1 := Ext.refl _
  have hBk := HB.out w1 hx1 p i hp hi
  clear hs1
  go_wp2_with (go_at_call 44; refine hBk.mono ?_; rintro e w2 ⟨v7, rfl, hown2, hx2⟩; have HO2 := Lib.hid hown2; clear hown2)
  have hxw2 := hx1.trans hx2
  obtain ⟨ll, hll⟩ : ∃ ll, ll = (T.toTr.bk (p, i)).map evI := ⟨_, rfl⟩
  rw [← hll] at HO2
  obtain ⟨a9, g9, c9, hv9, h9⟩ := HO2.out.shape
  subst hv9
  have H9 := Lib.hid h9
  have HLN := Lib.hid (show ll.length = (T.toTr.bk (p, i)).length by rw [hll]; exact List.length_map _)
  have HLL := Lib.hid hll
  have hLm : ll.length ≤ 2 := by rw [HLN.out]; exact T.toTr.bk_len (p, i)
  clear h9 hBk hll
  go_loopg [8, 9] ll.length (fun gg v8 v9 wr => ∃ j : Nat, j ≤ ll.length ∧ gg = ll.length - j ∧ v8 = .int .i64 (M.top ((T.toTr.bk (p, i)).take j)) ∧ v9 = .int .i64 j ∧ Ext w2 wr)
  case atStart => exact ⟨0, by omega, rfl, rfl, rfl, Ext.refl _⟩
  case round =>
    obtain ⟨j, hj, rfl, rfl, rfl, hxr⟩ := hrel
    have hxw := hxw2.trans hxr
    have hrr : Ext wr wr := Ext.refl _
    by_cases hlt : j < ll.length
    · obtain ⟨rfl, hga, hg9, hr9⟩ := H9.out (by omega)
      have hjb : j < (T.toTr.bk (p, i)).length := by rw [← HLN.out]; exact hlt
      obtain ⟨z, hzz⟩ : ∃ z, z = (T.toTr.bk (p, i))[j] := ⟨_, rfl⟩
      have hgd : ll.getD j (0, 0) = evI z := by
        rw [HLL.out, List.getD_eq_getElem?_getD, List.getElem?_map, List.getElem?_eq_getElem hjb, hzz]; rfl
      have hzv := HBV.out z (by rw [hzz]; exact List.getElem_mem _)
      have HTK := Lib.hid (show M.top ((T.toTr.bk (p, i)).take (j + 1)) = max (M.top ((T.toTr.bk (p, i)).take j)) (M.val z.1 z.2) by rw [List.take_succ_eq_append_getElem hjb, ← hzz]; exact M.top_snoc _ _)
      obtain ⟨zp, zi⟩ := z
      have e0 : ∀ w', Ext wr w' → w'.cell? ⟨g9, j * 2, none⟩ = some (.int .i64 zp) := fun w' h => (hxr.trans h).cell ((hr9.c0 j hlt).trans (by rw [hgd]))
      have e1 : ∀ w', Ext wr w' → w'.cell? ⟨g9, j * 2 + 1, none⟩ = some (.int .i64 (zi + 1)) := fun w' h => (hxr.trans h).cell ((hr9.c1 j hlt).trans (by rw [hgd]))
      have l9 : ∀ w', Ext wr w' → g9 < w'.heap.size := fun w' h => Nat.lt_of_lt_of_le hg9 (hxr.trans h).le
      have hlt' : (j : Int) < (ll.length : Int) := by omega
      have hzp : zp < T.n := hzv.1
      have hzi : zi < T.en zp := hzv.2
      have hze := hE8 zp hzp
      have hzm : zp < M.n := by rw [HMN.out]; exact hzp
      have hzr : zi < M.rn zp := by rw [HF.out.2 zp hzp]; exact hzi
      have hzp' : (zp : Int) < (M.n : Int) := by omega
      have hzr' : (zi : Int) < (M.rn zp : Int) := by omega
      have hw1 : IntKind.i64.wrap (zi : Int) = (zi : Int) := IntWalk.i64_in _ (by omega)
      have m0 : ∀ w', Ext w w' → w'.cell? ⟨M.b, M.off + zp, none⟩ = some (.slice (M.ra zp) (M.rn zp) (M.rc zp)) := fun w' h => HM.out.p0 w' h zp hzm
      have mra := HM.out.ra zp hzm (by omega)
      have mrb := HM.out.rb zp hzm (by omega)
      have mr0 : ∀ w', Ext w w' → w'.cell? ⟨M.rb zp, M.ro zp + zi, none⟩ = some (.int .i64 (M.val zp zi)) := fun w' h => HM.out.r0 w' h zp zi hzm hzr
      clear hr9 hzz hgd hga hzv
      by_cases hmx : M.top ((T.toTr.bk (p, i)).take j) < M.val zp zi
      · have HMX := Lib.hid (show M.top ((T.toTr.bk (p, i)).take (j + 1)) = M.val zp zi by rw [HTK.out]; show max _ (M.val zp zi) = _; omega)
        go_upto_region 6 with fail
        go_quiet (fail)
        clear hmx hw1
        go_wp2_with fail
        go_roundg (ll.length - (j + 1))
        case rel => exact ⟨j + 1, by omega, rfl, by rw [HMX.out], by go_num, hxr.drewN _⟩
        case measure => omega
      · have HMX := Lib.hid (show M.top ((T.toTr.bk (p, i)).take (j + 1)) = M.top ((T.toTr.bk (p, i)).take j) by rw [HTK.out]; show max _ (M.val zp zi) = _; omega)
        go_upto_region 6 with fail
        go_quiet (fail)
        clear hmx hw1
        go_wp2_with fail
        go_roundg (ll.length - (j + 1))
        case rel => exact ⟨j + 1, by omega, rfl, by rw [HMX.out], by go_num, hxr.drewN _⟩
        case measure => omega
    · have hje : j = ll.length := by omega
      subst hje
      have HTL := Lib.hid (show T.toTr.latest M.toMx (p, i) = M.top ((T.toTr.bk (p, i)).take ll.length) by rw [HLN.out, List.take_length]; rfl)
      go_wp2_with fail
      go_ret
      exact ⟨ret_int HTL.out.symm, hxw⟩

end Go.Proofs.Ytecgigeeolindaa

namespace Go.Proofs.Ytecgigeeolindaa
open Go.RowKit Go.Shelf

theorem foldl_max_lt {f : NN → Int} {v : Int} : ∀ (l : List NN) (a : Int), l.foldl (fun k y => max k (f y)) a < v ↔ a < v ∧ ∀ y ∈ l, f y < v
  | [], a => by simp
  | x :: l, a => by
    rw [List.foldl_cons, foldl_max_lt l]
    constructor
    · rintro ⟨h1, h2⟩
      refine ⟨by omega, fun y hy => ?_⟩
      rcases List.mem_cons.1 hy with rfl | hy
      · omega
      · exact h2 y hy
    · rintro ⟨h1, h2⟩
      have := h2 x (by simp)
      exact ⟨by omega, fun y hy => h2 y (by simp [hy])⟩
theorem Mx.top_lt {M : Mx} {l : List NN} {v : Int} : M.top l < v ↔ 0 < v ∧ ∀ y ∈ l, M.val y.1 y.2 < v := foldl_max_lt (f := fun y => M.val y.1 y.2) l 0
/-- what the reference asks of an event's stamp -/
def Tr.RCk (T : Tr) (M : Mx) (p i : Nat) : Prop := 1 ≤ M.val p i ∧ M.val p i ≤ 1125899906842624 ∧ T.latest M (p, i) < M.val p i
theorem Tr.rck_iff {T : Tr} {M : Mx} {p i : Nat} : T.RCk M p i ↔ M.val p i ≤ 1125899906842624 ∧ 0 < M.val p i ∧ ∀ y, T.Dir y (p, i) → M.val y.1 y.2 < M.val p i := by
  unfold Tr.RCk Tr.latest
  rw [Mx.top_lt]
  constructor
  · rintro ⟨h1, h2, h3, h4⟩
    exact ⟨h2, h3, fun y hy => h4 y (Tr.mem_bk.2 hy)⟩
  · rintro ⟨h2, h3, h4⟩
    exact ⟨by omega, h2, h3, fun y hy => h4 y (Tr.mem_bk.1 hy)⟩
def Tr.RCheck (T : Tr) (M : Mx) : Prop := T.Valid ∧ T.FitsM M ∧ ∀ p i, p < T.n → i < T.en p → T.RCk M p i
theorem Tr.check_iff {T : Tr} {M : Mx} : T.RCheck M ↔ T.CheckP M := by
  unfold Tr.RCheck Tr.CheckP
  refine and_congr_right fun _ => and_congr_right fun _ => ?_
  constructor
  · intro h p i hp hi
    obtain ⟨h1, h2, h3⟩ := Tr.rck_iff.1 (h p i hp hi)
    refine ⟨?_, h1, fun hk => h3 _ (.inr ⟨hk, rfl⟩)⟩
    unfold Mx.last
    by_cases h0 : i = 0
    · rw [if_pos h0]; exact h2
    · rw [if_neg h0]; exact h3 (p, i - 1) (.inl ⟨rfl, by show i = i - 1 + 1; omega⟩)
  · intro h p i hp hi
    have hpos : ∀ j, j < T.en p → 0 < M.val p j := by
      intro j
      induction j with
      | zero => intro hj; have := (h p 0 hp hj).1; exact this
      | succ j ih => intro hj; have h1 := (h p (j + 1) hp hj).1; rw [Mx.last_succ] at h1; have := ih (by omega); omega
    refine Tr.rck_iff.2 ⟨(h p i hp hi).2.1, hpos i hi, fun y hy => ?_⟩
    rcases hy with ⟨h1, h2⟩ | ⟨h1, h2⟩
    · obtain ⟨yp, yi⟩ := y
      have h1 : p = yp := h1
      have h2 : i = yi + 1 := h2
      subst h1 h2
      have := (h p (yi + 1) hp hi).1
      rw [Mx.last_succ] at this; exact this
    · rw [h2]; exact (h p i hp hi).2.2 h1
set_option maxHeartbeats 1000000 in
theorem rcheck_no (w : World) (T : TM) (hT : T.At w) (hV : ¬ T.toTr.Valid) (M : MM) :
    Calls Try.prog 24 #[T.val, .slice M.a M.n M.cap] w (BoolPost (T.toTr.RCheck M.toMx) w) := by
  go_enter Try.func24, Try.ntmps24
  go_upto_region 1 with fail
  refine boxed1 (w := w) (G := fun x => Code.wp _ _ _ _ x) ?_
  intro w1 hx1 hs1 ⟨l0, c0, _, _⟩
  have hx11 : Ext w1 w1 := Ext.refl _
  have hF := rvalid_any w1 T (hT.ext hx1)
  clear hs1 hT
  go_wp2_with fail
  go_at_call 12
  refine hF.mono ?_
  rintro e w2 ⟨b, rfl, hb, hx2⟩
  obtain rfl : b = false := (Bool.eq_false_iff.2 fun h => hV (hb.1 h))
  clear hb hF
  go_wp2_with fail
  go_ret
  exact BoolPost.no (fun h => hV h.1) (hx1.trans hx2)
set_option maxRecDepth 100000 in
set_option maxHeartbeats 4000000 in
theorem rcheck_yes (w : World) (T : TM) (hT : T.At w) (hV : T.toTr.Valid) (M : MM) (hM : M.At w) :
    Calls Try.prog 24 #[T.val, .slice M.a M.n M.cap] w (BoolPost (T.toTr.RCheck M.toMx) w) := by
  have hn1 := hV.n1
  have hn8 := hV.n8
  have hE8 : ∀ k, k < T.n → T.en k ≤ 64 := fun k hk => (hV.pr k hk).2.2.2.2
  have pa := hT.P.pa (by omega)
  have hVa := fun W (hx : Ext w W) => rvalid_any W T (hT.ext hx)
  have hFt := fun W (hx : Ext w W) => rfits_any W T (hT.ext hx) M (hM.ext hx)
  have hLa := fun W (hx : Ext w W) hF p i hp hi => rlatest_any W T (hT.ext hx) (Tr.valid_iff.1 hV).1 M (hM.ext hx) hF p i hp hi
  simp only [TM.val, pa] at hVa hFt hLa
  have HFt := Lib.hid hFt
  have HLa := Lib.hid hLa
  have HV := Lib.hid hV
  have HM := Lib.hid hM
  clear hT hV hM hFt hLa
  go_enter Try.func24, Try.ntmps24
  go_upto_region 1 with fail
  refine boxed1 (w := w) (G := fun x => Code.wp _ _ _ _ x) ?_
  intro w1 hx1 hs1 ⟨l0, c0, _, _⟩
  have hx11 : Ext w1 w1 := Ext.refl _
  have hF := hVa w1 hx1
  clear hs1 hVa
  go_wp2_with fail
  go_at_call 12
  refine hF.mono ?_
  rintro e w2 ⟨b, rfl, hb, hx2⟩
  obtain rfl : b = true := hb.2 HV.out
  have hxw2 := hx1.trans hx2
  clear hb hF
  have hF := HFt.out w2 hxw2
  go_wp2_with fail
  go_at_call 16
  refine hF.mono ?_
  rintro e w3 ⟨b, rfl, hb, hx3⟩
  have hxw3 := hxw2.trans hx3
  have hx13 := hx2.trans hx3
  clear hF
  cases b with
  | false =>
    have HN := Lib.hid (show ¬ T.toTr.FitsM M.toMx from fun h => by have := hb.2 h; cases this)
    clear hb
    go_wp2_with fail
    go_ret
    exact BoolPost.no (fun h => HN.out h.2.1) hxw3
  | true =>
    have HF := Lib.hid (hb.1 rfl)
    have hmn : M.n = T.n := HF.out.1
    have ma := HM.out.pa (by omega)
    have mb := HM.out.pb (by omega)
    have hmn1 : 1 ≤ M.n := by omega
    have hmn8 : M.n ≤ 8 := by omega
    have HMN := Lib.hid hmn
    have hLa := HLa.out
    simp only [ma] at hLa
    have HLa2 := Lib.hid hLa
    clear hb hmn hLa
    go_wp2_with fail
    go_loopg [5] M.n (fun gg v wr => ∃ k : Nat, k ≤ M.n ∧ gg = M.n - k ∧ v = .int .i64 k ∧ Ext w1 wr ∧ ∀ j i, j < k → i < T.en j → T.toTr.RCk M.toMx j i)
    case atStart => exact ⟨0, by omega, rfl, rfl, hx13, fun j i hj => by omega⟩
    case round =>
      obtain ⟨k, hk, rfl, rfl, hxr, hok⟩ := hrel
      have HOK := Lib.hid hok
      clear hok
      have hxw := hx1.trans hxr
      by_cases hlt : k < M.n
      · have hlt' : (k : Int) < (M.n : Int) := by omega
        have hlT : k < T.n := by have := HMN.out; omega
        have hen := hE8 k hlT
        obtain ⟨rk, hrk⟩ : ∃ r, r = M.rn k := ⟨_, rfl⟩
        have hrE : rk = T.en k := by rw [hrk]; exact HF.out.2 k hlT
        have hrk64 : rk ≤ 64 := by omega
        have m0 : ∀ w', Ext w w' → w'.cell? ⟨M.b, M.off + k, none⟩ = some (.slice (M.ra k) rk (M.rc k)) := fun w' h => by rw [hrk]; exact HM.out.p0 w' h k hlt
        have HRK := Lib.hid hrk
        have HRE := Lib.hid hrE
        clear hrk hrE
        go_wp2_with fail
        go_loopg [6] rk (fun gg v wr => ∃ i : Nat, i ≤ rk ∧ gg = rk - i ∧ v = .int .i64 i ∧ Ext w1 wr ∧ ∀ j, j < i → T.toTr.RCk M.toMx k j)
        case atStart => exact ⟨0, by omega, rfl, rfl, hxr, fun j hj => by omega⟩
        case round =>
          obtain ⟨i, hi, rfl, rfl, hxr, hok⟩ := hrel
          have HOI := Lib.hid hok
          clear hok
          have hxw := hx1.trans hxr
          by_cases hli : i < rk
          · have hli' : (i : Int) < (rk : Int) := by omega
            have hlr : i < M.rn k := by rw [← HRK.out]; exact hli
            have hlE : i < T.en k := by rw [← HRE.out]; exact hli
            have mra := HM.out.ra k hlt (by omega)
            have mrb := HM.out.rb k hlt (by omega)
            have mr0 : ∀ w', Ext w w' → w'.cell? ⟨M.rb k, M.ro k + i, none⟩ = some (.int .i64 (M.val k i)) := fun w' h => HM.out.r0 w' h k i hlt hlr
            by_cases h1 : M.val k i < 1
            · have b1 : decide (M.val k i < 1) = true := decide_eq_true h1
              go_wp2_with fail
              go_ret
              exact BoolPost.no (fun h => by have := (h.2.2 k i hlT hlE).1; omega) hxw
            · have b1 : decide (M.val k i < 1) = false := decide_eq_false h1
              by_cases h2 : 1125899906842624 < M.val k i
              · have b2 : decide (1125899906842624 < M.val k i) = true := decide_eq_true h2
                go_wp2_with fail
                go_ret
                exact BoolPost.no (fun h => by have := (h.2.2 k i hlT hlE).2.1; omega) hxw
              · have b2 : decide (1125899906842624 < M.val k i) = false := decide_eq_false h2
                have hC := HLa2.out wr hxw HF.out k i hlT hlE
                by_cases h3 : M.val k i ≤ T.toTr.latest M.toMx (k, i)
                · have b3 : decide (M.val k i ≤ T.toTr.latest M.toMx (k, i)) = true := decide_eq_true h3
                  go_wp2_with fail
                  go_at_call 18
                  refine hC.mono ?_
                  rintro e w5 ⟨rfl, hx5⟩
                  clear hC
                  go_wp2_with fail
                  go_ret
                  exact BoolPost.no (fun h => by have := (h.2.2 k i hlT hlE).2.2; omega) (hxw.trans hx5)
                · have b3 : decide (M.val k i ≤ T.toTr.latest M.toMx (k, i)) = false := decide_eq_false h3
                  have HC := Lib.hid (show T.toTr.RCk M.toMx k i from ⟨by omega, by omega, by omega⟩)
                  go_wp2_with fail
                  go_at_call 18
                  refine hC.mono ?_
                  rintro e w5 ⟨rfl, hx5⟩
                  clear hC
                  go_wp2_with fail
                  go_roundg (rk - (i + 1))
                  case rel => exact ⟨i + 1, by omega, rfl, by go_num, hxr.trans hx5, fun j hj => by
                    by_cases e : j = i
                    · subst e; exact HC.out
                    · exact HOI.out j (by omega)⟩
                  case measure => omega
          · have hie : i = rk := by omega
            subst hie
            go_wp2_with fail
            go_roundg (M.n - (k + 1))
            case rel => exact ⟨k + 1, by omega, rfl, by go_num, hxr, fun j i2 hj hi2 => by
              by_cases e : j = k
              · subst e; exact HOI.out i2 (by rw [HRE.out]; exact hi2)
              · exact HOK.out j i2 (by omega) hi2⟩
            case measure => omega
      · have hke : k = M.n := by omega
        subst hke
        go_wp2_with fail
        go_ret
        exact BoolPost.yes ⟨HV.out, HF.out, fun p i hp hi => HOK.out p i (by rw [HMN.out]; exact hp) hi⟩ hxw

end Go.Proofs.Ytecgigeeolindaa
