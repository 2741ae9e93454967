/- Contract of the law's few: it says no, or the trace has at most 10 processes and 80 events. Contract: lamport.Check. Contract of antecederef14: Latest. Contract of antecederef14: Check; it is the program's condition. antecederef14.Stamps: plain part: numbers are raised until nothing changes. A table of numbers: rows of the call's own, each in a block of its own (as the table of bools of antecederef12.Past). Contract of antecederef14: Stamps. -/
import Derived.Test.YteikcgfnkhoigaaGreatKc
import Derived.Test.YteikcgfnkhoigaaGreatKb
import Derived.Test.YteikcgfnkhoigaaGreatKg
import Derived.Deep.LoopGhost
import Derived.Test.YteikcgfnkhoigaaGreatKp
import Derived.Test.YteikcgfnkhoigaaGreatKo
import Derived.Test.YteikcgfnkhoigaaGreatKh
namespace Go.Proofs.YteikcgfnkhoigaaGreat
open Go.RowKit Go.Shelf

set_option maxHeartbeats 400000 in
theorem few1_any (w : World) (a b c d : Int) (e : Option Addr) (n cap : Nat) :
    Calls Tryz.prog 82 #[.agg #[.int .i64 a, .int .i64 b, .int .i64 c, .int .i64 d, .slice e n cap]] w fun r w' => r = .returned (.bool (decide (12 < (n : Int)))) ∧ Ext w w' := by
  go_enter Tryz.func82, Tryz.ntmps82
  go_wp2
  go_ret
  exact ⟨ret_bool (by simp), Ext.alloc _ _⟩
set_option maxHeartbeats 400000 in
theorem few2_any (w : World) (s : ByteArray) (v : Int) :
    Calls Tryz.prog 84 #[.agg #[.string s, .int .i64 v]] w fun r w' => r = .returned (.bool (decide (40 < (s.size : Int)))) ∧ Ext w w' := by
  go_enter Tryz.func84, Tryz.ntmps84
  go_wp2
  go_ret
  exact ⟨ret_bool (by simp), Ext.alloc _ _⟩
def FewPost (T : TM) (w : World) (e : Ending) (w' : World) : Prop := Ext w w' ∧ ∃ b : Bool, e = .returned (.bool b) ∧ (b = true → T.n ≤ 10 ∧ tot T.en T.n ≤ 80)
theorem tot_succ (f : Nat → Nat) (n : Nat) : tot f (n + 1) = tot f n + f n := rfl
theorem tot_mono {f : Nat → Nat} {k : Nat} : ∀ {n : Nat}, k ≤ n → tot f k ≤ tot f n
  | 0, h => by rw [show k = 0 by omega]; exact Nat.le_refl _
  | n + 1, h => by
    rcases Nat.lt_or_ge n k with h' | h'
    · rw [show k = n + 1 by omega]; exact Nat.le_refl _
    · have := tot_mono (f := f) h'; rw [tot_succ]; omega
theorem tot_one_le {f : Nat → Nat} {k n : Nat} (h : k < n) : f k ≤ tot f n := by
  have h1 := tot_mono (f := f) (k := k + 1) (n := n) (by omega)
  rw [tot_succ] at h1; omega
set_option maxRecDepth 100000 in
set_option maxHeartbeats 2000000 in
theorem few_any (w : World) (T : TM) (hT : T.At w) : Calls Tryz.prog 34 #[T.val] w (FewPost T w) := by
  have hn := hT.P.hn
  have HT := Lib.hid hT
  clear hT
  go_enter Tryz.func34, Tryz.ntmps34
  go_upto_region 1 with fail
  refine boxed1 (w := w) (G := fun x => Code.wp _ _ _ _ x) ?_
  intro w1 hx1 hs1 ⟨l0, c0, _, _⟩
  have hx11 : Ext w1 w1 := Ext.refl _
  clear hs1
  obtain ⟨ta, hta⟩ : ∃ a, a = T.a := ⟨_, rfl⟩
  rw [← hta] at c0
  have HTA := Lib.hid hta
  clear hta
  go_wp2_with fail
  go_loopg [3, 9] T.n (fun gg v3 v9 wr => ∃ k : Nat, k ≤ T.n ∧ gg = T.n - k ∧ v3 = .int .i64 (tot T.en k : Nat) ∧ v9 = .int .i64 k ∧ tot T.en k ≤ 80 ∧ Ext w1 wr)
  case atStart => exact ⟨0, by omega, rfl, rfl, rfl, by show 0 ≤ 80; omega, hx11⟩
  case round =>
    obtain ⟨k, hk, rfl, rfl, rfl, ht, hxr⟩ := hrel
    have hxw := hx1.trans hxr
    by_cases hlt : k < T.n
    · have hlt' : (k : Int) < (T.n : Int) := by omega
      obtain rfl : ta = some ⟨T.b, T.off, none⟩ := by rw [HTA.out]; exact HT.out.P.pa (by omega)
      have pb := HT.out.P.pb (by omega)
      have p0 : ∀ w', Ext w w' → w'.cell? ⟨T.b, T.off + k * 3, none⟩ = some (.string (T.name k)) := fun w' h => HT.out.P.p0 w' h k hlt
      have p1 : ∀ w', Ext w w' → w'.cell? ⟨T.b, T.off + k * 3 + 1, none⟩ = some (.slice (T.va k) (T.vn k) (T.vc k)) := fun w' h => HT.out.P.p1 w' h k hlt
      have p2 : ∀ w', Ext w w' → w'.cell? ⟨T.b, T.off + k * 3 + 2, none⟩ = some (.slice (T.ea k) (T.en k) (T.ec k)) := fun w' h => HT.out.P.p2 w' h k hlt
      have hen := HT.out.E.he k hlt
      have hvn := HT.out.V.hv k hlt
      have hnm := HT.out.ok.name k hlt
      go_upto_region 5 with fail
      refine boxed1 (w := wr) (G := fun x => Code.wp _ _ _ _ x) ?_
      intro w2 hx2 hs2 ⟨l2, c2, _, _⟩
      have hx22 : Ext w2 w2 := Ext.refl _
      have hxw2 := hxw.trans hx2
      have hx12 := hxr.trans hx2
      clear hs2 p0 p1 p2 pb
      generalize wr.heap.size = xb at l2 c2 ⊢
      obtain ⟨m, hm⟩ : ∃ m : Nat, m = tot T.en k + T.en k := ⟨_, rfl⟩
      have HM := Lib.hid (show m = tot T.en (k + 1) from hm)
      have hmw : IntKind.i64.wrap ((tot T.en k : Int) + (T.en k : Int)) = (m : Int) := by rw [IntWalk.i64_in _ (by omega)]; omega
      have hadd : ((tot T.en k : Int) + (T.en k : Int)) = (m : Int) := by omega
      clear hm
      by_cases h80 : 80 < m
      · have b1 : decide ((80 : Int) < (m : Int)) = true := decide_eq_true (by omega)
        have b1' : decide (80 < m) = true := decide_eq_true h80
        go_wp2_with fail
        go_ret
        exact ⟨hxw2, false, rfl, fun h => by cases h⟩
      · have b1 : decide ((80 : Int) < (m : Int)) = false := decide_eq_false (by omega)
        have b1' : decide (80 < m) = false := decide_eq_false h80
        by_cases h12 : 12 < T.vn k
        · have b2 : decide ((12 : Int) < (T.vn k : Int)) = true := decide_eq_true (by omega)
          have b2' : decide (12 < T.vn k) = true := decide_eq_true h12
          go_wp2_with fail
          go_ret
          exact ⟨hxw2, false, rfl, fun h => by cases h⟩
        · have b2 : decide ((12 : Int) < (T.vn k : Int)) = false := decide_eq_false (by omega)
          have b2' : decide (12 < T.vn k) = false := decide_eq_false h12
          by_cases h40 : 40 < (T.name k).size
          · have b3 : decide ((40 : Int) < ((T.name k).size : Int)) = true := decide_eq_true (by omega)
            have b3' : decide (40 < (T.name k).size) = true := decide_eq_true h40
            go_wp2_with fail
            go_ret
            exact ⟨hxw2, false, rfl, fun h => by cases h⟩
          · have b3 : decide ((40 : Int) < ((T.name k).size : Int)) = false := decide_eq_false (by omega)
            have b3' : decide (40 < (T.name k).size) = false := decide_eq_false h40
            have hEv := has_Event w2 (T.ea k) (T.eb k) (T.eo k) (T.en k) (T.ec k) (fun i => .int .i64 (T.kind k i)) (fun i => .int .i64 (T.peer k i)) (fun i => .int .i64 (T.msg k i)) (fun i => .int .i64 (T.time k i)) (fun i => .slice (T.aa k i) (T.an k i) (T.ac k i))
              82 #[] (fun i => decide (12 < (T.an k i : Int))) hen (fun h => HT.out.E.ea k hlt h) (fun w' hx i hi => HT.out.E.e0 w' (hxw2.trans hx) k i hlt hi) (fun w' hx i hi => HT.out.E.e1 w' (hxw2.trans hx) k i hlt hi) (fun w' hx i hi => HT.out.E.e2 w' (hxw2.trans hx) k i hlt hi) (fun w' hx i hi => HT.out.E.e3 w' (hxw2.trans hx) k i hlt hi) (fun w' hx i hi => HT.out.E.e4 w' (hxw2.trans hx) k i hlt hi)
              (enters_of Tryz.func82 (by kernel_rfl) rfl) (fun i hi w' hx => few1_any w' _ _ _ _ _ _ _)
            have hVr := fun w3 (hx3 : Ext w w3) => has_Var w3 (T.va k) (T.vb k) (T.vo k) (T.vn k) (T.vc k) (fun i => .string (T.vname k i)) (fun i => .int .i64 (T.vinit k i))
              84 #[] (fun i => decide (40 < ((T.vname k i).size : Int))) hvn (fun h => HT.out.V.va k hlt h) (fun w' hx i hi => HT.out.V.v0 w' (hx3.trans hx) k i hlt hi) (fun w' hx i hi => HT.out.V.v1 w' (hx3.trans hx) k i hlt hi)
              (enters_of Tryz.func84 (by kernel_rfl) rfl) (fun i hi w' hx => few2_any w' _ _)
            cases hE : anyB (fun i => decide (12 < (T.an k i : Int))) (T.en k) with
            | true =>
              rw [hE] at hEv
              clear hE hVr
              go_wp2_with fail
              go_at_call 53
              refine hEv.mono ?_
              rintro e w3 ⟨rfl, hx3⟩
              have hx33 := hxw2.trans hx3
              clear hEv
              go_wp2_with fail
              go_ret
              exact ⟨hx33, false, rfl, fun h => by cases h⟩
            | false =>
              rw [hE] at hEv
              clear hE
              go_wp2_with fail
              go_at_call 53
              refine hEv.mono ?_
              rintro e w3 ⟨rfl, hx3⟩
              have hx33 := hxw2.trans hx3
              have hx13 := hx12.trans hx3
              have hVr3 := hVr w3 hx33
              clear hEv hVr
              cases hV : anyB (fun i => decide (40 < ((T.vname k i).size : Int))) (T.vn k) with
              | true =>
                rw [hV] at hVr3
                clear hV
                go_wp2_with fail
                go_at_call 83
                refine hVr3.mono ?_
                rintro e w4 ⟨rfl, hx4⟩
                have hx44 := hx33.trans hx4
                clear hVr3
                go_wp2_with fail
                go_ret
                exact ⟨hx44, false, rfl, fun h => by cases h⟩
              | false =>
                rw [hV] at hVr3
                clear hV
                go_wp2_with fail
                go_at_call 83
                refine hVr3.mono ?_
                rintro e w4 ⟨rfl, hx4⟩
                have hx44 := hx33.trans hx4
                have hx14 := hx13.trans hx4
                clear hVr3
                go_wp2_with fail
                go_roundg (T.n - (k + 1))
                case rel => exact ⟨k + 1, by omega, rfl, by rw [← HM.out], by go_num, by rw [← HM.out]; omega, hx14⟩
                case measure => omega
    · have hke : k = T.n := by omega
      subst hke
      have HTO := Lib.hid ht
      by_cases h10 : T.n ≤ 10
      · have b1 : decide ((T.n : Int) ≤ 10) = true := decide_eq_true (by omega)
        have b1' : decide (T.n ≤ 10) = true := decide_eq_true h10
        go_wp2_with fail
        go_ret
        exact ⟨hxw, true, rfl, fun _ => ⟨h10, HTO.out⟩⟩
      · have b1 : decide ((T.n : Int) ≤ 10) = false := decide_eq_false (by omega)
        have b1' : decide (T.n ≤ 10) = false := decide_eq_false h10
        go_wp2_with fail
        go_ret
        exact ⟨hxw, false, rfl, fun h => by cases h⟩

end Go.Proofs.YteikcgfnkhoigaaGreat

namespace Go.Proofs.YteikcgfnkhoigaaGreat
open Go.RowKit Go.Shelf

/-- the stamp before -/
def Mx.last (M : Mx) (p i : Nat) : Int := if i = 0 then 0 else M.val p (i - 1)
theorem Mx.last_succ (M : Mx) (p i : Nat) : M.last p (i + 1) = M.val p i := by unfold Mx.last; rw [if_neg (by omega)]; rfl
/-- an event's stamp fulfils the clock condition -/
def Tr.CkOk (T : Tr) (M : Mx) (p i : Nat) : Prop := M.last p i < M.val p i ∧ M.val p i ≤ 1125899906842624 ∧ (T.kind p i = 3 → M.val (T.sndN (p, i)).1 (T.sndN (p, i)).2 < M.val p i)
def Tr.CheckP (T : Tr) (M : Mx) : Prop := T.Valid ∧ T.FitsM M ∧ ∀ p i, p < T.n → i < T.en p → T.CkOk M p i

end Go.Proofs.YteikcgfnkhoigaaGreat

namespace Go.Proofs.YteikcgfnkhoigaaGreat
open Go.RowKit Go.Shelf

/-- the greatest stamp of the events in a list; at least 0 -/
def Mx.top (M : Mx) (l : List NN) : Int := l.foldl (fun k y => max k (M.val y.1 y.2)) 0
theorem Mx.top_nil (M : Mx) : M.top [] = 0 := rfl
theorem Mx.top_snoc (M : Mx) (l : List NN) (y : NN) : M.top (l ++ [y]) = max (M.top l) (M.val y.1 y.2) := by unfold Mx.top; rw [List.foldl_append]; rfl
/-- the greatest stamp of an event directly before x -/
noncomputable def Tr.latest (T : Tr) (M : Mx) (x : NN) : Int := M.top (T.bk x)
set_option maxRecDepth 100000 in
set_option maxHeartbeats 2000000 in
theorem rlatest_any (w : World) (T : TM) (hT : T.At w) (hV : T.toTr.Pre) (M : MM) (hM : M.At w) (hF : T.toTr.FitsM M.toMx) (p i : Nat) (hp : p < T.n) (hi : i < T.en p) :
    Calls Tryz.prog 149 #[T.val, .slice M.a M.n M.cap, .agg #[.int .i64 p, .int .i64 (i + 1)]] w fun e w' => e = .returned (.int .i64 (T.toTr.latest M.toMx (p, i))) ∧ Ext w w' := by
  have hn1 := hV.n1
  have hn8 := hV.n8
  have hE8 : ∀ k, k < T.n → T.en k ≤ 64 := fun k hk => (hV.pr k hk).2.2.2.2
  have pa := hT.P.pa (by omega)
  have hmn : M.n = T.n := hF.1
  have ma := hM.pa (by omega)
  have mb := hM.pb (by omega)
  have hB := fun W (hx : Ext w W) p i hp hi => rdir_any W T (hT.ext hx) hV p i hp hi
  simp only [TM.val, pa] at hB
  have HB := Lib.hid hB
  have HM := Lib.hid hM
  have HF := Lib.hid hF
  have HMN := Lib.hid hmn
  have hV0 : T.toTr.V (p, i) := ⟨hp, hi⟩
  have HBV := Lib.hid (show ∀ y ∈ T.toTr.bk (p, i), T.toTr.V y from fun y hy => Tr.Dir.V hV0 (Tr.mem_bk.1 hy))
  clear hT hV hB hM hF hmn hV0
  go_enter Tryz.func149, Tryz.ntmps149
  go_upto_region 1 with fail
  refine boxed2 (w := w) (G := fun x => Code.wp _ _ _ _ x) ?_
  intro w1 hx1 hs1 ⟨l0, c0, _, _⟩ ⟨l1, c1, _, _⟩
  have hx11 : Ext w1 w1 := Ext.refl _
  have hBk := HB.out w1 hx1 p i hp hi
  clear hs1
  go_wp2_with (go_at_call 69; refine hBk.mono ?_; rintro e w2 ⟨v7, rfl, hown2, hx2⟩; have HO2 := Lib.hid hown2; clear hown2)
  have hxw2 := hx1.trans hx2
  obtain ⟨ll, hll⟩ : ∃ ll, ll = (T.toTr.bk (p, i)).map evI := ⟨_, rfl⟩
  rw [← hll] at HO2
  obtain ⟨a9, g9, c9, hv9, h9⟩ := HO2.out.shape
  subst hv9
  have H9 := Lib.hid h9
  have HLN := Lib.hid (show ll.length = (T.toTr.bk (p, i)).length by rw [hll]; exact List.length_map _)
  have HLL := Lib.hid hll
  have hLm : ll.length ≤ 2 := by rw [HLN.out]; exact T.toTr.bk_len (p, i)
  clear h9 hBk hll
  go_loopg [8, 9] ll.length (fun gg v8 v9 wr => ∃ j : Nat, j ≤ ll.length ∧ gg = ll.length - j ∧ v8 = .int .i64 (M.top ((T.toTr.bk (p, i)).take j)) ∧ v9 = .int .i64 j ∧ Ext w2 wr)
  case atStart => exact ⟨0, by omega, rfl, rfl, rfl, Ext.refl _⟩
  case round =>
    obtain ⟨j, hj, rfl, rfl, rfl, hxr⟩ := hrel
    have hxw := hxw2.trans hxr
    have hrr : Ext wr wr := Ext.refl _
    by_cases hlt : j < ll.length
    · obtain ⟨rfl, hga, hg9, hr9⟩ := H9.out (by omega)
      have hjb : j < (T.toTr.bk (p, i)).length := by rw [← HLN.out]; exact hlt
      obtain ⟨z, hzz⟩ : ∃ z, z = (T.toTr.bk (p, i))[j] := ⟨_, rfl⟩
      have hgd : ll.getD j (0, 0) = evI z := by
        rw [HLL.out, List.getD_eq_getElem?_getD, List.getElem?_map, List.getElem?_eq_getElem hjb, hzz]; rfl
      have hzv := HBV.out z (by rw [hzz]; exact List.getElem_mem _)
      have HTK := Lib.hid (show M.top ((T.toTr.bk (p, i)).take (j + 1)) = max (M.top ((T.toTr.bk (p, i)).take j)) (M.val z.1 z.2) by rw [List.take_succ_eq_append_getElem hjb, ← hzz]; exact M.top_snoc _ _)
      obtain ⟨zp, zi⟩ := z
      have e0 : ∀ w', Ext wr w' → w'.cell? ⟨g9, j * 2, none⟩ = some (.int .i64 zp) := fun w' h => (hxr.trans h).cell ((hr9.c0 j hlt).trans (by rw [hgd]))
      have e1 : ∀ w', Ext wr w' → w'.cell? ⟨g9, j * 2 + 1, none⟩ = some (.int .i64 (zi + 1)) := fun w' h => (hxr.trans h).cell ((hr9.c1 j hlt).trans (by rw [hgd]))
      have l9 : ∀ w', Ext wr w' → g9 < w'.heap.size := fun w' h => Nat.lt_of_lt_of_le hg9 (hxr.trans h).le
      have hlt' : (j : Int) < (ll.length : Int) := by omega
      have hzp : zp < T.n := hzv.1
      have hzi : zi < T.en zp := hzv.2
      have hze := hE8 zp hzp
      have hzm : zp < M.n := by rw [HMN.out]; exact hzp
      have hzr : zi < M.rn zp := by rw [HF.out.2 zp hzp]; exact hzi
      have hzp' : (zp : Int) < (M.n : Int) := by omega
      have hzr' : (zi : Int) < (M.rn zp : Int) := by omega
      have hw1 : IntKind.i64.wrap (zi : Int) = (zi : Int) := IntWalk.i64_in _ (by omega)
      have m0 : ∀ w', Ext w w' → w'.cell? ⟨M.b, M.off + zp, none⟩ = some (.slice (M.ra zp) (M.rn zp) (M.rc zp)) := fun w' h => HM.out.p0 w' h zp hzm
      have mra := HM.out.ra zp hzm (by omega)
      have mrb := HM.out.rb zp hzm (by omega)
      have mr0 : ∀ w', Ext w w' → w'.cell? ⟨M.rb zp, M.ro zp + zi, none⟩ = some (.int .i64 (M.val zp zi)) := fun w' h => HM.out.r0 w' h zp zi hzm hzr
      clear hr9 hzz hgd hga hzv
      by_cases hmx : M.top ((T.toTr.bk (p, i)).take j) < M.val zp zi
      · have HMX := Lib.hid (show M.top ((T.toTr.bk (p, i)).take (j + 1)) = M.val zp zi by rw [HTK.out]; show max _ (M.val zp zi) = _; omega)
        go_upto_region 6 with fail
        go_quiet (fail)
        clear hmx hw1
        go_wp2_with fail
        go_roundg (ll.length - (j + 1))
        case rel => exact ⟨j + 1, by omega, rfl, by rw [HMX.out], by go_num, hxr.drewN _⟩
        case measure => omega
      · have HMX := Lib.hid (show M.top ((T.toTr.bk (p, i)).take (j + 1)) = M.top ((T.toTr.bk (p, i)).take j) by rw [HTK.out]; show max _ (M.val zp zi) = _; omega)
        go_upto_region 6 with fail
        go_quiet (fail)
        clear hmx hw1
        go_wp2_with fail
        go_roundg (ll.length - (j + 1))
        case rel => exact ⟨j + 1, by omega, rfl, by rw [HMX.out], by go_num, hxr.drewN _⟩
        case measure => omega
    · have hje : j = ll.length := by omega
      subst hje
      have HTL := Lib.hid (show T.toTr.latest M.toMx (p, i) = M.top ((T.toTr.bk (p, i)).take ll.length) by rw [HLN.out, List.take_length]; rfl)
      go_wp2_with fail
      go_ret
      exact ⟨ret_int HTL.out.symm, hxw⟩

end Go.Proofs.YteikcgfnkhoigaaGreat

namespace Go.Proofs.YteikcgfnkhoigaaGreat
open Go.RowKit Go.Shelf

theorem foldl_max_lt {f : NN → Int} {v : Int} : ∀ (l : List NN) (a : Int), l.foldl (fun k y => max k (f y)) a < v ↔ a < v ∧ ∀ y ∈ l, f y < v
  | [], a => by simp
  | x :: l, a => by
    rw [List.foldl_cons, foldl_max_lt l]
    constructor
    · rintro ⟨h1, h2⟩
      refine ⟨by omega, fun y hy => ?_⟩
      rcases List.mem_cons.1 hy with rfl | hy
      · omega
      · exact h2 y hy
    · rintro ⟨h1, h2⟩
      have := h2 x (by simp)
      exact ⟨by omega, fun y hy => h2 y (by simp [hy])⟩
theorem Mx.top_lt {M : Mx} {l : List NN} {v : Int} : M.top l < v ↔ 0 < v ∧ ∀ y ∈ l, M.val y.1 y.2 < v := foldl_max_lt (f := fun y => M.val y.1 y.2) l 0
/-- what the reference asks of an event's stamp -/
def Tr.RCk (T : Tr) (M : Mx) (p i : Nat) : Prop := 1 ≤ M.val p i ∧ M.val p i ≤ 1125899906842624 ∧ T.latest M (p, i) < M.val p i
theorem Tr.rck_iff {T : Tr} {M : Mx} {p i : Nat} : T.RCk M p i ↔ M.val p i ≤ 1125899906842624 ∧ 0 < M.val p i ∧ ∀ y, T.Dir y (p, i) → M.val y.1 y.2 < M.val p i := by
  unfold Tr.RCk Tr.latest
  rw [Mx.top_lt]
  constructor
  · rintro ⟨h1, h2, h3, h4⟩
    exact ⟨h2, h3, fun y hy => h4 y (Tr.mem_bk.2 hy)⟩
  · rintro ⟨h2, h3, h4⟩
    exact ⟨by omega, h2, h3, fun y hy => h4 y (Tr.mem_bk.1 hy)⟩
def Tr.RCheck (T : Tr) (M : Mx) : Prop := T.Valid ∧ T.FitsM M ∧ ∀ p i, p < T.n → i < T.en p → T.RCk M p i
theorem Tr.check_iff {T : Tr} {M : Mx} : T.RCheck M ↔ T.CheckP M := by
  unfold Tr.RCheck Tr.CheckP
  refine and_congr_right fun _ => and_congr_right fun _ => ?_
  constructor
  · intro h p i hp hi
    obtain ⟨h1, h2, h3⟩ := Tr.rck_iff.1 (h p i hp hi)
    refine ⟨?_, h1, fun hk => h3 _ (.inr ⟨hk, rfl⟩)⟩
    unfold Mx.last
    by_cases h0 : i = 0
    · rw [if_pos h0]; exact h2
    · rw [if_neg h0]; exact h3 (p, i - 1) (.inl ⟨rfl, by show i = i - 1 + 1; omega⟩)
  · intro h p i hp hi
    have hpos : ∀ j, j < T.en p → 0 < M.val p j := by
      intro j
      induction j with
      | zero => intro hj; have := (h p 0 hp hj).1; exact this
      | succ j ih => intro hj; have h1 := (h p (j + 1) hp hj).1; rw [Mx.last_succ] at h1; have := ih (by omega); omega
    refine Tr.rck_iff.2 ⟨(h p i hp hi).2.1, hpos i hi, fun y hy => ?_⟩
    rcases hy with ⟨h1, h2⟩ | ⟨h1, h2⟩
    · obtain ⟨yp, yi⟩ := y
      have h1 : p = yp := h1
      have h2 : i = yi + 1 := h2
      subst h1 h2
      have := (h p (yi + 1) hp hi).1
      rw [Mx.last_succ] at this; exact this
    · rw [h2]; exact (h p i hp hi).2.2 h1

end Go.Proofs.YteikcgfnkhoigaaGreat

namespace Go.Proofs.YteikcgfnkhoigaaGreat

theorem Mx.top_ge (M : Mx) (l : List NN) : 0 ≤ M.top l ∧ ∀ y ∈ l, M.val y.1 y.2 ≤ M.top l := by
  have h := (Mx.top_lt (M := M) (l := l) (v := M.top l + 1)).1 (by omega)
  exact ⟨by omega, fun y hy => by have := h.2 y hy; omega⟩
theorem Tr.Stamps.dir_lt {T : Tr} {rows : Nat → List Int} (h : T.Stamps rows) {x y : NN} (hx : T.V x) (hd : T.Dir y x) : stOf rows y < stOf rows x := by
  have e := h.eq x.1 x.2 hx.1 hx.2
  have e' : stOf rows x = max (if x.2 = 0 then 0 else (rows x.1).getD (x.2 - 1) 0) (if T.kind x.1 x.2 = 3 then stOf rows (T.sndN x) else 0) + 1 := e
  rcases hd with ⟨h1, h2⟩ | ⟨h1, h2⟩
  · obtain ⟨xp, xi⟩ := x
    obtain ⟨yp, yi⟩ := y
    have h1 : xp = yp := h1
    have h2 : xi = yi + 1 := h2
    subst h1 h2
    have h3 : (if (yi + 1) = 0 then (0 : Int) else (rows xp).getD (yi + 1 - 1) 0) = stOf rows (xp, yi) := by rw [if_neg (by omega)]; rfl
    have e' : stOf rows (xp, yi + 1) = max (if (yi + 1) = 0 then 0 else (rows xp).getD (yi + 1 - 1) 0) (if T.kind xp (yi + 1) = 3 then stOf rows (T.sndN (xp, yi + 1)) else 0) + 1 := e'
    rw [h3] at e'
    show stOf rows (xp, yi) < stOf rows (xp, yi + 1)
    rw [e']
    exact Int.lt_add_one_of_le (Int.le_max_left _ _)
  · rw [if_pos h1, ← h2] at e'
    rw [e']
    exact Int.lt_add_one_of_le (Int.le_max_right _ _)
theorem Tr.Stamps.pos {T : Tr} {rows : Nat → List Int} (h : T.Stamps rows) {x : NN} (hx : T.V x) : 1 ≤ stOf rows x ∧ stOf rows x ≤ (tot T.en T.n : Nat) := h.sm x.1 x.2 hx.1 hx.2
/-- the matrix of a function -/
def mxOf (T : Tr) (f : Nat → Nat → Int) : Mx := ⟨T.n, T.en, f⟩
/-- the stamps as a matrix fulfil the clock condition -/
theorem Tr.Stamps.check {T : Tr} {rows : Nat → List Int} (h : T.Stamps rows) (hV : T.Valid) (hs : tot T.en T.n ≤ 1000000) {M : Mx} (hF : T.FitsM M) (he : ∀ p i, p < T.n → i < T.en p → M.val p i = stOf rows (p, i)) : T.CheckP M := by
  refine Tr.check_iff.1 ⟨hV, hF, fun p i hp hi => Tr.rck_iff.2 ?_⟩
  have h1 := h.pos (x := (p, i)) ⟨hp, hi⟩
  rw [he p i hp hi]
  refine ⟨by omega, by omega, fun y hy => ?_⟩
  have hv : T.V y := Tr.Dir.V (y := (p, i)) ⟨hp, hi⟩ hy
  rw [he y.1 y.2 hv.1 hv.2]
  exact h.dir_lt (x := (p, i)) ⟨hp, hi⟩ hy
/-- no number is above the stamp -/
def Tr.RsI (T : Tr) (rows : Nat → List Int) (f : Nat → Nat → Int) : Prop := ∀ p i, p < T.n → i < T.en p → 0 ≤ f p i ∧ f p i ≤ stOf rows (p, i)
theorem Tr.RsI.start {T : Tr} {rows : Nat → List Int} (h : T.Stamps rows) : T.RsI rows (fun _ _ => 0) := fun p i hp hi => ⟨Int.le_refl _, by have := h.pos (x := (p, i)) ⟨hp, hi⟩; show (0 : Int) ≤ stOf rows (p, i); omega⟩
theorem Tr.RsI.lat {T : Tr} {rows : Nat → List Int} {f : Nat → Nat → Int} (h : T.RsI rows f) (hR : T.Stamps rows) {p i : Nat} (hp : p < T.n) (hi : i < T.en p) {M : Mx} (hM : M.val = f) : 0 ≤ T.latest M (p, i) ∧ 1 + T.latest M (p, i) ≤ stOf rows (p, i) := by
  have h1 := hR.pos (x := (p, i)) ⟨hp, hi⟩
  have h2 : M.top (T.bk (p, i)) < stOf rows (p, i) := by
    refine Mx.top_lt.2 ⟨by omega, fun y hy => ?_⟩
    have hd := Tr.mem_bk.1 hy
    have hv : T.V y := Tr.Dir.V (y := (p, i)) ⟨hp, hi⟩ hd
    have h3 := hR.dir_lt (x := (p, i)) ⟨hp, hi⟩ hd
    have h4 := (h y.1 y.2 hv.1 hv.2).2
    rw [hM]
    have h5 : stOf rows (y.1, y.2) = stOf rows y := rfl
    omega
  have h3 := (Mx.top_ge M (T.bk (p, i))).1
  unfold Tr.latest
  omega
def updF (f : Nat → Nat → Int) (p i : Nat) (v : Int) : Nat → Nat → Int := fun k j => if k = p ∧ j = i then v else f k j
theorem Tr.RsI.upd {T : Tr} {rows : Nat → List Int} {f : Nat → Nat → Int} (h : T.RsI rows f) {p i : Nat} {v : Int} (h0 : 0 ≤ v) (h1 : v ≤ stOf rows (p, i)) : T.RsI rows (updF f p i v) := by
  intro k j hk hj
  unfold updF
  by_cases e : k = p ∧ j = i
  · rw [if_pos e, e.1, e.2]; exact ⟨h0, h1⟩
  · rw [if_neg e]; exact h k j hk hj
/-- what is still to be raised -/
def Tr.rsL (T : Tr) (rows : Nat → List Int) (f : Nat → Nat → Int) : Nat := tot (fun p => tot (fun i => (stOf rows (p, i) - f p i).toNat) (T.en p)) T.n
theorem tot_lt {f g : Nat → Nat} {p : Nat} : ∀ {n : Nat}, p < n → (∀ k, k ≠ p → f k = g k) → f p < g p → tot f n < tot g n
  | 0, h, _, _ => by omega
  | n + 1, h, ho, hp => by
    rw [tot_succ, tot_succ]
    by_cases e : p = n
    · subst e
      rw [tot_congr (f := f) (g := g) fun k hk => ho k (by omega)]; omega
    · have := tot_lt (f := f) (g := g) (n := n) (by omega) ho hp
      rw [ho n (fun h => e h.symm)]; omega
theorem Tr.rsL_lt {T : Tr} {rows : Nat → List Int} {f : Nat → Nat → Int} {p i : Nat} {v : Int} (hp : p < T.n) (hi : i < T.en p) (h1 : f p i < v) (h2 : v ≤ stOf rows (p, i)) : T.rsL rows (updF f p i v) < T.rsL rows f := by
  unfold Tr.rsL
  refine tot_lt (p := p) hp (fun k hk => ?_) ?_
  · refine tot_congr fun j _ => ?_
    unfold updF; rw [if_neg (fun h => hk h.1)]
  · refine tot_lt (p := i) hi (fun j hj => ?_) ?_
    · unfold updF; rw [if_neg (fun h => hj h.2)]
    · unfold updF; rw [if_pos ⟨rfl, rfl⟩]; omega
/-- nothing is to be raised there -/
def Tr.RsOk (T : Tr) (f : Nat → Nat → Int) (p i : Nat) : Prop := 1 + T.latest (mxOf T f) (p, i) ≤ f p i
theorem Tr.RsI.fix {T : Tr} {rows : Nat → List Int} {f : Nat → Nat → Int} (h : T.RsI rows f) (hR : T.Stamps rows) (hV : T.Valid) (ho : ∀ p i, p < T.n → i < T.en p → T.RsOk f p i) : ∀ p i, p < T.n → i < T.en p → f p i = stOf rows (p, i) := by
  have key := hV.ind (P := fun y => f y.1 y.2 = stOf rows y) (fun y hy ih => by
    obtain ⟨p, i⟩ := y
    have h1 := (h p i hy.1 hy.2).2
    have h2 := ho p i hy.1 hy.2
    unfold Tr.RsOk Tr.latest at h2
    have h3 := Mx.top_ge (mxOf T f) (T.bk (p, i))
    have e := hR.eq p i hy.1 hy.2
    have e' : stOf rows (p, i) = max (if i = 0 then 0 else (rows p).getD (i - 1) 0) (if T.kind p i = 3 then stOf rows (T.sndN (p, i)) else 0) + 1 := e
    have hprev : (if i = 0 then 0 else (rows p).getD (i - 1) 0) ≤ (mxOf T f).top (T.bk (p, i)) := by
      by_cases h0 : i = 0
      · rw [if_pos h0]; exact h3.1
      · rw [if_neg h0]
        have hd : T.Dir (p, i - 1) (p, i) := .inl ⟨rfl, by show i = i - 1 + 1; omega⟩
        have h4 := h3.2 _ (Tr.mem_bk.2 hd)
        have h5 := ih _ (Tr.Dir.V hy hd) hd
        have h6 : f p (i - 1) = stOf rows (p, i - 1) := h5
        have h7 : f p (i - 1) ≤ (mxOf T f).top (T.bk (p, i)) := h4
        rw [h6] at h7; exact h7
    have hsnd : (if T.kind p i = 3 then stOf rows (T.sndN (p, i)) else 0) ≤ (mxOf T f).top (T.bk (p, i)) := by
      by_cases h0 : T.kind p i = 3
      · rw [if_pos h0]
        have hd : T.Dir (T.sndN (p, i)) (p, i) := .inr ⟨h0, rfl⟩
        have h4 := h3.2 _ (Tr.mem_bk.2 hd)
        have h5 := ih _ (Tr.Dir.V hy hd) hd
        rw [← h5]; exact h4
      · rw [if_neg h0]; exact h3.1
    show f p i = stOf rows (p, i)
    omega)
  exact fun p i hp hi => key (p, i) ⟨hp, hi⟩

end Go.Proofs.YteikcgfnkhoigaaGreat

namespace Go.Proofs.YteikcgfnkhoigaaGreat
open Go.RowKit Go.Shelf

/-- a row of numbers -/
structure IRow (w : World) (g n : Nat) (f : Nat → Int) : Prop where
  c : ∀ i, i < n → w.cell? ⟨g, i, none⟩ = some (.int .i64 (f i))
  fr : ∀ o, w.frozen? ⟨g, o, none⟩ = false
  lt : g < w.heap.size
theorem IRow.block {w w' : World} {g n : Nat} {f : Nat → Int} (h : IRow w g n f) (hs : w.heap.size ≤ w'.heap.size) (x : w'.heap[g]? = w.heap[g]?) : IRow w' g n f :=
  ⟨fun k hk => (World.cell?_of_block (w := w) (a := ⟨g, k, none⟩) x).trans (h.c k hk), fun o => (World.frozen?_of_block (w := w) (a := ⟨g, o, none⟩) x).trans (h.fr o), Nat.lt_of_lt_of_le h.lt hs⟩
theorem IRow.made {w : World} {base g n : Nat} (h : w.ownsRow base 3 1 (.slice (some ⟨g, 0, none⟩) n n) n (madeCells (Value.int .i64 0).cells (n * 1)).toList) : IRow w g n (fun _ => 0) := by
  obtain ⟨h1, ⟨hv, _⟩ | ⟨g', cap, cur, hv, hg, hh, hc, hm, hs, ht⟩⟩ := h
  · cases hv
  · simp only [Value.slice.injEq, Option.some.injEq, Addr.mk.injEq] at hv
    obtain ⟨⟨rfl, _⟩, _, rfl⟩ := hv
    have hb := Box.of hh
    have hz : (Value.int .i64 0).cells = #[.int .i64 0] := rfl
    rw [hz, toList_madeCells_one] at ht
    refine ⟨fun k hk => ?_, fun o => hb.frozen w (Ext.refl _) o, hb.lt w (Ext.refl _)⟩
    rw [hb.cell w (Ext.refl _)]
    have : cur[k]? = (List.replicate (n * 1) (Value.int .i64 0))[k]? := by rw [← ht, List.getElem?_take_of_lt (by omega)]; simp
    rw [this, List.getElem?_replicate, if_pos (by omega)]
theorem IRow.congr {w : World} {g n : Nat} {f f' : Nat → Int} (h : IRow w g n f) (e : ∀ i, f i = f' i) : IRow w g n f' := ⟨fun i hi => by rw [← e]; exact h.c i hi, h.fr, h.lt⟩
/-- n rows of numbers, each in a block of its own; all blocks lie from wb on and below B -/
structure IoM (wb B n : Nat) (len : Nat → Nat) (v : Value) (rb : Nat → Nat) (f : Nat → Nat → Int) (w : World) : Prop where
  own : w.ownsRow wb 28 1 v n ((List.range n).map fun k => Value.slice (some ⟨rb k, 0, none⟩) (len k) (len k))
  vhi : ∀ g, v.ownBlock = some g → g < B
  row : ∀ k, k < n → IRow w (rb k) (len k) (f k)
  lo : ∀ k, k < n → wb ≤ rb k
  hi : ∀ k, k < n → rb k < B
  inj : ∀ j k, j < n → k < n → j ≠ k → rb j ≠ rb k
  far : ∀ k, k < n → v.ownBlock ≠ some (rb k)
theorem IoM.nil (wb B : Nat) (len : Nat → Nat) (rb : Nat → Nat) (f : Nat → Nat → Int) (w : World) : IoM wb B 0 len (.slice none 0 0) rb f w :=
  ⟨World.ownsRow_nil _ _ _ _, (fun g e => by cases e), fun k hk => absurd hk (Nat.not_lt_zero _), fun k hk => absurd hk (Nat.not_lt_zero _), fun k hk => absurd hk (Nat.not_lt_zero _), fun k _ hk => absurd hk (Nat.not_lt_zero _), fun k hk => absurd hk (Nat.not_lt_zero _)⟩
theorem IoM.same {wb B n : Nat} {len : Nat → Nat} {v : Value} {rb : Nat → Nat} {f : Nat → Nat → Int} {w w' : World} (h : IoM wb B n len v rb f w) (hs : w.heap.size ≤ w'.heap.size) (hb : ∀ g, wb ≤ g → g < B → w'.heap[g]? = w.heap[g]?) : IoM wb B n len v rb f w' :=
  ⟨ownsRow_same h.own fun g e => hb g (by
      obtain ⟨_, ⟨hv, _⟩ | ⟨g', cap, cur, hv, hg, _⟩⟩ := h.own
      · subst hv; cases e
      · subst hv; simp [Value.ownBlock] at e; omega) (h.vhi g e), h.vhi, fun k hk => (h.row k hk).block hs (hb _ (h.lo k hk) (h.hi k hk)), h.lo, h.hi, h.inj, h.far⟩
theorem IoM.ext {wb B n : Nat} {len : Nat → Nat} {v : Value} {rb : Nat → Nat} {f : Nat → Nat → Int} {w w' : World} (h : IoM wb B n len v rb f w) (hB : B ≤ w.heap.size) (x : Ext w w') : IoM wb B n len v rb f w' :=
  h.same x.le fun g _ hg => x.block g (by omega)
theorem IoM.raise {wb B B' n : Nat} {len : Nat → Nat} {v : Value} {rb : Nat → Nat} {f : Nat → Nat → Int} {w : World} (h : IoM wb B n len v rb f w) (hB : B ≤ B') : IoM wb B' n len v rb f w :=
  ⟨h.own, fun g e => Nat.lt_of_lt_of_le (h.vhi g e) hB, h.row, h.lo, fun k hk => Nat.lt_of_lt_of_le (h.hi k hk) hB, h.inj, h.far⟩
/-- 'out = append(out, make([]int, len))' -/
theorem IoM.push {wb n L : Nat} {len : Nat → Nat} {v v' : Value} {rb : Nat → Nat} {f : Nat → Nat → Int} {wr w3 w5 : World} {c : Array Value} {t : TypeId} (h : IoM wb wr.heap.size n len v rb f wr) (hw : wb ≤ wr.heap.size) (x3 : Ext wr w3)
    (hn : IRow w3 wr.heap.size L (fun _ => 0)) (hL : L = len n) (hf : ∀ i, f n i = 0)
    (hown : w5.ownsRow wb 28 1 v' (n + 1) (((List.range n).map fun k => Value.slice (some ⟨rb k, 0, none⟩) (len k) (len k)) ++ [.slice (some ⟨wr.heap.size, 0, none⟩) L L]))
    (hg : (w3.alloc (.cells c t)).grownBy w5 v.ownBlock) (hat : v'.ownBlock = v.ownBlock ∨ v'.ownBlock = some (w3.heap.size + 1)) :
    IoM wb w5.heap.size (n + 1) len v' (updC rb n wr.heap.size) f w5 ∧ Below wb wr w5 := by
  subst hL
  have hlt3 := hn.lt
  have hsz : w3.heap.size + 1 ≤ w5.heap.size := by have := hg.size; rw [World.size_alloc] at this; exact this
  have hbl : ∀ g, g < w3.heap.size → v.ownBlock ≠ some g → w5.heap[g]? = w3.heap[g]? := fun g h1 h2 => by
    rw [hg.block g (by rw [World.size_alloc]; omega) (fun e => h2 e.symm), Below.heap_alloc _ _ _ h1]
  have hold : ∀ k, k < n → updC rb n wr.heap.size k = rb k := fun k hk => by unfold updC; rw [if_neg (by omega)]
  have hnew : updC rb n wr.heap.size n = wr.heap.size := by unfold updC; rw [if_pos rfl]
  have hcase : ∀ k, k < n + 1 → k < n ∨ k = n := fun k hk => by omega
  have hv' : ∀ g, v'.ownBlock = some g → g < w5.heap.size := by
    intro g e
    obtain ⟨_, ⟨hv, _⟩ | ⟨g', cap, cur, hv, hg', hh, _⟩⟩ := hown
    · subst hv; cases e
    · subst hv; simp [Value.ownBlock] at e; subst e; exact (Array.getElem?_eq_some_iff.1 hh).1
  have hvw : v.ownBlock ≠ some wr.heap.size := fun e => by have := h.vhi _ e; omega
  refine ⟨⟨?_, hv', fun k hk => ?_, fun k hk => ?_, fun k hk => ?_, fun j k hj hk hne => ?_, fun k hk => ?_⟩, ?_⟩
  · rw [List.range_succ, List.map_append]
    simp only [List.map_cons, List.map_nil, hnew]
    rw [List.map_congr_left (g := fun k => Value.slice (some ⟨rb k, 0, none⟩) (len k) (len k)) fun k hk => by rw [hold k (List.mem_range.1 hk)]]
    exact hown
  · rcases hcase k hk with hk | rfl
    · rw [hold k hk]
      have h1 := h.hi k hk
      refine (h.row k hk).block (by have := x3.le; omega) ?_
      rw [hbl _ (by have := x3.le; omega) (h.far k hk), x3.block _ h1]
    · rw [hnew]
      exact (hn.block (by omega) (hbl _ hlt3 hvw)).congr fun i => (hf i).symm
  · rcases hcase k hk with hk | rfl
    · rw [hold k hk]; exact h.lo k hk
    · rw [hnew]; exact hw
  · rcases hcase k hk with hk | rfl
    · rw [hold k hk]; have := h.hi k hk; have := x3.le; omega
    · rw [hnew]; omega
  · rcases hcase j hj with hj | rfl <;> rcases hcase k hk with hk | rfl
    · rw [hold j hj, hold k hk]; exact h.inj j k hj hk hne
    · rw [hold j hj, hnew]; have := h.hi j hj; omega
    · rw [hold k hk, hnew]; have := h.hi k hk; omega
    · exact absurd rfl hne
  · intro e
    rcases hat with e' | e'
    · rcases hcase k hk with hk | rfl
      · rw [hold k hk] at e; exact h.far k hk (e' ▸ e)
      · rw [hnew] at e; exact hvw (e' ▸ e)
    · rw [e', Option.some.injEq] at e
      rcases hcase k hk with hk | rfl
      · rw [hold k hk] at e; have := h.hi k hk; have := x3.le; omega
      · rw [hnew] at e; omega
  · have b1 : Below wb w3 w5 := ((Below.refl wb w3).alloc (by have := x3.le; omega) _).grown hg (by rw [World.size_alloc]; have := x3.le; omega) (fun k e => by
      obtain ⟨_, ⟨hv, _⟩ | ⟨g', cap, cur, hv, hg', _⟩⟩ := h.own
      · subst hv; cases e
      · subst hv; simp [Value.ownBlock] at e; omega)
    exact (Below.mono x3 hw).trans b1
/-- the rows as they are read -/
theorem IoM.form {wb B n : Nat} {len : Nat → Nat} {v : Value} {rb : Nat → Nat} {f : Nat → Nat → Int} {w : World} (h : IoM wb B n len v rb f w) (h0 : 0 < n) :
    ∃ g cap, v = .slice (some ⟨g, 0, none⟩) n cap ∧ wb ≤ g ∧ g < B ∧ n ≤ cap := by
  obtain ⟨h1, ⟨hv, hn⟩ | ⟨g, cap, cur, hv, hg, hh, hc, hm, hs, ht⟩⟩ := h.own
  · omega
  · exact ⟨g, cap, hv, hg, h.vhi g (by rw [hv]; rfl), hc⟩
theorem IoM.cell {wb B n g cap : Nat} {len : Nat → Nat} {rb : Nat → Nat} {f : Nat → Nat → Int} {w : World} (h : IoM wb B n len (.slice (some ⟨g, 0, none⟩) n cap) rb f w) :
    g < w.heap.size ∧ ∀ k, k < n → w.cell? ⟨g, k, none⟩ = some (.slice (some ⟨rb k, 0, none⟩) (len k) (len k)) := by
  obtain ⟨h1, ⟨hv, hn⟩ | ⟨g', cap', cur, hv, hg, hh, hc, hm, hs, ht⟩⟩ := h.own
  · cases hv
  · simp only [Value.slice.injEq, Option.some.injEq, Addr.mk.injEq] at hv
    obtain ⟨⟨rfl, _⟩, _, rfl⟩ := hv
    have hb := Box.of hh
    refine ⟨hb.lt w (Ext.refl _), fun k hk => ?_⟩
    rw [hb.cell w (Ext.refl _)]
    have : cur[k]? = ((List.range n).map fun k => Value.slice (some ⟨rb k, 0, none⟩) (len k) (len k))[k]? := by rw [← ht, List.getElem?_take_of_lt (by omega)]; simp
    rw [this, List.getElem?_map, List.getElem?_range hk]; rfl
/-- one number is set -/
theorem IoM.set {wb B n p i : Nat} {len : Nat → Nat} {v : Value} {rb : Nat → Nat} {f f' : Nat → Nat → Int} {x : Int} {w : World} (h : IoM wb B n len v rb f w) (hp : p < n) (hi : i < len p) (hf : ∀ k j, f' k j = if k = p ∧ j = i then x else f k j) :
    IoM wb B n len v rb f' (w.setCell ⟨rb p, i, none⟩ (.int .i64 x)) := by
  have hoth : ∀ g, g ≠ rb p → (w.setCell ⟨rb p, i, none⟩ (.int .i64 x)).heap[g]? = w.heap[g]? := fun g hg => Below.heap_setCell _ _ _ _ hg
  refine ⟨ownsRow_same h.own fun g e => hoth g fun e' => h.far p hp (e' ▸ e), h.vhi, fun k hk => ?_, h.lo, h.hi, h.inj, h.far⟩
  by_cases e : k = p
  · subst e
    refine ⟨fun j hj => ?_, fun o => by rw [frozen_set]; exact (h.row k hk).fr o, by rw [World.size_setCell]; exact (h.row k hk).lt⟩
    rw [cell_set w (rb k) i j _ ((h.row k hk).c i hi), hf]
    by_cases ej : j = i
    · rw [if_pos ej, if_pos ⟨rfl, ej⟩]
    · rw [if_neg ej, if_neg (fun h => ej h.2)]; exact (h.row k hk).c j hj
  · refine ((h.row k hk).block (by rw [World.size_setCell]; exact Nat.le_refl _) (hoth _ (h.inj k p hk hp e))).congr fun j => ?_
    rw [hf, if_neg (fun h => e h.1)]
/-- read as a list of lists -/
def ioMM (g n cap : Nat) (len : Nat → Nat) (rb : Nat → Nat) (f : Nat → Nat → Int) : MM :=
  { n := n, rn := len, val := f, a := some ⟨g, 0, none⟩, b := g, off := 0, cap := cap, ra := fun k => some ⟨rb k, 0, none⟩, rb := rb, ro := fun _ => 0, rc := len }
theorem IoM.mm {wb B n g cap : Nat} {len : Nat → Nat} {rb : Nat → Nat} {f : Nat → Nat → Int} {w : World} (h : IoM wb B n len (.slice (some ⟨g, 0, none⟩) n cap) rb f w) (hn : n ≤ 1000) (hl : ∀ k, k < n → len k ≤ 1000) : (ioMM g n cap len rb f).At w := by
  have hc := h.cell
  refine ⟨by show n ≤ _; omega, fun _ => rfl, fun _ w' x => Nat.lt_of_lt_of_le hc.1 x.le, fun w' x k hk => ?_, fun k hk => by have := hl k hk; show len k ≤ _; omega, fun k _ _ => rfl, fun k hk _ w' x => Nat.lt_of_lt_of_le (h.row k hk).lt x.le, fun w' x k i hk hi => ?_⟩
  · show w'.cell? ⟨g, 0 + k, none⟩ = _
    rw [Nat.zero_add]; exact x.cell (hc.2 k hk)
  · show w'.cell? ⟨rb k, 0 + i, none⟩ = _
    rw [Nat.zero_add]; exact x.cell ((h.row k hk).c i hi)

end Go.Proofs.YteikcgfnkhoigaaGreat

namespace Go.Proofs.YteikcgfnkhoigaaGreat
open Go.RowKit Go.Shelf

/-- the numbers in memory -/
structure RstW (T : TM) (w : World) (B g c : Nat) (rb : Nat → Nat) (f : Nat → Nat → Int) (wr : World) : Prop where
  h0 : Hold wr w.heap.size #[.slice (some ⟨T.b, T.off, none⟩) T.n T.cap]
  im : IoM (w.heap.size + 1) B T.n T.en (.slice (some ⟨g, 0, none⟩) T.n c) rb f wr
  bl : Ext w wr
  hi : B ≤ wr.heap.size
theorem RstW.ext {T : TM} {w : World} {B g c : Nat} {rb : Nat → Nat} {f : Nat → Nat → Int} {wr w' : World} (h : RstW T w B g c rb f wr) (x : Ext wr w') : RstW T w B g c rb f w' :=
  ⟨h.h0.ext x, h.im.ext h.hi x, h.bl.trans x, Nat.le_trans h.hi x.le⟩
theorem RstW.set {T : TM} {w : World} {B g c : Nat} {rb : Nat → Nat} {f : Nat → Nat → Int} {wr : World} (h : RstW T w B g c rb f wr) {p i : Nat} (hp : p < T.n) (hi : i < T.en p) (v : Int) :
    RstW T w B g c rb (updF f p i v) (wr.setCell ⟨rb p, i, none⟩ (.int .i64 v)) := by
  have h1 := h.im.lo p hp
  exact ⟨h.h0.other _ _ (by show _ ≠ rb p; omega), h.im.set hp hi (fun k j => rfl), h.bl.setCell (by show _ ≤ rb p; omega) _, by rw [World.size_setCell]; exact h.hi⟩
def RStampsPost (T : TM) (rows : Nat → List Int) (w : World) (e : Ending) (w' : World) : Prop := Ext w w' ∧ ∃ g c rb f, e = .returned (.slice (some ⟨g, 0, none⟩) T.n c) ∧ (ioMM g T.n c T.en rb f).At w' ∧ (∀ p i, p < T.n → i < T.en p → f p i = stOf rows (p, i)) ∧ w.heap.size ≤ g ∧ ∀ k, k < T.n → w.heap.size ≤ rb k
set_option maxRecDepth 100000 in
set_option maxHeartbeats 4000000 in
theorem rstamps_any (w : World) (T : TM) (hT : T.At w) (hV : T.toTr.Valid) (rows : Nat → List Int) (hR : T.toTr.Stamps rows) :
    Calls Tryz.prog 95 #[T.val] w (RStampsPost T rows w) := by
  obtain ⟨j0, hj0, hy0, hy1, hy2⟩ := info_parts infoInt
  obtain ⟨m0, hm0, hm1, hm2, hm3⟩ := info_parts infoInts
  have hn1 := hV.n1
  have hn8 := hV.n8
  have hE8 : ∀ k, k < T.n → T.en k ≤ 64 := fun k hk => (hV.pr k hk).2.2.2.2
  have pa := hT.P.pa (by omega)
  have pb := hT.P.pb (by omega)
  have p2 := hT.P.p2
  have hLa := fun W (hx : Ext w W) M (hM : MM.At M W) hF p i hp hi => rlatest_any W T (hT.ext hx) (Tr.valid_iff.1 hV).1 M hM hF p i hp hi
  simp only [TM.val, pa] at hLa
  have HLa := Lib.hid hLa
  have HV := Lib.hid hV
  have HR := Lib.hid hR
  have HTS := Lib.hid (show tot T.en T.n ≤ 512 by have h := tot_small hE8; omega)
  clear hT hV hR hLa
  go_enter Tryz.func95, Tryz.ntmps95
  go_upto_region 1 with fail
  refine boxed1 (w := w) (G := fun x => Code.wp _ _ _ _ x) ?_
  intro w1 hx1 hs1 ⟨l0, c0, _, k0⟩
  have hx11 : Ext w1 w1 := Ext.refl _
  have K0 := Lib.hid k0
  have HS1 := Lib.hid hs1
  clear k0
  go_wp2_with fail
  clear hs1
  go_loopg [3, 4] T.n (fun gg v3 v4 wr => ∃ (k : Nat) (rb : Nat → Nat), k ≤ T.n ∧ gg = T.n - k ∧ v4 = .int .i64 k ∧ Ext w1 wr ∧ IoM (w.heap.size + 1) wr.heap.size k T.en v3 rb (fun _ _ => 0) wr)
  case atStart => exact ⟨0, fun _ => 0, by omega, rfl, rfl, hx11, IoM.nil _ _ _ _ _ _⟩
  case round =>
    obtain ⟨k, rb, hk, rfl, rfl, hxr, hI⟩ := hrel
    have HI := Lib.hid hI
    clear hI
    have hxw := hx1.trans hxr
    have hrr : Ext wr wr := Ext.refl _
    by_cases hlt : k < T.n
    · have hlt' : (k : Int) < (T.n : Int) := by omega
      have hen := hE8 k hlt
      have HW := Lib.hid (show w.heap.size + 1 ≤ wr.heap.size by have := hxr.le; rw [HS1.out] at this; exact this)
      go_wp2_with (first | (at_make; refine wpList_make_full _ rfl _ _ 28 rfl wr.heap.size 3 j0 (.int .i64 0) 1 Tryz.underlying28 hj0 hy0 hy1 .i64 .i64 _ _ (T.en k) rfl rfl rfl rfl (by rw [hy2]; omega) (by unfold maxLen; omega) (Nat.le_refl _) ?_; intro w3 hown3 hg3; have hx3 : Ext wr w3 := (Below.refl _ _).grown hg3 (Nat.le_refl _) (by simp); have HR3 := Lib.hid (IRow.made hown3); clear hown3 hg3) | (at_builtin; refine wpList_append_own_at _ rfl _ _ 33 rfl (w.heap.size + 1) 28 m0 (.slice none 0 0) 1 24 Tryz.underlying33 hm0 hm1 hm2 hm3 rfl (by decide) u3 k _ rfl (by exact ownsRow_same HI.out.own fun g e => (hx3.alloc' _).block g (HI.out.vhi g e)) ⟨w3.heap.size, 0, none⟩ 1 1 [.slice (some ⟨wr.heap.size, 0, none⟩) (T.en k) (T.en k)] rfl rfl (by exact news_ok w3 [_] _) (by intro u hu; simp at hu; subst hu; rfl) (by unfold maxLen; omega) (by omega) (by have := HW.out; have := hx3.le; simp; omega) ?_; rintro v5 w5 hown5 hg5 - hat5; have H5 := Lib.hid (IoM.push HI.out HW.out hx3 HR3.out rfl (fun i => rfl) hown5 hg5 (by simpa using hat5)); clear hown5 hg5 hat5))
      go_roundg (T.n - (k + 1))
      case rel => exact ⟨k + 1, _, by omega, rfl, by go_num, Below.trans hxr (by have := H5.out.2; rw [← HS1.out] at this; exact this), H5.out.1⟩
      case measure => omega
    · have hke : k = T.n := by omega
      subst hke
      obtain ⟨g, c, hv5, hga, hgb, hgc⟩ := HI.out.form (by omega)
      subst hv5
      obtain ⟨B, hI6⟩ : ∃ B, RstW T w B g c rb (fun _ _ => 0) wr := ⟨wr.heap.size, Hold.ext K0.out hxr, HI.out, hxw, Nat.le_refl _⟩
      have HI6 := Lib.hid hI6
      clear hI6 hga hgb hgc
      go_wp2_with fail
      clear l0 c0 hxr hrr
      go_loopg [5] (T.toTr.rsL rows (fun _ _ => 0) + 1) (fun gg v5 wr => ∃ (f : Nat → Nat → Int) (mv : Bool), v5 = .bool mv ∧ RstW T w B g c rb f wr ∧ T.toTr.RsI rows f ∧ (mv = true → T.toTr.rsL rows f < gg) ∧ (mv = false → ∀ p i, p < T.n → i < T.en p → T.toTr.RsOk f p i))
      case atStart => exact ⟨_, true, rfl, HI6.out, Tr.RsI.start HR.out, fun _ => Nat.lt_succ_self _, fun h => by cases h⟩
      case round =>
        obtain ⟨f, mv, rfl, hI, hJ, hm1, hm2⟩ := hrel
        have hxr := hI.bl
        have HI := Lib.hid hI
        have HJ := Lib.hid hJ
        cases mv with
        | false =>
          have HE := Lib.hid (hJ.fix HR.out HV.out (hm2 rfl))
          clear hI hJ hm1 hm2
          go_wp2_with fail
          go_ret
          exact ⟨hxr, g, c, rb, f, rfl, HI.out.im.mm (by omega) (fun k hk => by have := hE8 k hk; omega), HE.out, Nat.le_trans (Nat.le_succ _) (HI.out.im.own.lt g rfl).1, fun k hk => Nat.le_trans (Nat.le_succ _) (HI.out.im.lo k hk)⟩
        | true =>
          have HG := Lib.hid (hm1 rfl)
          clear hI hJ hm1 hm2
          go_wp2_with fail
          go_loopg [5, 6] T.n (fun gg v5 v6 wi => ∃ (f2 : Nat → Nat → Int) (mv : Bool) (p : Nat), v5 = .bool mv ∧ v6 = .int .i64 p ∧ p ≤ T.n ∧ gg = T.n - p ∧ RstW T w B g c rb f2 wi ∧ T.toTr.RsI rows f2 ∧ T.toTr.rsL rows f2 ≤ T.toTr.rsL rows f ∧ (mv = true → T.toTr.rsL rows f2 < T.toTr.rsL rows f) ∧ (mv = false → ∀ q i, q < p → i < T.en q → T.toTr.RsOk f2 q i))
          case atStart => exact ⟨f, false, 0, rfl, rfl, by omega, rfl, HI.out, HJ.out, Nat.le_refl _, (fun h => by cases h), fun _ q i hq => by omega⟩
          case round =>
            obtain ⟨f2, mv, p, rfl, rfl, hp, rfl, hI, hJ, hm0, hm1, hm2⟩ := hrel
            have hxr := hI.bl
            have HI2 := Lib.hid hI
            have HJ2 := Lib.hid hJ
            have HM2 := Lib.hid (And.intro hm0 (And.intro hm1 hm2))
            obtain ⟨l0, c0, _, _⟩ := hI.h0.box
            have hrr : Ext wr wr := Ext.refl _
            clear hI hJ hm0 hm1 hm2
            by_cases hpn : p < T.n
            · have hpn' : (p : Int) < (T.n : Int) := by omega
              have hen := hE8 p hpn
              go_wp2_with fail
              go_loopg [5, 7] (T.en p) (fun gg v5 v7 wi => ∃ (f3 : Nat → Nat → Int) (mv : Bool) (i : Nat), v5 = .bool mv ∧ v7 = .int .i64 i ∧ i ≤ T.en p ∧ gg = T.en p - i ∧ RstW T w B g c rb f3 wi ∧ T.toTr.RsI rows f3 ∧ T.toTr.rsL rows f3 ≤ T.toTr.rsL rows f ∧ (mv = true → T.toTr.rsL rows f3 < T.toTr.rsL rows f) ∧ (mv = false → (∀ q i, q < p → i < T.en q → T.toTr.RsOk f3 q i) ∧ ∀ j, j < i → T.toTr.RsOk f3 p j))
              case atStart => exact ⟨f2, mv, 0, rfl, rfl, by omega, rfl, HI2.out, HJ2.out, HM2.out.1, HM2.out.2.1, fun h => ⟨HM2.out.2.2 h, fun j hj => by omega⟩⟩
              case round =>
                obtain ⟨f3, mv, i, rfl, rfl, hi, rfl, hI, hJ, hm0, hm1, hm2⟩ := hrel
                have hxr := hI.bl
                have HI3 := Lib.hid hI
                have HJ3 := Lib.hid hJ
                have HM3 := Lib.hid (And.intro hm0 (And.intro hm1 hm2))
                obtain ⟨l0, c0, _, _⟩ := hI.h0.box
                have hrr : Ext wr wr := Ext.refl _
                by_cases hli : i < T.en p
                · have hli' : (i : Int) < (T.en p : Int) := by omega
                  have hmm := hI.im.mm (by omega) (fun k hk => by have := hE8 k hk; omega)
                  have hC := HLa.out wr hxr _ hmm ⟨rfl, fun k hk => rfl⟩ p i hpn hli
                  have hlv := HJ3.out.lat HR.out hpn hli (M := (ioMM g T.n c T.en rb f3).toMx) rfl
                  have hpos := HR.out.pos (x := (p, i)) ⟨hpn, hli⟩
                  have hts := HTS.out
                  obtain ⟨lt, hlt⟩ : ∃ lt, lt = T.toTr.latest (ioMM g T.n c T.en rb f3).toMx (p, i) := ⟨_, rfl⟩
                  rw [← hlt] at hC hlv
                  have HLT := Lib.hid hlt
                  have hl0 : 0 ≤ lt := hlv.1
                  have hl1 : lt ≤ 512 := by omega
                  have HLV := Lib.hid hlv.2
                  simp only [ioMM] at hC
                  clear hI hJ hm0 hm1 hm2 hmm hlt hlv hpos hts
                  go_wp2_with fail
                  go_at_call 149
                  refine hC.mono ?_
                  rintro e w5 ⟨rfl, hx5⟩
                  have hx55 : Ext w5 w5 := Ext.refl _
                  have hI5 := HI3.out.ext hx5
                  obtain ⟨l0, c0, _, _⟩ := hI5.h0.box
                  have i0 : ∀ w', Ext w5 w' → w'.cell? ⟨g, p, none⟩ = some (.slice (some ⟨rb p, 0, none⟩) (T.en p) (T.en p)) := fun w' h => h.cell (hI5.im.cell.2 p hpn)
                  have i1 : ∀ w', Ext w5 w' → g < w'.heap.size := fun w' h => Nat.lt_of_lt_of_le hI5.im.cell.1 h.le
                  have i2 : ∀ w', Ext w5 w' → rb p < w'.heap.size := fun w' h => Nat.lt_of_lt_of_le (hI5.im.row p hpn).lt h.le
                  have i3 : ∀ w', Ext w5 w' → w'.cell? ⟨rb p, i, none⟩ = some (.int .i64 (f3 p i)) := fun w' h => h.cell ((hI5.im.row p hpn).c i hli)
                  have i4 : ∀ w', Ext w5 w' → w'.frozen? ⟨rb p, i, none⟩ = false := fun w' h => (h.frozen (p := ⟨rb p, i, none⟩) (hI5.im.row p hpn).lt).trans ((hI5.im.row p hpn).fr _)
                  have HI5 := Lib.hid hI5
                  clear hI5 hC hrr
                  by_cases hgt : f3 p i < 1 + lt
                  · have b1 : decide (f3 p i < 1 + lt) = true := decide_eq_true hgt
                    have HGT := Lib.hid hgt
                    have HL2 := Lib.hid (T.toTr.rsL_lt hpn hli hgt HLV.out)
                    clear hgt
                    go_wp2_with fail
                    go_roundg (T.en p - (i + 1))
                    case rel => exact ⟨updF f3 p i (1 + lt), true, i + 1, rfl, by go_num, by omega, rfl, HI5.out.set hpn hli _, HJ3.out.upd (by omega) HLV.out, Nat.le_trans (Nat.le_of_lt HL2.out) HM3.out.1, (fun _ => Nat.lt_of_lt_of_le HL2.out HM3.out.1), fun h => by cases h⟩
                    case measure => omega
                  · have b1 : decide (f3 p i < 1 + lt) = false := decide_eq_false hgt
                    have HOK := Lib.hid (show T.toTr.RsOk f3 p i by
                      unfold Tr.RsOk
                      have e : T.toTr.latest (mxOf T.toTr f3) (p, i) = lt := HLT.out.symm
                      rw [e]; omega)
                    clear hgt
                    go_wp2_with fail
                    go_roundg (T.en p - (i + 1))
                    case rel => exact ⟨f3, mv, i + 1, rfl, by go_num, by omega, rfl, HI5.out, HJ3.out, HM3.out.1, HM3.out.2.1, fun h => ⟨(HM3.out.2.2 h).1, fun j hj => by
                      by_cases e : j = i
                      · subst e; exact HOK.out
                      · exact (HM3.out.2.2 h).2 j (by omega)⟩⟩
                    case measure => omega
                · have hie : i = T.en p := by omega
                  subst hie
                  clear hI hJ hm0 hm1 hm2
                  go_wp2_with fail
                  go_roundg (T.n - (p + 1))
                  case rel => exact ⟨f3, mv, p + 1, rfl, by go_num, by omega, rfl, HI3.out, HJ3.out, HM3.out.1, HM3.out.2.1, fun h q i2 hq hi2 => by
                    rcases Nat.lt_or_ge q p with h' | h'
                    · exact (HM3.out.2.2 h).1 q i2 h' hi2
                    · obtain rfl : q = p := by omega
                      exact (HM3.out.2.2 h).2 i2 hi2⟩
                  case measure => omega
            · have hpe : p = T.n := by omega
              subst hpe
              go_wp2_with fail
              go_roundg (if mv then T.toTr.rsL rows f2 + 1 else 0)
              case rel => exact ⟨f2, mv, rfl, HI2.out, HJ2.out, fun h => by rw [h]; simp, fun h q i hq hi => HM2.out.2.2 h q i hq hi⟩
              case measure =>
                have h1 := HG.out
                cases mv with
                | true => have := HM2.out.2.1 rfl; simp; omega
                | false => simp; omega

end Go.Proofs.YteikcgfnkhoigaaGreat
