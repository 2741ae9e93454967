/- Contracts of antecederef28: find, halves, Same. Contract of antecederef28.resolve: nodes with names. -/
import Derived.Test.YtdplphoohnnbcaaGreatDoorIx
import Derived.Test.YtdplphoohnnbcaaGreatDoorId
import Derived.Deep.LoopGhost
import Derived.Test.YtdplphoohnnbcaaGreatDoorIr
import Derived.Test.YtdplphoohnnbcaaGreatDoorIw
namespace Go.Proofs.YtdplphoohnnbcaaGreatDoor
open Go.RowKit Go.Shelf

set_option maxRecDepth 100000 in
set_option maxHeartbeats 1000000 in
theorem rfindP_any (w : World) (T : TM) (hT : T.At w) (nm : ByteArray) :
    Calls Tryz.prog 80 #[T.val, .string nm] w fun e w' => e = .returned (.int .i64 (T.toTr.procI nm)) ∧ Ext w w' := by
  have hn := hT.P.hn
  obtain ⟨ta, hta⟩ : ∃ a, a = T.a := ⟨_, rfl⟩
  simp only [TM.val]
  rw [← hta]
  have HTA := Lib.hid hta
  have HT := Lib.hid hT
  clear hT hta
  go_enter Tryz.func80, Tryz.ntmps80
  go_upto_region 1 with fail
  refine boxed1 (w := w) (G := fun x => Code.wp _ _ _ _ x) ?_
  intro w1 hx1 hs1 ⟨l0, c0, _, _⟩
  have hx11 : Ext w1 w1 := Ext.refl _
  clear hs1
  go_wp2_with fail
  go_loopg [5] T.n (fun gg v wr => ∃ i : Nat, i ≤ T.n ∧ gg = T.n - i ∧ v = .int .i64 i ∧ Ext w1 wr ∧ ∀ j, j < i → strEq (T.name j) nm = false)
  case atStart => exact ⟨0, by omega, rfl, rfl, hx11, fun j hj => by omega⟩
  case round =>
    obtain ⟨i, hi, rfl, rfl, hxr, hno⟩ := hrel
    have HNO := Lib.hid hno
    clear hno
    have hx0r := hx1.trans hxr
    by_cases hlt : i < T.n
    · have hlt' : (i : Int) < (T.n : Int) := by omega
      obtain rfl : ta = some ⟨T.b, T.off, none⟩ := by rw [HTA.out]; exact HT.out.P.pa (by omega)
      have pb := HT.out.P.pb (by omega)
      have p0 : ∀ w', Ext w w' → w'.cell? ⟨T.b, T.off + i * 3, none⟩ = some (.string (T.name i)) := fun w' h => HT.out.P.p0 w' h i hlt
      cases he : ((T.name i).toList == nm.toList) with
      | true =>
        have HE := Lib.hid (show strEq (T.name i) nm = true from he)
        go_wp2_with fail
        go_ret
        exact ⟨ret_int (idxI_hit hlt HE.out HNO.out).symm, hx0r⟩
      | false =>
        have HE := Lib.hid (show strEq (T.name i) nm = false from he)
        go_wp2_with fail
        go_roundg (T.n - (i + 1))
        case rel => exact ⟨i + 1, by omega, rfl, by go_num, hxr, fun j hj => by
          by_cases e : j = i
          · subst e; exact HE.out
          · exact HNO.out j (by omega)⟩
        case measure => omega
    · have hie : i = T.n := by omega
      have HR := Lib.hid (show T.toTr.procI nm = -1 from idxI_none (by rw [← hie]; exact HNO.out))
      subst hie
      go_wp2_with fail
      go_ret
      exact ⟨ret_int HR.out.symm, hx0r⟩
def HalvesPost (s : ByteArray) (c : UInt8) (w : World) (e : Ending) (w' : World) : Prop :=
  Ext w w' ∧ ∃ (a b : ByteArray) (is : Bool), e = .returned (.tuple #[.string a, .string b, .bool is]) ∧ is = cutB s c ∧ (is = true → a = cutL s c ∧ b = cutR s c)
theorem byte_ne {s : ByteArray} {i : Nat} (h : i < s.size) {c : UInt8} (hc : ((s[i].toNat : Int) == (c.toNat : Int)) = false) : s.data.toList[i]? ≠ some c := by
  intro e
  have h2 : i < s.data.toList.length := by simpa using h
  rw [List.getElem?_eq_getElem h2] at e
  have h3 : s.data.toList[i] = c := Option.some.inj e
  have h4 : s[i] = c := by rw [← h3]; simp [ByteArray.getElem_eq_getElem_data]
  rw [h4] at hc
  simp at hc
theorem byte_eq {s : ByteArray} {i : Nat} (h : i < s.size) {c : UInt8} (hc : ((s[i].toNat : Int) == (c.toNat : Int)) = true) : s.data.toList[i]? = some c := by
  have h2 : i < s.data.toList.length := by simpa using h
  rw [List.getElem?_eq_getElem h2]
  have h3 : s[i].toNat = c.toNat := Int.ofNat_inj.1 (beq_iff_eq.1 hc)
  have h4 : s[i] = c := UInt8.toNat_inj.1 h3
  rw [← h4]; simp [ByteArray.getElem_eq_getElem_data]
set_option maxRecDepth 100000 in
set_option maxHeartbeats 1000000 in
theorem halves_any (s : ByteArray) (c : UInt8) (hs : s.size ≤ 9223372036854775807) (w : World) :
    Calls Tryz.prog 79 #[.string s, .int .u8 (c.toNat : Int)] w (HalvesPost s c w) := by
  obtain ⟨cv, hcv⟩ : ∃ x : Int, x = (c.toNat : Int) := ⟨_, rfl⟩
  rw [← hcv]
  have HCV := Lib.hid hcv
  clear hcv
  go_enter Tryz.func79, Tryz.ntmps79
  go_wp2_with fail
  go_loopg [7] s.size (fun gg v wr => ∃ i : Nat, i ≤ s.size ∧ gg = s.size - i ∧ v = .int .i64 i ∧ wr = w ∧ ∀ j, j < i → s.data.toList[j]? ≠ some c)
  case atStart => exact ⟨0, by omega, rfl, rfl, rfl, fun j hj => by omega⟩
  case round =>
    obtain ⟨i, hi, rfl, rfl, rfl, hno⟩ := hrel
    have HNO := Lib.hid hno
    clear hno
    by_cases hlt : i < s.size
    · have hlt' : (i : Int) < (s.size : Int) := by omega
      cases he : ((s[i].toNat : Int) == cv) with
      | true =>
        obtain ⟨e1, e2, e3⟩ := cut_hit hlt (byte_eq hlt (by rw [← HCV.out]; exact he)) HNO.out
        have E1 := Lib.hid e1
        have E2 := Lib.hid e2
        have E3 := Lib.hid e3
        have c1 : (0 : Int) ≤ ↑i := by omega
        have c2 : (↑i : Int) ≤ ↑s.size := by omega
        have c3 : (0 : Int) ≤ ↑i + 1 := by omega
        have c4 : (↑i + 1 : Int) ≤ ↑s.size := by omega
        clear e1 e2 e3
        go_wp2_with fail
        go_quiet (fail)
        go_wp2_with fail
        go_ret3
        exact ⟨(Ext.refl _).drewN _, _, _, _, rfl, E3.out.symm, fun _ => ⟨E1.out.symm, E2.out.symm⟩⟩
      | false =>
        have HE := Lib.hid (byte_ne hlt (c := c) (by rw [← HCV.out]; exact he))
        go_wp2_with fail
        go_roundg (s.size - (i + 1))
        case rel => exact ⟨i + 1, by omega, rfl, by go_num, rfl, fun j hj => by
          by_cases e : j = i
          · subst e; exact HE.out
          · exact HNO.out j (by omega)⟩
        case measure => omega
    · have hie : i = s.size := by omega
      have HR := Lib.hid (cut_miss (s := s) (c := c) (by rw [← hie]; exact HNO.out))
      subst hie
      go_wp2_with fail
      go_ret3
      exact ⟨Ext.refl _, _, _, _, rfl, HR.out.symm, fun h => by cases h⟩
set_option maxRecDepth 100000 in
set_option maxHeartbeats 2000000 in
theorem rSame_any (w0 : World) : ∀ p q : Pr, p.Like q → p.At w0 → q.At w0 → ∀ w, Ext w0 w → Calls Tryz.prog 15 #[p.val, q.val] w fun e w' => e = .returned (.bool true) ∧ Ext w w' := by
  intro p
  induction p using Pr.ind with
  | h p ih =>
    intro q hl hp hq w hx
    obtain ⟨e1, e2, e3, e4, e5, e6, _⟩ := (Pr.Like_eq p q).1 hl
    have HIH := Lib.hid (fun i hi W h => ih i hi (q.kid i) (hl.kids hi) (hp.kid hi) (hq.kid (by rw [e6]; exact hi)) W h)
    have HP := Lib.hid hp
    have HQ := Lib.hid hq
    have HL := Lib.hid e6
    have hn := hp.here.hn
    simp only [Pr.val]
    rw [e1, e2, e3, e4, e5, e6]
    obtain ⟨pa, hpa⟩ : ∃ a, a = p.a := ⟨_, rfl⟩
    obtain ⟨qa, hqa⟩ : ∃ a, a = q.a := ⟨_, rfl⟩
    rw [← hpa, ← hqa]
    have HA := Lib.hid hpa
    have HB := Lib.hid hqa
    clear ih hp hq e1 e2 e3 e4 e5 e6 hpa hqa hl
    go_enter Tryz.func15, Tryz.ntmps15
    go_upto_region 1 with fail
    refine boxed2 (w := w) (G := fun x => Code.wp _ _ _ _ x) ?_
    intro w1 hx1 hs1 ⟨l0, c0, _, _⟩ ⟨l1, c1, _, _⟩
    have hx11 : Ext w1 w1 := Ext.refl _
    have hx01 := hx.trans hx1
    clear hs1
    go_wp2_with fail
    go_loopg [5] p.len (fun gg v wr => ∃ i : Nat, i ≤ p.len ∧ gg = p.len - i ∧ v = .int .i64 i ∧ Ext w1 wr)
    case atStart => exact ⟨0, by omega, rfl, rfl, hx11⟩
    case round =>
      obtain ⟨i, hi, rfl, rfl, hxr⟩ := hrel
      have hx0r := hx01.trans hxr
      by_cases hlt : i < p.len
      · have hlt' : (i : Int) < (p.len : Int) := by omega
        have hlq : i < q.len := by rw [HL.out]; exact hlt
        obtain rfl : pa = some ⟨p.b, p.off, none⟩ := by rw [HA.out]; exact HP.out.here.ha (by omega)
        obtain rfl : qa = some ⟨q.b, q.off, none⟩ := by rw [HB.out]; exact HQ.out.here.ha (by omega)
        have kb : ∀ w', Ext w0 w' → p.b < w'.heap.size := HP.out.here.hb (by omega)
        have k0 := fun w' h => HP.out.here.c0 w' h i hlt
        have k1 := fun w' h => HP.out.here.c1 w' h i hlt
        have k2 := fun w' h => HP.out.here.c2 w' h i hlt
        have k3 := fun w' h => HP.out.here.c3 w' h i hlt
        have k4 := fun w' h => HP.out.here.c4 w' h i hlt
        have k5 := fun w' h => HP.out.here.c5 w' h i hlt
        have jb : ∀ w', Ext w0 w' → q.b < w'.heap.size := HQ.out.here.hb (by omega)
        have j0 := fun w' h => HQ.out.here.c0 w' h i hlq
        have j1 := fun w' h => HQ.out.here.c1 w' h i hlq
        have j2 := fun w' h => HQ.out.here.c2 w' h i hlq
        have j3 := fun w' h => HQ.out.here.c3 w' h i hlq
        have j4 := fun w' h => HQ.out.here.c4 w' h i hlq
        have j5 := fun w' h => HQ.out.here.c5 w' h i hlq
        have hc := HIH.out i hlt wr.drew hx0r.drew
        simp only [Pr.val] at hc
        have hxd := hxr.drew
        go_upto_region 6 with fail
        refine wp_region_reads 10 (by kernel_rfl) (by kernel_rfl) ?_
        simp only [List.take_succ_cons, List.take_zero]
        repeat still_step
        refine wpStill_nil ?_
        refine wpAny_ready (rs := [10]) (by kernel_rfl) (by simp) ?_
        refine AllReady.cons rfl (fun K hK => ?_) AllReady.nil
        go_simp
        go_at_call 15
        refine hc.mono ?_
        rintro e w9 ⟨rfl, hx9⟩
        refine hK _ _ ?_; clear hK K
        have hx19 := hxd.trans hx9
        refine wpAny_take (i := 11) (v := ?_) rfl (by kernel_rfl) (by kernel_rfl) (by kernel_rfl) (fun _ _ _ h => h) (Or.inl ⟨by rfl, ?_⟩) ?_
        rotate_left
        · intro w; go_simp; try with_reducible rfl
        refine wpAny_done (by kernel_rfl) ?_ _
        clear hc k0 k1 k2 k3 k4 k5 kb j0 j1 j2 j3 j4 j5 jb
        go_wp2_with fail
        go_roundg (p.len - (i + 1))
        case rel => exact ⟨i + 1, by omega, rfl, by go_num, hx19⟩
        case measure => omega
      · have hie : i = p.len := by omega
        subst hie
        go_wp2_with fail
        go_ret
        exact ⟨rfl, hx1.trans hxr⟩

end Go.Proofs.YtdplphoohnnbcaaGreatDoor

namespace Go.Proofs.YtdplphoohnnbcaaGreatDoor
open Go.RowKit Go.Shelf

/-- a resolved tree; the zero value if a name is not known -/
def RrPost (T : Tr) (p : Pr) (w : World) (e : Ending) (w' : World) : Prop :=
  Ext w w' ∧ ∃ (q : Pr) (ok : Bool), e = .returned (.tuple #[q.val, .bool ok]) ∧ q.HeldFrom w.heap.size w' ∧ (ok = true ↔ T.Can p) ∧ (ok = true → T.Rsv p q) ∧ (ok = false → Pr.nil.Like q)
theorem rr_results (tmps : Array Value) (W : World) (b : Nat) (x0 x1 x2 x3 x4 x5 v : Value) (t4 : tmps[4]? = some (.pointer (some ⟨b, 0, none⟩))) (t5 : tmps[5]? = some v)
    (c0 : W.cell? ⟨b, 0, none⟩ = some x0) (c1 : W.cell? ⟨b, 1, none⟩ = some x1) (c2 : W.cell? ⟨b, 2, none⟩ = some x2) (c3 : W.cell? ⟨b, 3, none⟩ = some x3) (c4 : W.cell? ⟨b, 4, none⟩ = some x4) (c5 : W.cell? ⟨b, 5, none⟩ = some x5) :
    (results Tryz.f37 tmps).run Tryz.prog W = .ok (.tuple #[.agg #[x0, x1, x2, x3, x4, x5], v]) W := by
  simp [results, Tryz.results37, go_sem, t4, t5, c0, c1, c2, c3, c4, c5]
def zeroR : Pr := Pr.leafQ 0 0 0 0 ⟨#[]⟩ none 0
theorem zeroR_like : Pr.nil.Like zeroR := ⟨rfl, rfl, rfl, rfl, rfl, rfl⟩
theorem zeroR_held (B : Nat) (w : World) : zeroR.HeldFrom B w := Pr.leafQ_held ok0' ok0' ok0' ok0' (Nat.zero_le _) B w
set_option maxRecDepth 100000 in
set_option maxHeartbeats 2000000 in
/-- a node with names that has indices already -/
theorem rresolveX_any (w0 : World) (T : TM) (p : Pr) (hp : p.NodeAt w0) (h0 : p.len = 0) (hk : 2 ≤ p.kind ∧ p.kind ≤ 4) (hq : ¬ (p.proc = 0 ∧ p.peer = 0)) (w : World) :
    Calls Tryz.prog 37 #[T.val, p.val] w (RrPost T.toTr p w) := by
  have HF := Lib.hid hp.fine
  have hrs : T.toTr.rsN p.kind p.proc p.peer p.name = none := by unfold Tr.rsN; rw [if_pos hk, if_neg hq]
  have HC := Lib.hid (show ¬ T.toTr.Can p from fun h => absurd hrs ((Tr.can_leaf h0).1 h))
  have h1 : (p.proc != 0) = true ∨ ((p.proc != 0) = false ∧ (p.peer != 0) = true) := by
    by_cases e : p.proc = 0
    · right; exact ⟨by simp [e], by simp; exact fun e2 => hq ⟨e, e2⟩⟩
    · left; simp [e]
  obtain ⟨hk1, hk2⟩ := hk
  simp only [Pr.val, TM.val]
  rw [h0]
  clear hp h0 hrs hq
  rcases h1 with d1 | ⟨d1, d2⟩
  · skip
    go_enter Tryz.func37, Tryz.ntmps37
    go_upto_region 1 with fail
    refine boxed3 (w := w) (G := fun x => Code.wp _ _ _ _ x) ?_
    intro w1 hx1 hs1 ⟨l0, c0, f0, k0⟩ ⟨l1, c1, f1, k1⟩ ⟨l2, c2, f2, k2⟩
    have hx11 : Ext w1 w1 := Ext.refl _
    have HK0 := Lib.hid (show Hold w1 w.heap.size _ from k0)
    have HK1 := Lib.hid (show Hold w1 (w.heap.size + 1) _ from k1)
    have HK2 := Lib.hid (show Hold w1 (w.heap.size + 1 + 1) _ from k2)
    clear k0 k1 k2
    go_upto_region 2 with fail
    refine boxed1 (w := w1) (G := fun x => Code.wp _ _ _ _ x) ?_
    intro w2 hx12 hs2 kk3
    rw [hs1] at kk3
    obtain ⟨l3, c3, f3, k3⟩ := kk3
    have hx22 : Ext w2 w2 := Ext.refl _
    have H02 := Lib.hid (Hold.ext HK0.out hx12)
    have H12 := Lib.hid (Hold.ext HK1.out hx12)
    have H22 := Lib.hid (Hold.ext HK2.out hx12)
    have H32 := Lib.hid (show Hold w2 (w.heap.size + 1 + 1 + 1) _ from k3)
    have hxw2 := hx1.trans hx12
    clear hs1 hs2 k3
    go_wp2_with fail
    have hk9 := Hold.all6 (Hold.ext H22.out hx22) (.int .i64 0) (.int .i64 0) (.int .i64 0) (.int .i64 0) (.string ⟨#[]⟩) (.slice none 0 0)
    refine bodyPost_ret (rr_results _ _ (w.heap.size + 1 + 1) _ _ _ _ _ _ _ rfl rfl (hk9.cell0 0) (hk9.cell0 1) (hk9.cell0 2) (hk9.cell0 3) (hk9.cell0 4) (hk9.cell0 5)) rfl ?_
    exact ⟨(hxw2.trans hx22).put6 (by omega) 0 _ _ _ _ _ _, zeroR, false, rfl, zeroR_held _ _, ⟨(fun h => by cases h), fun h => absurd h HC.out⟩, (fun h => by cases h), fun _ => zeroR_like⟩
  · skip
    go_enter Tryz.func37, Tryz.ntmps37
    go_upto_region 1 with fail
    refine boxed3 (w := w) (G := fun x => Code.wp _ _ _ _ x) ?_
    intro w1 hx1 hs1 ⟨l0, c0, f0, k0⟩ ⟨l1, c1, f1, k1⟩ ⟨l2, c2, f2, k2⟩
    have hx11 : Ext w1 w1 := Ext.refl _
    have HK0 := Lib.hid (show Hold w1 w.heap.size _ from k0)
    have HK1 := Lib.hid (show Hold w1 (w.heap.size + 1) _ from k1)
    have HK2 := Lib.hid (show Hold w1 (w.heap.size + 1 + 1) _ from k2)
    clear k0 k1 k2
    go_upto_region 2 with fail
    refine boxed1 (w := w1) (G := fun x => Code.wp _ _ _ _ x) ?_
    intro w2 hx12 hs2 kk3
    rw [hs1] at kk3
    obtain ⟨l3, c3, f3, k3⟩ := kk3
    have hx22 : Ext w2 w2 := Ext.refl _
    have H02 := Lib.hid (Hold.ext HK0.out hx12)
    have H12 := Lib.hid (Hold.ext HK1.out hx12)
    have H22 := Lib.hid (Hold.ext HK2.out hx12)
    have H32 := Lib.hid (show Hold w2 (w.heap.size + 1 + 1 + 1) _ from k3)
    have hxw2 := hx1.trans hx12
    clear hs1 hs2 k3
    go_wp2_with fail
    have hk9 := Hold.all6 (Hold.ext H22.out hx22) (.int .i64 0) (.int .i64 0) (.int .i64 0) (.int .i64 0) (.string ⟨#[]⟩) (.slice none 0 0)
    refine bodyPost_ret (rr_results _ _ (w.heap.size + 1 + 1) _ _ _ _ _ _ _ rfl rfl (hk9.cell0 0) (hk9.cell0 1) (hk9.cell0 2) (hk9.cell0 3) (hk9.cell0 4) (hk9.cell0 5)) rfl ?_
    exact ⟨(hxw2.trans hx22).put6 (by omega) 0 _ _ _ _ _ _, zeroR, false, rfl, zeroR_held _ _, ⟨(fun h => by cases h), fun h => absurd h HC.out⟩, (fun h => by cases h), fun _ => zeroR_like⟩
set_option maxRecDepth 100000 in
set_option maxHeartbeats 4000000 in
/-- a count -/
theorem rresolve3_any (w0 : World) (T : TM) (hT : T.At w0) (p : Pr) (hp : p.NodeAt w0) (h0 : p.len = 0) (hk : p.kind = 3) (hq : p.proc = 0 ∧ p.peer = 0) (w : World) (hx : Ext w0 w) :
    Calls Tryz.prog 37 #[T.val, p.val] w (RrPost T.toTr p w) := by
  have hrs0 : T.toTr.rsN p.kind p.proc p.peer p.name = if 0 ≤ T.toTr.procI p.name then some (T.toTr.procI p.name, 0, nmNo) else none := by
    unfold Tr.rsN; rw [if_pos (by omega), if_pos hq, if_neg (by omega), if_pos hk]
  have hbad : ¬ (0 ≤ T.toTr.procI p.name) → ¬ T.toTr.Can p := fun h hc => (Tr.can_leaf h0).1 hc (by rw [hrs0, if_neg h])
  have hgood : (0 ≤ T.toTr.procI p.name) → T.toTr.Can p ∧ ∀ a c, T.toTr.Rsv p (Pr.leafQ 3 p.num (T.toTr.procI p.name) 0 nmNo a c) := fun h => by
    rw [if_pos h] at hrs0
    refine ⟨(Tr.can_leaf h0).2 (by unfold Tr.RsOk; rw [hrs0]; simp), fun a c => ?_⟩
    have := Tr.rsv_leaf h0 hrs0 a c
    rw [hk] at this; exact this
  have HBAD := Lib.hid hbad
  have HGOOD := Lib.hid hgood
  have hoI := okI_proc (T := T.toTr) hT.P.hn p.name
  have HSZ := Lib.hid (show (⟨#[]⟩ : ByteArray).size ≤ 9223372036854775807 from Nat.zero_le _)
  have HF := Lib.hid hp.fine
  obtain ⟨hq1, hq2⟩ := hq
  have hPI := fun nm W (h : Ext w0 W) => rfindP_any W T (hT.ext h) nm
  have hKN := fun k hk nm W (h : Ext w0 W) => rVar_any W T (hT.ext h) k hk nm
  have hn := hT.P.hn
  simp only [Pr.val, TM.val] at hPI hKN ⊢
  have HPI := Lib.hid hPI
  have HKN := Lib.hid hKN
  rw [h0, hk, hq1, hq2]
  clear hPI hKN hp hT
  clear hrs0 hbad hgood
  have HOI := Lib.hid hoI
  clear hoI h0 hk hq1 hq2
  go_enter Tryz.func37, Tryz.ntmps37
  go_upto_region 1 with fail
  refine boxed3 (w := w) (G := fun x => Code.wp _ _ _ _ x) ?_
  intro w1 hx1 hs1 ⟨l0, c0, f0, k0⟩ ⟨l1, c1, f1, k1⟩ ⟨l2, c2, f2, k2⟩
  have hx11 : Ext w1 w1 := Ext.refl _
  have HK0 := Lib.hid (show Hold w1 w.heap.size _ from k0)
  have HK1 := Lib.hid (show Hold w1 (w.heap.size + 1) _ from k1)
  have HK2 := Lib.hid (show Hold w1 (w.heap.size + 1 + 1) _ from k2)
  clear k0 k1 k2
  go_upto_region 2 with fail
  refine boxed1 (w := w1) (G := fun x => Code.wp _ _ _ _ x) ?_
  intro w2 hx12 hs2 kk3
  rw [hs1] at kk3
  obtain ⟨l3, c3, f3, k3⟩ := kk3
  have hx22 : Ext w2 w2 := Ext.refl _
  have H02 := Lib.hid (Hold.ext HK0.out hx12)
  have H12 := Lib.hid (Hold.ext HK1.out hx12)
  have H22 := Lib.hid (Hold.ext HK2.out hx12)
  have H32 := Lib.hid (show Hold w2 (w.heap.size + 1 + 1 + 1) _ from k3)
  have hxw2 := hx1.trans hx12
  clear hs1 hs2 k3
  go_wp2_with fail
  go_at_call 80
  refine (HPI.out _ _ (hx.trans hxw2)).mono ?_
  rintro e w3 ⟨rfl, hx3⟩
  have hx23 : Ext w2 w3 := hx3
  go_upto_region 12 with fail
  refine setw1 (w := w3) (G := fun x => Code.wp _ _ _ _ x) ?_
  intro w4 hw9
  have H34 := Lib.hid (show Hold w4 (w.heap.size + 1 + 1 + 1) #[.int .i64 3, .int .i64 p.num, .int .i64 (T.toTr.procI p.name), .int .i64 0, .string ⟨#[]⟩, .slice none 0 0] from by rw [hw9]; simpa using (Hold.ext H32.out hx23).set 2 _)
  have h0s : w.heap.size ≤ w.heap.size + 1 + 1 + 1 := by omega
  have hx2w4 : Ext w w4 := by rw [hw9]; exact (Ext.trans hxw2 hx23).setCell h0s _
  have H04 := Lib.hid (show Hold w4 w.heap.size #[.slice T.a T.n T.cap] from by rw [hw9]; exact (Hold.ext H02.out hx23).other _ _ (by show w.heap.size ≠ w.heap.size + 1 + 1 + 1; omega))
  have H14 := Lib.hid (show Hold w4 (w.heap.size + 1) _ from by rw [hw9]; exact (Hold.ext H12.out hx23).other _ _ (by show w.heap.size + 1 ≠ w.heap.size + 1 + 1 + 1; omega))
  have H24 := Lib.hid (show Hold w4 (w.heap.size + 1 + 1) _ from by rw [hw9]; exact (Hold.ext H22.out hx23).other _ _ (by show w.heap.size + 1 + 1 ≠ w.heap.size + 1 + 1 + 1; omega))
  have hxw4w4 : Ext w4 w4 := Ext.refl _
  clear hw9 h0s
  clear l0 c0 f0 l1 c1 f1 l2 c2 f2 l3 c3 f3
  by_cases hge : 0 ≤ T.toTr.procI p.name
  · have HC := Lib.hid (HGOOD.out hge).1
    have HR := Lib.hid (HGOOD.out hge).2
    obtain ⟨l5, c5, f5, _⟩ := H34.out.box
    go_upto_region 19 with fail
    obtain ⟨l7, c7, f7, _⟩ := (H34.out).box
    obtain ⟨l8, c8, f8, _⟩ := (H24.out).box
    obtain ⟨l9, c9, f9, _⟩ := (H14.out).box
    go_wp2_with fail
    go_loopg [13, 14, 15] 0 (fun gg v v14 v15 wr => gg = 0 ∧ v = .int .i64 0 ∧ (∃ u, v14 = u) ∧ (∃ u, v15 = u) ∧ wr = w4)
    case atStart => exact ⟨rfl, rfl, ⟨_, rfl⟩, ⟨_, rfl⟩, rfl⟩
    case round =>
      obtain ⟨rfl, rfl, ⟨u1, rfl⟩, ⟨u2, rfl⟩, rfl⟩ := hrel
      go_wp2_with fail
      have hk9 := Hold.all6 H24.out (.int .i64 3) (.int .i64 p.num) (.int .i64 (T.toTr.procI p.name)) (.int .i64 0) (.string ⟨#[]⟩) (.slice none 0 0)
      refine bodyPost_ret (rr_results _ _ (w.heap.size + 1 + 1) _ _ _ _ _ _ _ rfl rfl (hk9.cell0 0) (hk9.cell0 1) (hk9.cell0 2) (hk9.cell0 3) (hk9.cell0 4) (hk9.cell0 5)) rfl ?_
      exact ⟨(hx2w4).put6 (by omega) 0 _ _ _ _ _ _, Pr.leafQ 3 p.num (T.toTr.procI p.name) 0 ⟨#[]⟩ none 0, true, rfl, Pr.leafQ_held ok3' HF.out.numI HOI.out ok0' HSZ.out _ _, ⟨fun _ => HC.out, fun _ => rfl⟩, fun _ => HR.out _ _, (fun h => by cases h)⟩
  · have HC := Lib.hid (HBAD.out (by omega))
    obtain ⟨l5, c5, f5, _⟩ := H34.out.box
    obtain ⟨l6, c6, f6, _⟩ := H24.out.box
    go_wp2_with fail
    have hk9 := Hold.all6 H24.out (.int .i64 0) (.int .i64 0) (.int .i64 0) (.int .i64 0) (.string ⟨#[]⟩) (.slice none 0 0)
    refine bodyPost_ret (rr_results _ _ (w.heap.size + 1 + 1) _ _ _ _ _ _ _ rfl rfl (hk9.cell0 0) (hk9.cell0 1) (hk9.cell0 2) (hk9.cell0 3) (hk9.cell0 4) (hk9.cell0 5)) rfl ?_
    exact ⟨(hx2w4).put6 (by omega) 0 _ _ _ _ _ _, zeroR, false, rfl, zeroR_held _ _, ⟨(fun h => by cases h), fun h => absurd h HC.out⟩, (fun h => by cases h), fun _ => zeroR_like⟩
set_option maxRecDepth 100000 in
set_option maxHeartbeats 4000000 in
/-- a variable -/
theorem rresolve2_any (w0 : World) (T : TM) (hT : T.At w0) (p : Pr) (hp : p.NodeAt w0) (h0 : p.len = 0) (hk : p.kind = 2) (hq : p.proc = 0 ∧ p.peer = 0) (w : World) (hx : Ext w0 w) :
    Calls Tryz.prog 37 #[T.val, p.val] w (RrPost T.toTr p w) := by
  have hrs0 : T.toTr.rsN p.kind p.proc p.peer p.name = if cutB p.name 46 = true ∧ 0 ≤ T.toTr.procI (cutL p.name 46) ∧ T.toTr.hasV (T.toTr.procI (cutL p.name 46)).toNat (cutR p.name 46) = true then some (T.toTr.procI (cutL p.name 46), 0, cutR p.name 46) else none := by
    unfold Tr.rsN; rw [if_pos (by omega), if_pos hq, if_pos hk]
  have hbad : ¬ (cutB p.name 46 = true ∧ 0 ≤ T.toTr.procI (cutL p.name 46) ∧ T.toTr.hasV (T.toTr.procI (cutL p.name 46)).toNat (cutR p.name 46) = true) → ¬ T.toTr.Can p := fun h hc => (Tr.can_leaf h0).1 hc (by rw [hrs0, if_neg h])
  have hgood : (cutB p.name 46 = true ∧ 0 ≤ T.toTr.procI (cutL p.name 46) ∧ T.toTr.hasV (T.toTr.procI (cutL p.name 46)).toNat (cutR p.name 46) = true) → T.toTr.Can p ∧ ∀ a c, T.toTr.Rsv p (Pr.leafQ 2 p.num (T.toTr.procI (cutL p.name 46)) 0 (cutR p.name 46) a c) := fun h => by
    rw [if_pos h] at hrs0
    refine ⟨(Tr.can_leaf h0).2 (by unfold Tr.RsOk; rw [hrs0]; simp), fun a c => ?_⟩
    have := Tr.rsv_leaf h0 hrs0 a c
    rw [hk] at this; exact this
  have HBAD := Lib.hid hbad
  have HGOOD := Lib.hid hgood
  have HOI := Lib.hid (okI_proc (T := T.toTr) hT.P.hn)
  have HLT := Lib.hid (fun nm h => Tr.procI_lt (T := T.toTr) (nm := nm) h)
  have HSZ := Lib.hid (Nat.le_trans (cutR_size p.name 46) hp.nameI)
  have HHV := Lib.hid (halves_any p.name 46 hp.nameI)
  have HF := Lib.hid hp.fine
  obtain ⟨hq1, hq2⟩ := hq
  have hPI := fun nm W (h : Ext w0 W) => rfindP_any W T (hT.ext h) nm
  have hKN := fun k hk nm W (h : Ext w0 W) => rVar_any W T (hT.ext h) k hk nm
  have hn := hT.P.hn
  simp only [Pr.val, TM.val] at hPI hKN ⊢
  have HPI := Lib.hid hPI
  have HKN := Lib.hid hKN
  rw [h0, hk, hq1, hq2]
  clear hPI hKN hp hT
  clear hrs0 hbad hgood h0 hk hq1 hq2
  go_enter Tryz.func37, Tryz.ntmps37
  go_upto_region 1 with fail
  refine boxed3 (w := w) (G := fun x => Code.wp _ _ _ _ x) ?_
  intro w1 hx1 hs1 ⟨l0, c0, f0, k0⟩ ⟨l1, c1, f1, k1⟩ ⟨l2, c2, f2, k2⟩
  have hx11 : Ext w1 w1 := Ext.refl _
  have HK0 := Lib.hid (show Hold w1 w.heap.size _ from k0)
  have HK1 := Lib.hid (show Hold w1 (w.heap.size + 1) _ from k1)
  have HK2 := Lib.hid (show Hold w1 (w.heap.size + 1 + 1) _ from k2)
  clear k0 k1 k2
  go_upto_region 2 with fail
  refine boxed1 (w := w1) (G := fun x => Code.wp _ _ _ _ x) ?_
  intro w2 hx12 hs2 kk3
  rw [hs1] at kk3
  obtain ⟨l3, c3, f3, k3⟩ := kk3
  have hx22 : Ext w2 w2 := Ext.refl _
  have H02 := Lib.hid (Hold.ext HK0.out hx12)
  have H12 := Lib.hid (Hold.ext HK1.out hx12)
  have H22 := Lib.hid (Hold.ext HK2.out hx12)
  have H32 := Lib.hid (show Hold w2 (w.heap.size + 1 + 1 + 1) _ from k3)
  have hxw2 := hx1.trans hx12
  clear hs1 hs2 k3
  go_wp2_with fail
  go_at_call 79
  refine (HHV.out _).mono ?_
  rintro e w3 ⟨hx3, sl, sr, is, rfl, his, hsl⟩
  have hx23 : Ext w2 w3 := hx3
  have hx13 : Ext w1 w3 := hx12.trans hx3
  have HIS := Lib.hid his
  have HSL := Lib.hid hsl
  clear his hsl
  go_wp2_with fail
  go_at_call 80
  refine (HPI.out _ _ (hx.trans (hxw2.trans hx23))).mono ?_
  rintro e w4 ⟨rfl, hx4⟩
  have hx24 : Ext w2 w4 := hx23.trans hx4
  obtain ⟨pl, hpl⟩ : ∃ x, x = T.toTr.procI sl := ⟨_, rfl⟩
  have HPL := Lib.hid hpl
  rw [← hpl]
  clear hpl
  go_upto_region 7 with fail
  refine setw1 (w := w4) (G := fun x => Code.wp _ _ _ _ x) ?_
  intro w5 hw9
  have H35 := Lib.hid (show Hold w5 (w.heap.size + 1 + 1 + 1) #[.int .i64 2, .int .i64 p.num, .int .i64 pl, .int .i64 0, .string ⟨#[]⟩, .slice none 0 0] from by rw [hw9]; simpa using (Hold.ext H32.out hx24).set 2 _)
  have h0s : w.heap.size ≤ w.heap.size + 1 + 1 + 1 := by omega
  have hx2w5 : Ext w w5 := by rw [hw9]; exact (Ext.trans hxw2 hx24).setCell h0s _
  have H05 := Lib.hid (show Hold w5 w.heap.size #[.slice T.a T.n T.cap] from by rw [hw9]; exact (Hold.ext H02.out hx24).other _ _ (by show w.heap.size ≠ w.heap.size + 1 + 1 + 1; omega))
  have H15 := Lib.hid (show Hold w5 (w.heap.size + 1) _ from by rw [hw9]; exact (Hold.ext H12.out hx24).other _ _ (by show w.heap.size + 1 ≠ w.heap.size + 1 + 1 + 1; omega))
  have H25 := Lib.hid (show Hold w5 (w.heap.size + 1 + 1) _ from by rw [hw9]; exact (Hold.ext H22.out hx24).other _ _ (by show w.heap.size + 1 + 1 ≠ w.heap.size + 1 + 1 + 1; omega))
  have hxw5w5 : Ext w5 w5 := Ext.refl _
  clear hw9 h0s
  clear l0 c0 f0 l1 c1 f1 l2 c2 f2 l3 c3 f3
  obtain ⟨l5, c5, f5, _⟩ := H35.out.box
  obtain ⟨l6, c6, f6, _⟩ := H25.out.box
  obtain ⟨l4, c4, f4, _⟩ := H05.out.box
  cases is with
  | false =>
    have HC := Lib.hid (HBAD.out (fun h => by rw [← HIS.out] at h; cases h.1))
    go_wp2_with fail
    have hk9 := Hold.all6 H25.out (.int .i64 0) (.int .i64 0) (.int .i64 0) (.int .i64 0) (.string ⟨#[]⟩) (.slice none 0 0)
    refine bodyPost_ret (rr_results _ _ (w.heap.size + 1 + 1) _ _ _ _ _ _ _ rfl rfl (hk9.cell0 0) (hk9.cell0 1) (hk9.cell0 2) (hk9.cell0 3) (hk9.cell0 4) (hk9.cell0 5)) rfl ?_
    exact ⟨(hx2w5).put6 (by omega) 0 _ _ _ _ _ _, zeroR, false, rfl, zeroR_held _ _, ⟨(fun h => by cases h), fun h => absurd h HC.out⟩, (fun h => by cases h), fun _ => zeroR_like⟩
  | true =>
    have HCB := Lib.hid HIS.out.symm
    have HSS := Lib.hid (HSL.out rfl)
    by_cases hge : 0 ≤ pl
    · obtain ⟨k, hk⟩ : ∃ k : Nat, pl = k := ⟨pl.toNat, by omega⟩
      subst hk
      have HPK := Lib.hid (show T.toTr.procI (cutL p.name 46) = (k : Int) from by rw [← HSS.out.1]; exact HPL.out.symm)
      have hkn : k < T.n := by
        have := (HLT.out (cutL p.name 46) (by rw [HPK.out]; omega)).2
        rw [HPK.out] at this; omega
      have HG2 := Lib.hid (show T.toTr.hasV k sr = true → T.toTr.Can p ∧ ∀ a c, T.toTr.Rsv p (Pr.leafQ 2 p.num k 0 sr a c) from fun h => by
        have := HGOOD.out ⟨HCB.out, by rw [HPK.out]; omega, by rw [HPK.out, Int.toNat_natCast, ← HSS.out.2]; exact h⟩
        rw [HPK.out, ← HSS.out.2] at this; exact this)
      have HB2 := Lib.hid (show T.toTr.hasV k sr = false → ¬ T.toTr.Can p from fun h => HBAD.out fun h2 => by
        have := h2.2.2; rw [HPK.out, Int.toNat_natCast, ← HSS.out.2, h] at this; cases this)
      have HHI := Lib.hid (T.toTr.hasV_varI k sr)
      have HOK := Lib.hid (show okI (k : Int) from by have := HOI.out sl; rw [← HPL.out] at this; exact this)
      have HSR := Lib.hid (show sr.size ≤ 9223372036854775807 from by rw [HSS.out.2]; exact HSZ.out)
      have hKK := HKN.out k hkn sr w5 (hx.trans hx2w5)
      obtain ⟨vi, hvi⟩ : ∃ x, x = T.toTr.varI k sr := ⟨_, rfl⟩
      have HVI := Lib.hid hvi
      rw [← hvi] at hKK
      clear hvi
      go_wp2_with fail
      go_at_call 59
      refine hKK.mono ?_
      rintro e w6 ⟨rfl, hx6⟩
      have hx56 : Ext w5 w6 := hx6
      clear hKK
      by_cases hv : 0 ≤ vi
      · have HV := Lib.hid (HHI.out.2 (by rw [← HVI.out]; exact hv))
        have HC := Lib.hid (HG2.out HV.out).1
        have HR := Lib.hid (HG2.out HV.out).2
        go_upto_region 10 with fail
        refine setw1 (w := w6) (G := fun x => Code.wp _ _ _ _ x) ?_
        intro w7 hw9
        have H37 := Lib.hid (show Hold w7 (w.heap.size + 1 + 1 + 1) #[.int .i64 2, .int .i64 p.num, .int .i64 k, .int .i64 0, .string sr, .slice none 0 0] from by rw [hw9]; simpa using (Hold.ext H35.out hx56).set 4 _)
        have hx2w7 : Ext w w7 := by rw [hw9]; exact (Ext.trans hx2w5 hx56).setCell (by show w.heap.size ≤ w.heap.size + 1 + 1 + 1; omega) _
        have H17 := Lib.hid (show Hold w7 (w.heap.size + 1) _ from by rw [hw9]; exact (Hold.ext H15.out hx56).other _ _ (by show w.heap.size + 1 ≠ w.heap.size + 1 + 1 + 1; omega))
        have H27 := Lib.hid (show Hold w7 (w.heap.size + 1 + 1) _ from by rw [hw9]; exact (Hold.ext H25.out hx56).other _ _ (by show w.heap.size + 1 + 1 ≠ w.heap.size + 1 + 1 + 1; omega))
        have hxw7w7 : Ext w7 w7 := Ext.refl _
        clear hw9 l5 c5 f5 l6 c6 f6 l4 c4 f4
        go_upto_region 19 with fail
        obtain ⟨l7, c7, f7, _⟩ := (H37.out).box
        obtain ⟨l8, c8, f8, _⟩ := (H27.out).box
        obtain ⟨l9, c9, f9, _⟩ := (H17.out).box
        go_wp2_with fail
        go_loopg [13, 14, 15] 0 (fun gg v v14 v15 wr => gg = 0 ∧ v = .int .i64 0 ∧ (∃ u, v14 = u) ∧ (∃ u, v15 = u) ∧ wr = w7)
        case atStart => exact ⟨rfl, rfl, ⟨_, rfl⟩, ⟨_, rfl⟩, rfl⟩
        case round =>
          obtain ⟨rfl, rfl, ⟨u1, rfl⟩, ⟨u2, rfl⟩, rfl⟩ := hrel
          go_wp2_with fail
          have hk9 := Hold.all6 H27.out (.int .i64 2) (.int .i64 p.num) (.int .i64 (k : Int)) (.int .i64 0) (.string sr) (.slice none 0 0)
          refine bodyPost_ret (rr_results _ _ (w.heap.size + 1 + 1) _ _ _ _ _ _ _ rfl rfl (hk9.cell0 0) (hk9.cell0 1) (hk9.cell0 2) (hk9.cell0 3) (hk9.cell0 4) (hk9.cell0 5)) rfl ?_
          exact ⟨(hx2w7).put6 (by omega) 0 _ _ _ _ _ _, Pr.leafQ 2 p.num (k : Int) 0 sr none 0, true, rfl, Pr.leafQ_held ok2' HF.out.numI HOK.out ok0' HSR.out _ _, ⟨fun _ => HC.out, fun _ => rfl⟩, fun _ => HR.out _ _, (fun h => by cases h)⟩
      · have HC := Lib.hid (HB2.out (by
          cases h : T.toTr.hasV k sr with
          | false => rfl
          | true => exact absurd (by rw [HVI.out]; exact HHI.out.1 h) hv))
        go_wp2_with fail
        have hk9 := Hold.all6 (Hold.ext H25.out hx56) (.int .i64 0) (.int .i64 0) (.int .i64 0) (.int .i64 0) (.string ⟨#[]⟩) (.slice none 0 0)
        refine bodyPost_ret (rr_results _ _ (w.heap.size + 1 + 1) _ _ _ _ _ _ _ rfl rfl (hk9.cell0 0) (hk9.cell0 1) (hk9.cell0 2) (hk9.cell0 3) (hk9.cell0 4) (hk9.cell0 5)) rfl ?_
        exact ⟨(hx2w5.trans hx56).put6 (by omega) 0 _ _ _ _ _ _, zeroR, false, rfl, zeroR_held _ _, ⟨(fun h => by cases h), fun h => absurd h HC.out⟩, (fun h => by cases h), fun _ => zeroR_like⟩
    · have HC := Lib.hid (HBAD.out (fun h => hge (by rw [HPL.out, HSS.out.1]; exact h.2.1)))
      go_wp2_with fail
      have hk9 := Hold.all6 H25.out (.int .i64 0) (.int .i64 0) (.int .i64 0) (.int .i64 0) (.string ⟨#[]⟩) (.slice none 0 0)
      refine bodyPost_ret (rr_results _ _ (w.heap.size + 1 + 1) _ _ _ _ _ _ _ rfl rfl (hk9.cell0 0) (hk9.cell0 1) (hk9.cell0 2) (hk9.cell0 3) (hk9.cell0 4) (hk9.cell0 5)) rfl ?_
      exact ⟨(hx2w5).put6 (by omega) 0 _ _ _ _ _ _, zeroR, false, rfl, zeroR_held _ _, ⟨(fun h => by cases h), fun h => absurd h HC.out⟩, (fun h => by cases h), fun _ => zeroR_like⟩
set_option maxRecDepth 100000 in
set_option maxHeartbeats 4000000 in
/-- a channel -/
theorem rresolve4_any (w0 : World) (T : TM) (hT : T.At w0) (p : Pr) (hp : p.NodeAt w0) (h0 : p.len = 0) (hk : p.kind = 4) (hq : p.proc = 0 ∧ p.peer = 0) (w : World) (hx : Ext w0 w) :
    Calls Tryz.prog 37 #[T.val, p.val] w (RrPost T.toTr p w) := by
  have hrs0 : T.toTr.rsN p.kind p.proc p.peer p.name = if cutB p.name 44 = true ∧ 0 ≤ T.toTr.procI (cutL p.name 44) ∧ 0 ≤ T.toTr.procI (cutR p.name 44) ∧ T.toTr.procI (cutL p.name 44) ≠ T.toTr.procI (cutR p.name 44) then some (T.toTr.procI (cutL p.name 44), T.toTr.procI (cutR p.name 44), nmNo) else none := by
    unfold Tr.rsN; rw [if_pos (by omega), if_pos hq, if_neg (by omega), if_neg (by omega)]
  have hbad : ¬ (cutB p.name 44 = true ∧ 0 ≤ T.toTr.procI (cutL p.name 44) ∧ 0 ≤ T.toTr.procI (cutR p.name 44) ∧ T.toTr.procI (cutL p.name 44) ≠ T.toTr.procI (cutR p.name 44)) → ¬ T.toTr.Can p := fun h hc => (Tr.can_leaf h0).1 hc (by rw [hrs0, if_neg h])
  have hgood : (cutB p.name 44 = true ∧ 0 ≤ T.toTr.procI (cutL p.name 44) ∧ 0 ≤ T.toTr.procI (cutR p.name 44) ∧ T.toTr.procI (cutL p.name 44) ≠ T.toTr.procI (cutR p.name 44)) → T.toTr.Can p ∧ ∀ a c, T.toTr.Rsv p (Pr.leafQ 4 p.num (T.toTr.procI (cutL p.name 44)) (T.toTr.procI (cutR p.name 44)) nmNo a c) := fun h => by
    rw [if_pos h] at hrs0
    refine ⟨(Tr.can_leaf h0).2 (by unfold Tr.RsOk; rw [hrs0]; simp), fun a c => ?_⟩
    have := Tr.rsv_leaf h0 hrs0 a c
    rw [hk] at this; exact this
  have HBAD := Lib.hid hbad
  have HGOOD := Lib.hid hgood
  have HOI := Lib.hid (okI_proc (T := T.toTr) hT.P.hn)
  have HSZ := Lib.hid (show (⟨#[]⟩ : ByteArray).size ≤ 9223372036854775807 from Nat.zero_le _)
  have HHV := Lib.hid (halves_any p.name 44 hp.nameI)
  have HF := Lib.hid hp.fine
  obtain ⟨hq1, hq2⟩ := hq
  have hPI := fun nm W (h : Ext w0 W) => rfindP_any W T (hT.ext h) nm
  have hKN := fun k hk nm W (h : Ext w0 W) => rVar_any W T (hT.ext h) k hk nm
  have hn := hT.P.hn
  simp only [Pr.val, TM.val] at hPI hKN ⊢
  have HPI := Lib.hid hPI
  have HKN := Lib.hid hKN
  rw [h0, hk, hq1, hq2]
  clear hPI hKN hp hT
  clear hrs0 hbad hgood h0 hk hq1 hq2
  go_enter Tryz.func37, Tryz.ntmps37
  go_upto_region 1 with fail
  refine boxed3 (w := w) (G := fun x => Code.wp _ _ _ _ x) ?_
  intro w1 hx1 hs1 ⟨l0, c0, f0, k0⟩ ⟨l1, c1, f1, k1⟩ ⟨l2, c2, f2, k2⟩
  have hx11 : Ext w1 w1 := Ext.refl _
  have HK0 := Lib.hid (show Hold w1 w.heap.size _ from k0)
  have HK1 := Lib.hid (show Hold w1 (w.heap.size + 1) _ from k1)
  have HK2 := Lib.hid (show Hold w1 (w.heap.size + 1 + 1) _ from k2)
  clear k0 k1 k2
  go_upto_region 2 with fail
  refine boxed1 (w := w1) (G := fun x => Code.wp _ _ _ _ x) ?_
  intro w2 hx12 hs2 kk3
  rw [hs1] at kk3
  obtain ⟨l3, c3, f3, k3⟩ := kk3
  have hx22 : Ext w2 w2 := Ext.refl _
  have H02 := Lib.hid (Hold.ext HK0.out hx12)
  have H12 := Lib.hid (Hold.ext HK1.out hx12)
  have H22 := Lib.hid (Hold.ext HK2.out hx12)
  have H32 := Lib.hid (show Hold w2 (w.heap.size + 1 + 1 + 1) _ from k3)
  have hxw2 := hx1.trans hx12
  clear hs1 hs2 k3
  go_wp2_with fail
  go_at_call 79
  refine (HHV.out _).mono ?_
  rintro e w3 ⟨hx3, sl, sr, is, rfl, his, hsl⟩
  have hx23 : Ext w2 w3 := hx3
  have hx13 : Ext w1 w3 := hx12.trans hx3
  have HIS := Lib.hid his
  have HSL := Lib.hid hsl
  clear his hsl
  have hxw3 := hxw2.trans hx23
  have H03 := Lib.hid (Hold.ext H02.out hx23)
  have H13 := Lib.hid (Hold.ext H12.out hx23)
  have H23 := Lib.hid (Hold.ext H22.out hx23)
  have H33 := Lib.hid (Hold.ext H32.out hx23)
  have hPL := HPI.out sl
  have hPR := HPI.out sr
  have hoL := HOI.out sl
  have hoR := HOI.out sr
  have HBG := Lib.hid (show is = true → cutB p.name 44 = true ∧ T.toTr.procI (cutL p.name 44) = T.toTr.procI sl ∧ T.toTr.procI (cutR p.name 44) = T.toTr.procI sr from fun h => by
    obtain ⟨e1, e2⟩ := HSL.out h
    exact ⟨HIS.out.symm.trans h, by rw [e1], by rw [e2]⟩)
  generalize T.toTr.procI sl = pl at hPL hoL HBG
  generalize T.toTr.procI sr = pr at hPR hoR HBG
  have HPL := Lib.hid hPL
  have HPR := Lib.hid hPR
  have HOL := Lib.hid hoL
  have HOR := Lib.hid hoR
  clear hPL hPR hoL hoR HSL
  go_upto_region 16 with fail
  refine wp_region_held_drew (S := fun w' => Ext w w' ∧ Hold w' w.heap.size #[.slice T.a T.n T.cap]) (by kernel_rfl) ⟨hxw3.drew, H03.out.drew⟩ (fun hHeld => ?_)
  refine heldTake 0 (v := ?_) rfl (by kernel_rfl) (by kernel_rfl) (by kernel_rfl) (fun _ _ _ h => h) (Or.inl ⟨by rfl, ?_⟩) (by assumption) ?_
  rotate_left
  · (intro w' hSw; obtain ⟨hSa, hSb⟩ := hSw; obtain ⟨lS, cS, _, _⟩ := hSb.box; have hSS := Ext.refl w'; go_simp; try with_reducible rfl)
  simp only [Act.put, List.setIfInBounds_toArray, List.set_cons_zero, List.set_cons_succ]
  refine heldTake 1 (v := ?_) rfl (by kernel_rfl) (by kernel_rfl) (by kernel_rfl) (fun _ _ _ h => h) (Or.inl ⟨by rfl, ?_⟩) (by assumption) ?_
  rotate_left
  · (intro w' hSw; obtain ⟨hSa, hSb⟩ := hSw; obtain ⟨lS, cS, _, _⟩ := hSb.box; have hSS := Ext.refl w'; go_simp; try with_reducible rfl)
  simp only [Act.put, List.setIfInBounds_toArray, List.set_cons_zero, List.set_cons_succ]
  refine heldTake 3 (v := ?_) rfl (by kernel_rfl) (by kernel_rfl) (by kernel_rfl) (fun _ _ _ h => h) (Or.inl ⟨by rfl, ?_⟩) (by assumption) ?_
  rotate_left
  · (intro w' hSw; obtain ⟨hSa, hSb⟩ := hSw; obtain ⟨lS, cS, _, _⟩ := hSb.box; have hSS := Ext.refl w'; go_simp; try with_reducible rfl)
  simp only [Act.put, List.setIfInBounds_toArray, List.set_cons_zero, List.set_cons_succ]
  refine heldTake 4 (v := ?_) rfl (by kernel_rfl) (by kernel_rfl) (by kernel_rfl) (fun _ _ _ h => h) (Or.inl ⟨by rfl, ?_⟩) (by assumption) ?_
  rotate_left
  · (intro w' hSw; obtain ⟨hSa, hSb⟩ := hSw; obtain ⟨lS, cS, _, _⟩ := hSb.box; have hSS := Ext.refl w'; go_simp; try with_reducible rfl)
  simp only [Act.put, List.setIfInBounds_toArray, List.set_cons_zero, List.set_cons_succ]
  refine wpAnyH_ready (rs := [2]) (by kernel_rfl) (by simp) ?_
  refine AllReadyH.cons rfl (fun K hK => ?_) AllReadyH.nil
  go_simp
  go_at_call 80
  refine (HPL.out _ (hx.trans hxw3).drew).mono ?_
  rintro e w4 ⟨rfl, hx4⟩
  have H04 := Lib.hid (Hold.ext H03.out.drew hx4)
  have H14 := Lib.hid (Hold.ext H13.out.drew hx4)
  have H24 := Lib.hid (Hold.ext H23.out.drew hx4)
  have H34 := Lib.hid (Hold.ext H33.out.drew hx4)
  have hxw4 : Ext w w4 := hxw3.drew.trans hx4
  refine hK.out _ _ ⟨hxw4, H04.out⟩ (fun hHeld2 => ?_)
  clear hK K
  refine heldTake 6 (v := ?_) rfl (by kernel_rfl) (by kernel_rfl) (by kernel_rfl) (fun _ _ _ h => h) (Or.inl ⟨by rfl, ?_⟩) (by assumption) ?_
  rotate_left
  · (intro w' hSw; obtain ⟨hSa, hSb⟩ := hSw; obtain ⟨lS, cS, _, _⟩ := hSb.box; have hSS := Ext.refl w'; go_simp; try with_reducible rfl)
  simp only [Act.put, List.setIfInBounds_toArray, List.set_cons_zero, List.set_cons_succ]
  refine wpAnyH_ready (rs := [5]) (by kernel_rfl) (by simp) ?_
  refine AllReadyH.cons rfl (fun K hK => ?_) AllReadyH.nil
  go_simp
  go_at_call 80
  refine (HPR.out _ (hx.trans hxw4)).mono ?_
  rintro e w5 ⟨rfl, hx5⟩
  have H05 := Lib.hid (Hold.ext H04.out hx5)
  have H15 := Lib.hid (Hold.ext H14.out hx5)
  have H25 := Lib.hid (Hold.ext H24.out hx5)
  have H35 := Lib.hid (Hold.ext H34.out hx5)
  have hxw5 : Ext w w5 := hxw4.trans hx5
  refine hK.out _ _ ⟨hxw5, H05.out⟩ (fun hHeld2 => ?_)
  clear hK K
  obtain ⟨lp, cp, fp, _⟩ := (H35.out).box
  have hxx := Ext.refl w5
  refine wpAnyH_ready (rs := [7]) (by kernel_rfl) (by simp) ?_
  refine AllReadyH.cons rfl (fun K hK => ?_) AllReadyH.nil
  go_simp
  refine setw1 (w := w5) (G := fun x => K _ x) ?_
  intro w6 hw9
  have H36 := Lib.hid (show Hold w6 (w.heap.size + 1 + 1 + 1) #[.int .i64 4, .int .i64 p.num, .int .i64 pl, .int .i64 0, .string ⟨#[]⟩, .slice none 0 0] from by rw [hw9]; simpa using (H35.out).set 2 _)
  have H06 := Lib.hid (show Hold w6 w.heap.size #[.slice T.a T.n T.cap] from by rw [hw9]; exact (H05.out).other _ _ (by show w.heap.size ≠ w.heap.size + 1 + 1 + 1; omega))
  have H16 := Lib.hid (show Hold w6 (w.heap.size + 1) _ from by rw [hw9]; exact (H15.out).other _ _ (by show w.heap.size + 1 ≠ w.heap.size + 1 + 1 + 1; omega))
  have H26 := Lib.hid (show Hold w6 (w.heap.size + 1 + 1) #[.int .i64 0, .int .i64 0, .int .i64 0, .int .i64 0, .string ⟨#[]⟩, .slice none 0 0] from by rw [hw9]; exact (H25.out).other _ _ (by show w.heap.size + 1 + 1 ≠ w.heap.size + 1 + 1 + 1; omega))
  have hxw6 : Ext w w6 := by rw [hw9]; exact Ext.setCell hxw5 (by show w.heap.size ≤ w.heap.size + 1 + 1 + 1; omega) _
  clear hw9 lp cp fp hxx
  refine hK.out _ _ ⟨hxw6, (H06).out⟩ (fun hHeld2 => ?_)
  clear hK K
  refine heldTake 8 (v := ?_) rfl (by kernel_rfl) (by kernel_rfl) (by kernel_rfl) (fun _ _ _ h => h) (Or.inl ⟨by rfl, ?_⟩) (by assumption) ?_
  rotate_left
  · (intro w' hSw; obtain ⟨hSa, hSb⟩ := hSw; obtain ⟨lS, cS, _, _⟩ := hSb.box; have hSS := Ext.refl w'; go_simp; try with_reducible rfl)
  simp only [Act.put, List.setIfInBounds_toArray, List.set_cons_zero, List.set_cons_succ]
  obtain ⟨lp, cp, fp, _⟩ := (H36.out).box
  have hxx := Ext.refl w6
  refine wpAnyH_ready (rs := [9]) (by kernel_rfl) (by simp) ?_
  refine AllReadyH.cons rfl (fun K hK => ?_) AllReadyH.nil
  go_simp
  refine setw1 (w := w6) (G := fun x => K _ x) ?_
  intro w7 hw9
  have H37 := Lib.hid (show Hold w7 (w.heap.size + 1 + 1 + 1) #[.int .i64 4, .int .i64 p.num, .int .i64 pl, .int .i64 pr, .string ⟨#[]⟩, .slice none 0 0] from by rw [hw9]; simpa using (H36.out).set 3 _)
  have H07 := Lib.hid (show Hold w7 w.heap.size #[.slice T.a T.n T.cap] from by rw [hw9]; exact (H06.out).other _ _ (by show w.heap.size ≠ w.heap.size + 1 + 1 + 1; omega))
  have H17 := Lib.hid (show Hold w7 (w.heap.size + 1) _ from by rw [hw9]; exact (H16.out).other _ _ (by show w.heap.size + 1 ≠ w.heap.size + 1 + 1 + 1; omega))
  have H27 := Lib.hid (show Hold w7 (w.heap.size + 1 + 1) #[.int .i64 0, .int .i64 0, .int .i64 0, .int .i64 0, .string ⟨#[]⟩, .slice none 0 0] from by rw [hw9]; exact (H26.out).other _ _ (by show w.heap.size + 1 + 1 ≠ w.heap.size + 1 + 1 + 1; omega))
  have hxw7 : Ext w w7 := by rw [hw9]; exact Ext.setCell hxw6 (by show w.heap.size ≤ w.heap.size + 1 + 1 + 1; omega) _
  clear hw9 lp cp fp hxx
  refine hK.out _ _ ⟨hxw7, (H07).out⟩ (fun hHeld2 => ?_)
  clear hK K
  refine wpAnyH_done (by kernel_rfl) ?_ _
  obtain ⟨l5, c5, f5, _⟩ := H37.out.box
  obtain ⟨l6, c6, f6, _⟩ := H27.out.box
  have hx77 : Ext w7 w7 := Ext.refl _
  clear l0 c0 f0 l1 c1 f1 l2 c2 f2 l3 c3 f3
  cases is with
  | false =>
    have HC := Lib.hid (HBAD.out (fun h => by rw [← HIS.out] at h; cases h.1))
    go_wp2_with fail
    have hk9 := Hold.all6 H27.out (.int .i64 0) (.int .i64 0) (.int .i64 0) (.int .i64 0) (.string ⟨#[]⟩) (.slice none 0 0)
    refine bodyPost_ret (rr_results _ _ (w.heap.size + 1 + 1) _ _ _ _ _ _ _ rfl rfl (hk9.cell0 0) (hk9.cell0 1) (hk9.cell0 2) (hk9.cell0 3) (hk9.cell0 4) (hk9.cell0 5)) rfl ?_
    exact ⟨(hxw7).put6 (by omega) 0 _ _ _ _ _ _, zeroR, false, rfl, zeroR_held _ _, ⟨(fun h => by cases h), fun h => absurd h HC.out⟩, (fun h => by cases h), fun _ => zeroR_like⟩
  | true =>
    obtain ⟨hb1, hb2, hb3⟩ := HBG.out rfl
    rw [hb2, hb3] at HBAD HGOOD
    have HB1 := Lib.hid hb1
    clear hb1 hb2 hb3
    by_cases h1 : 0 ≤ pl
    · by_cases h2 : 0 ≤ pr
      · by_cases h3 : pl = pr
        · have d3 : (pl == pr) = true := by simp [h3]
          have HC := Lib.hid (HBAD.out (fun h => h.2.2.2 h3))
          clear h3
          go_wp2_with fail
          have hk9 := Hold.all6 H27.out (.int .i64 0) (.int .i64 0) (.int .i64 0) (.int .i64 0) (.string ⟨#[]⟩) (.slice none 0 0)
          refine bodyPost_ret (rr_results _ _ (w.heap.size + 1 + 1) _ _ _ _ _ _ _ rfl rfl (hk9.cell0 0) (hk9.cell0 1) (hk9.cell0 2) (hk9.cell0 3) (hk9.cell0 4) (hk9.cell0 5)) rfl ?_
          exact ⟨(hxw7).put6 (by omega) 0 _ _ _ _ _ _, zeroR, false, rfl, zeroR_held _ _, ⟨(fun h => by cases h), fun h => absurd h HC.out⟩, (fun h => by cases h), fun _ => zeroR_like⟩
        · have d3 : (pl == pr) = false := by simp [h3]
          have HC := Lib.hid (HGOOD.out ⟨HB1.out, h1, h2, h3⟩).1
          have HR := Lib.hid (HGOOD.out ⟨HB1.out, h1, h2, h3⟩).2
          clear h3
          go_upto_region 19 with fail
          obtain ⟨l7, c7, f7, _⟩ := (H37.out).box
          obtain ⟨l8, c8, f8, _⟩ := (H27.out).box
          obtain ⟨l9, c9, f9, _⟩ := (H17.out).box
          go_wp2_with fail
          go_loopg [13, 14, 15] 0 (fun gg v v14 v15 wr => gg = 0 ∧ v = .int .i64 0 ∧ (∃ u, v14 = u) ∧ (∃ u, v15 = u) ∧ wr = w7)
          case atStart => exact ⟨rfl, rfl, ⟨_, rfl⟩, ⟨_, rfl⟩, rfl⟩
          case round =>
            obtain ⟨rfl, rfl, ⟨u1, rfl⟩, ⟨u2, rfl⟩, rfl⟩ := hrel
            go_wp2_with fail
            have hk9 := Hold.all6 H27.out (.int .i64 4) (.int .i64 p.num) (.int .i64 pl) (.int .i64 pr) (.string ⟨#[]⟩) (.slice none 0 0)
            refine bodyPost_ret (rr_results _ _ (w.heap.size + 1 + 1) _ _ _ _ _ _ _ rfl rfl (hk9.cell0 0) (hk9.cell0 1) (hk9.cell0 2) (hk9.cell0 3) (hk9.cell0 4) (hk9.cell0 5)) rfl ?_
            exact ⟨(hxw7).put6 (by omega) 0 _ _ _ _ _ _, Pr.leafQ 4 p.num pl pr ⟨#[]⟩ none 0, true, rfl, Pr.leafQ_held ok4' HF.out.numI HOL.out HOR.out HSZ.out _ _, ⟨fun _ => HC.out, fun _ => rfl⟩, fun _ => HR.out _ _, (fun h => by cases h)⟩
      · have HC := Lib.hid (HBAD.out (fun h => h2 h.2.2.1))
        go_wp2_with fail
        have hk9 := Hold.all6 H27.out (.int .i64 0) (.int .i64 0) (.int .i64 0) (.int .i64 0) (.string ⟨#[]⟩) (.slice none 0 0)
        refine bodyPost_ret (rr_results _ _ (w.heap.size + 1 + 1) _ _ _ _ _ _ _ rfl rfl (hk9.cell0 0) (hk9.cell0 1) (hk9.cell0 2) (hk9.cell0 3) (hk9.cell0 4) (hk9.cell0 5)) rfl ?_
        exact ⟨(hxw7).put6 (by omega) 0 _ _ _ _ _ _, zeroR, false, rfl, zeroR_held _ _, ⟨(fun h => by cases h), fun h => absurd h HC.out⟩, (fun h => by cases h), fun _ => zeroR_like⟩
    · have HC := Lib.hid (HBAD.out (fun h => h1 h.2.1))
      go_wp2_with fail
      have hk9 := Hold.all6 H27.out (.int .i64 0) (.int .i64 0) (.int .i64 0) (.int .i64 0) (.string ⟨#[]⟩) (.slice none 0 0)
      refine bodyPost_ret (rr_results _ _ (w.heap.size + 1 + 1) _ _ _ _ _ _ _ rfl rfl (hk9.cell0 0) (hk9.cell0 1) (hk9.cell0 2) (hk9.cell0 3) (hk9.cell0 4) (hk9.cell0 5)) rfl ?_
      exact ⟨(hxw7).put6 (by omega) 0 _ _ _ _ _ _, zeroR, false, rfl, zeroR_held _ _, ⟨(fun h => by cases h), fun h => absurd h HC.out⟩, (fun h => by cases h), fun _ => zeroR_like⟩

end Go.Proofs.YtdplphoohnnbcaaGreatDoor
