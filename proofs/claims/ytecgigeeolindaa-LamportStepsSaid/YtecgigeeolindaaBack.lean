/- Contracts: causality's known.event and known.back. -/
import Derived.Test.YtecgigeeolindaaKnow
import Derived.Test.YtecgigeeolindaaReg
import Derived.Test.YtecgigeeolindaaQue
namespace Go.Proofs.Ytecgigeeolindaa
open Go.RowKit Go.Shelf

theorem event_results (tmps : Array Value) (W : World) (b : Nat) (x0 x1 x2 x3 x4 : Value) (t4 : tmps[4]? = some (.pointer (some ⟨b, 0, none⟩))) (c0 : W.cell? ⟨b, 0, none⟩ = some x0) (c1 : W.cell? ⟨b, 1, none⟩ = some x1) (c2 : W.cell? ⟨b, 2, none⟩ = some x2) (c3 : W.cell? ⟨b, 3, none⟩ = some x3) (c4 : W.cell? ⟨b, 4, none⟩ = some x4) :
    (results Try.f92 tmps).run Try.prog W = .ok (.agg #[x0, x1, x2, x3, x4]) W := by
  simp [results, go_sem, t4, c0, c1, c2, c3, c4]
set_option maxRecDepth 100000 in
set_option maxHeartbeats 1000000 in
theorem event_any (w : World) (T : TM) (hT : T.At w) (p i : Nat) (hp : p < T.n) (hi : i < T.en p) (bs br : Nat) :
    Calls Try.prog 92 #[T.kn bs br, .agg #[.int .i64 p, .int .i64 (i + 1)]] w fun e w' => e = .returned (T.ev p i) ∧ Ext w w' := by
  have pa := hT.P.pa (by omega)
  have pb := hT.P.pb (by omega)
  have p2 := hT.P.p2
  have e0 := hT.E.e0
  have e1 := hT.E.e1
  have e2 := hT.E.e2
  have e3 := hT.E.e3
  have e4 := hT.E.e4
  have ea := hT.E.ea p hp (by omega)
  have eb := hT.E.eb p hp (by omega)
  have hn := hT.P.hn
  have hen := hT.E.he p hp
  have hp' : (p : Int) < (T.n : Int) := by omega
  have hi' : (i : Int) < (T.en p : Int) := by omega
  have hw1 : IntKind.i64.wrap (i : Int) = (i : Int) := IntWalk.i64_in _ (by omega)
  clear hT
  go_enter Try.func92, Try.ntmps92
  go_upto_region 1 with fail
  refine boxed3 (w := w) (G := fun x => Code.wp _ _ _ _ x) ?_
  intro w1 hx1 hs1 ⟨l0, c0, _, _⟩ ⟨l1, c1, _, _⟩ ⟨l2, c2, f2, k2⟩
  have hx11 : Ext w1 w1 := Ext.refl _
  clear hs1
  refine wp_region_reads 13 (by kernel_rfl) (by kernel_rfl) ?_
  simp only [List.take_succ_cons, List.take_zero]
  repeat still_step
  refine wpStill_nil ?_
  refine wpAny_ready (rs := [13]) (by kernel_rfl) (by simp) ?_
  refine AllReady.cons rfl (fun K hK => ?_) AllReady.nil
  go_simp
  refine hK _ _ ?_; clear hK K
  refine wpAny_done (by kernel_rfl) ?_ _
  have g4 := ((((Hold.set (show Hold w1 (w.heap.size + 1 + 1) _ from k2) 0 (.int .i64 (T.kind p i))).set 1 (.int .i64 (T.peer p i))).set 2 (.int .i64 (T.msg p i))).set 3 (.int .i64 (T.time p i))).set 4 (.slice (T.aa p i) (T.an p i) (T.ac p i))
  have G4 := Lib.hid g4.drew
  clear g4 k2 c0 c1 c2 l0 l1 l2 f2 e0 e1 e2 e3 e4 p2 pb eb
  go_wp2_with fail
  try simp only [Exit.inBlock, Exit.then]
  refine bodyPost_ret (event_results _ _ _ _ _ _ _ _ rfl (G4.out.cell0 0) (G4.out.cell0 1) (G4.out.cell0 2) (G4.out.cell0 3) (G4.out.cell0 4)) rfl ?_
  refine ⟨rfl, ?_⟩
  have hb : w.heap.size ≤ w.heap.size + 1 + 1 := by omega
  exact (Ext.setCell (Ext.setCell (Ext.setCell (Ext.setCell (Ext.setCell hx1 hb _) hb _) hb _) hb _) hb _).drew

/-- the events directly before an event -/
noncomputable def Tr.bk (T : Tr) (x : NN) : List NN := (if 0 < x.2 then [(x.1, x.2 - 1)] else []) ++ (if T.kind x.1 x.2 = 3 then [T.sndN x] else [])
def BackPost (w : World) (l : List (Int × Int)) (e : Ending) (w' : World) : Prop := ∃ v, e = .returned v ∧ EvOwn w' w.heap.size v l ∧ Ext w w'
set_option maxRecDepth 100000 in
set_option maxHeartbeats 1000000 in
theorem back_any (w : World) (T : TM) (hT : T.At w) (hV : T.toTr.Valid) (p i : Nat) (hp : p < T.n) (hi : i < T.en p) (bs br : Nat) (hK : KnAt T bs br w) :
    Calls Try.prog 78 #[T.kn bs br, .agg #[.int .i64 p, .int .i64 (i + 1)]] w (BackPost w ((T.toTr.bk (p, i)).map evI)) := by
  obtain ⟨i0, hi0, hz0, hz1, hz2⟩ := info_parts infoEv
  have pa := hT.P.pa (by omega)
  have hen := hT.E.he p hp
  have hE := fun W (hx : Ext w W) => event_any W T (hT.ext hx) p i hp hi bs br
  have hL := fun (h3 : T.kind p i = 3) W (hx : Ext w W) => (hK.ext hx).look hV ⟨(p, i), hp, hi⟩ h3
  simp only [TM.kn, pa] at hE
  have HE := Lib.hid hE
  have HL := Lib.hid hL
  clear hT hV hK hE hL
  go_enter Try.func78, Try.ntmps78
  go_upto_region 1 with fail
  refine boxed2 (w := w) (G := fun x => Code.wp _ _ _ _ x) ?_
  intro w1 hx1 hs1 ⟨l0, c0, _, _⟩ ⟨l1, c1, _, _⟩
  have hx11 : Ext w1 w1 := Ext.refl _
  clear hs1
  by_cases h0 : 0 < i
  · have d0 : decide ((1 : Int) < (i : Int) + 1) = true := decide_eq_true (by omega)
    go_upto_region 4 with (at_builtin; refine wpList_append_own _ rfl _ _ 37 rfl w1.heap.size 31 i0 (.agg #[.int .i64 0, .int .i64 0]) 2 16 Try.underlying37 hi0 hz0 hz1 hz2 rfl (by decide) (.slice none 0 0) 0 [] rfl (World.ownsRow_nil _ _ _ _) ⟨w1.heap.size, 0, none⟩ 1 1 [.int .i64 p, .int .i64 i] rfl rfl (by exact news_ok w1 [_, _] _) (by intro u hu; simp at hu; rcases hu with rfl | rfl <;> rfl) (by unfold maxLen; omega) (by omega) (by simp) ?_; rintro v3 w3 hown3 hg3 -)
    have hx3 : Ext w1 w3 := ((Below.refl _ w1).alloc (Nat.le_refl _) _).grown hg3 (by simp) (fun k e => by cases e)
    have HO3 := Lib.hid (EvOwn.snoc (l := []) hown3)
    have hx13 := hx1.trans hx3
    clear hown3 hg3
    have HB := Lib.hid (show (if 0 < i then [(p, i - 1)] else ([] : List NN)).map evI = [((p : Int), (i : Int))] by rw [if_pos h0]; simp [evI]; omega)
    go_upto_region 5 with (go_at_call 92; refine (HE.out _ hx13).mono ?_; rintro e w4 ⟨rfl, hx4⟩)
    refine boxed1 (w := w4) (G := fun x => Code.wp _ _ _ _ x) ?_
    intro w5 hx5 hs5 ⟨l5, c5, _, _⟩
    have hx55 : Ext w5 w5 := Ext.refl _
    clear hs5
    have hx15 : Ext w1 w5 := hx3.trans (hx4.trans hx5)
    have hx05 : Ext w w5 := hx13.trans (hx4.trans hx5)
    have HO5 := Lib.hid (HO3.out.kept (hx4.trans hx5))
    by_cases hk3 : T.kind p i = 3
    · have hlk := HL.out hk3 w5 hx05
      obtain ⟨⟨sp, si⟩, hsn⟩ : ∃ s, s = (T.toTr.snd ⟨(p, i), hp, hi⟩).1 := ⟨_, rfl⟩
      rw [← hsn] at hlk
      simp only [evV] at hlk
      have HS := Lib.hid (show (if T.kind p i = 3 then [T.toTr.sndN (p, i)] else ([] : List NN)).map evI = [((sp : Int), (si : Int) + 1)] by
        rw [if_pos hk3, show T.toTr.sndN (p, i) = (sp, si) from (Tr.sndN_eq _ ⟨(p, i), hp, hi⟩).trans hsn.symm]; rfl)
      clear hsn
      go_wp2_with (at_builtin; refine wpList_append_own _ rfl _ _ 37 rfl w1.heap.size 31 i0 (.agg #[.int .i64 0, .int .i64 0]) 2 16 Try.underlying37 hi0 hz0 hz1 hz2 rfl (by decide) v3 1 (evCells [((p : Int), (i : Int))]) rfl (by exact HO5.out.alloc _) ⟨w5.heap.size, 0, none⟩ 1 1 [.int .i64 sp, .int .i64 (si + 1)] rfl rfl (by exact news_ok w5 [_, _] _) (by intro u hu; simp at hu; rcases hu with rfl | rfl <;> rfl) (by unfold maxLen; omega) (by omega) (by have := hx15.le; simp; omega) ?_; rintro v6 w6 hown6 hg6 -)
      go_ret
      refine ⟨_, rfl, ?_, ?_⟩
      · unfold Tr.bk
        rw [List.map_append, HB.out, HS.out]
        exact World.ownsRow.mono (EvOwn.snoc (l := [((p : Int), (i : Int))]) hown6) hx1.le
      · exact hx1.trans (((Below.mono hx15 (Nat.le_refl _)).alloc hx15.le _).grown hg6 (by have := hx15.le; simp; omega) HO5.out.block)
    · have hk3b : (T.kind p i == 3) = false := by simpa using hk3
      have HS := Lib.hid (show (if T.kind p i = 3 then [T.toTr.sndN (p, i)] else ([] : List NN)).map evI = [] by rw [if_neg hk3]; rfl)
      go_wp2_with fail
      go_ret
      refine ⟨_, rfl, ?_, hx05⟩
      unfold Tr.bk
      rw [List.map_append, HB.out, HS.out, List.append_nil]
      exact World.ownsRow.mono HO5.out hx1.le
  · have d0 : decide ((1 : Int) < (i : Int) + 1) = false := decide_eq_false (by omega)
    have HO3 := Lib.hid (EvOwn.nil w1 w1.heap.size)
    have HB := Lib.hid (show (if 0 < i then [(p, i - 1)] else ([] : List NN)).map evI = [] by rw [if_neg h0]; rfl)
    go_upto_region 5 with (go_at_call 92; refine (HE.out _ hx1).mono ?_; rintro e w4 ⟨rfl, hx4⟩)
    refine boxed1 (w := w4) (G := fun x => Code.wp _ _ _ _ x) ?_
    intro w5 hx5 hs5 ⟨l5, c5, _, _⟩
    have hx55 : Ext w5 w5 := Ext.refl _
    clear hs5
    have hx15 : Ext w1 w5 := hx11.trans (hx4.trans hx5)
    have hx05 : Ext w w5 := hx1.trans (hx4.trans hx5)
    have HO5 := Lib.hid (HO3.out.kept (hx4.trans hx5))
    by_cases hk3 : T.kind p i = 3
    · have hlk := HL.out hk3 w5 hx05
      obtain ⟨⟨sp, si⟩, hsn⟩ : ∃ s, s = (T.toTr.snd ⟨(p, i), hp, hi⟩).1 := ⟨_, rfl⟩
      rw [← hsn] at hlk
      simp only [evV] at hlk
      have HS := Lib.hid (show (if T.kind p i = 3 then [T.toTr.sndN (p, i)] else ([] : List NN)).map evI = [((sp : Int), (si : Int) + 1)] by
        rw [if_pos hk3, show T.toTr.sndN (p, i) = (sp, si) from (Tr.sndN_eq _ ⟨(p, i), hp, hi⟩).trans hsn.symm]; rfl)
      clear hsn
      go_wp2_with (at_builtin; refine wpList_append_own _ rfl _ _ 37 rfl w1.heap.size 31 i0 (.agg #[.int .i64 0, .int .i64 0]) 2 16 Try.underlying37 hi0 hz0 hz1 hz2 rfl (by decide) (.slice none 0 0) 0 (evCells ([] : List (Int × Int))) rfl (by exact HO5.out.alloc _) ⟨w5.heap.size, 0, none⟩ 1 1 [.int .i64 sp, .int .i64 (si + 1)] rfl rfl (by exact news_ok w5 [_, _] _) (by intro u hu; simp at hu; rcases hu with rfl | rfl <;> rfl) (by unfold maxLen; omega) (by omega) (by have := hx15.le; simp; omega) ?_; rintro v6 w6 hown6 hg6 -)
      go_ret
      refine ⟨_, rfl, ?_, ?_⟩
      · unfold Tr.bk
        rw [List.map_append, HB.out, HS.out]
        exact World.ownsRow.mono (EvOwn.snoc (l := ([] : List (Int × Int))) hown6) hx1.le
      · exact hx1.trans (((Below.mono hx15 (Nat.le_refl _)).alloc hx15.le _).grown hg6 (by have := hx15.le; simp; omega) HO5.out.block)
    · have hk3b : (T.kind p i == 3) = false := by simpa using hk3
      have HS := Lib.hid (show (if T.kind p i = 3 then [T.toTr.sndN (p, i)] else ([] : List NN)).map evI = [] by rw [if_neg hk3]; rfl)
      go_wp2_with fail
      go_ret
      refine ⟨_, rfl, ?_, hx05⟩
      unfold Tr.bk
      rw [List.map_append, HB.out, HS.out, List.append_nil]
      exact World.ownsRow.mono HO5.out hx1.le

end Go.Proofs.Ytecgigeeolindaa
