/- Contract: causality.Order. -/
import Derived.Test.YtecgigeeolindaaOrdP
namespace Go.Proofs.Ytecgigeeolindaa
open Go.RowKit Go.Shelf

theorem infoSet : (Try.prog.info? 94).map (fun i => (i.zero, i.size, i.bytes)) = some (some (.agg #[.int .i64 0, .slice none 0 0]), 2, 32) := by kernel_rfl
/-- all that lay when the rows were made: the boxes, what is known, the list of events -/
structure OrdB (T : TM) (w : World) (bk bs br : Nat) (v6 : Value) (wr : World) : Prop where
  h0 : Hold wr w.heap.size #[.slice (some ⟨T.b, T.off, none⟩) T.n T.cap]
  h1 : Hold wr (w.heap.size + 1) #[.slice none 0 0]
  hk : Hold wr bk #[.slice (some ⟨T.b, T.off, none⟩) T.n T.cap, .map (some bs), .map (some br)]
  kn : KnAt T bs br wr
  ev : EvOwn wr (w.heap.size + 1 + 1) v6 (T.toTr.evs.map fun x => evI x.1)
  bl : Ext w wr
theorem OrdB.below {T : TM} {w : World} {bk bs br : Nat} {v6 : Value} {wr w' : World} (h : OrdB T w bk bs br v6 wr) {B : Nat} {W : World} (x : Below B W w') (hB : wr.heap.size ≤ B) (e : Below B wr W) : OrdB T w bk bs br v6 w' := by
  have y : Ext wr w' := Below.mono (Below.trans e x) hB
  exact ⟨h.h0.ext y, h.h1.ext y, h.hk.ext y, h.kn.ext y, h.ev.kept y, h.bl.trans y⟩
theorem OrdB.ext {T : TM} {w : World} {bk bs br : Nat} {v6 : Value} {wr w' : World} (h : OrdB T w bk bs br v6 wr) (y : Ext wr w') : OrdB T w bk bs br v6 w' :=
  ⟨h.h0.ext y, h.h1.ext y, h.hk.ext y, h.kn.ext y, h.ev.kept y, h.bl.trans y⟩
theorem OrdB.fin {T : TM} {w w1 w4 wx : World} {bz bs br base : Nat} {v6 : Value} {c : Array Value} (hs1 : w1.heap.size = w.heap.size + 1 + 1) (x1 : Ext w w1)
    (k0 : Hold w1 w.heap.size #[.slice (some ⟨T.b, T.off, none⟩) T.n T.cap]) (k1 : Hold w1 (w.heap.size + 1) #[.slice none 0 0]) (x4 : Ext w1 w4) (hz : Hold w4 bz c) (hzb : w1.heap.size ≤ bz)
    (kn : KnAt T bs br w4) (ev : EvOwn w4 base v6 (T.toTr.evs.map fun x => evI x.1)) (hb : w1.heap.size ≤ base) (hne : v6.ownBlock ≠ some bz) (ho : Only bz w4 wx)
    (hk : Hold wx bz #[.slice (some ⟨T.b, T.off, none⟩) T.n T.cap, .map (some bs), .map (some br)]) : OrdB T w bz bs br v6 wx := by
  have hmap : ∀ b L, MapAt w4 b L → b ≠ bz := by
    intro b L ⟨es, cl, h1, _⟩ e
    obtain ⟨t, h2⟩ := hz
    rw [e, h2] at h1; cases h1
  refine ⟨ho.hold (k0.ext x4) (by omega), ho.hold (k1.ext x4) (by omega), hk, ⟨kn.s.same (ho.block _ (hmap _ _ kn.s)), kn.r.same (ho.block _ (hmap _ _ kn.r))⟩, ?_, Below.trans (x1.trans x4) (ho.below (by have := x1.le; omega))⟩
  exact World.ownsRow.mono (EvOwn.same ev fun g e => ho.block g (fun e' => hne (e' ▸ e))) (by omega)
theorem own_slice2 {w : World} {base : Nat} {t : TypeId} {v : Value} {n : Nat} {xs : List Value} (h : w.ownsRow base t 2 v (n + 1) xs) : ∃ a c, v = .slice a (n + 1) c := by
  obtain ⟨_, ⟨hv, hn⟩ | ⟨g, cap, cur, hv, _⟩⟩ := h
  · omega
  · exact ⟨_, _, hv⟩
theorem order_results (tmps : Array Value) (W : World) (b : Nat) (x z : Value) (t2 : tmps[2]? = some (.pointer (some ⟨b, 0, none⟩))) (t3 : tmps[3]? = some z) (c : W.cell? ⟨b, 0, none⟩ = some x) :
    (results Try.f48 tmps).run Try.prog W = .ok (.tuple #[.agg #[x], z]) W := by
  simp [results, go_sem, t2, t3, c]
theorem drewd {w : World} {n : Nat} {G : World → Prop} (h : ∀ w', Ext w w' → G w') : G (w.drewN n) := h _ ((Ext.refl _).drewN _)
theorem Box.newD {w W : World} {c : Array Value} {t : TypeId} (h : Ext (w.drew.alloc (.cells c t)) W) : Box W w.heap.size c := Box.ext (Hold.new w.drew c t).box h
theorem Box.newP {w W : World} {c : Array Value} {t : TypeId} (h : Ext (w.alloc (.cells c t)) W) : Box W w.heap.size c := Box.ext (Hold.new w c t).box h
def OrderPost (T : TM) (w : World) (e : Ending) (w' : World) : Prop := Ext w w' ∧ ∃ a g cap S, e = .returned (.tuple #[.agg #[.slice a T.toTr.evs.length cap], .int .i64 0]) ∧ RelAt a g T.toTr.evs.length cap S T.toTr.bef w'
set_option maxRecDepth 100000 in
set_option maxHeartbeats 4000000 in
theorem order_any (w : World) (T : TM) (hT : T.At w) (hV : T.toTr.Valid) (hN : T.toTr.evs.length ≤ 100) :
    Calls Try.prog 48 #[T.val] w (OrderPost T w) := by
  obtain ⟨i0, hi0, hz0, hz1, hz2⟩ := info_parts infoInts
  obtain ⟨j0, hj0, hy0, hy1, hy2⟩ := info_parts infoInt
  obtain ⟨s0, hs0, hq0, hq1, hq2⟩ := info_parts infoSet
  have hn1 := hV.n1
  have pa := hT.P.pa (by omega)
  have HT := Lib.hid hT
  have HV := Lib.hid hV
  clear hT hV
  go_enter Try.func48, Try.ntmps48
  go_upto_region 1 with fail
  refine boxed2 (w := w) (G := fun x => Code.wp _ _ _ _ x) ?_
  intro w1 hx1 hs1 ⟨l0, c0, _, k0⟩ ⟨l1, c1, _, k1⟩
  have hx11 : Ext w1 w1 := Ext.refl _
  have hC := check_nil w1 T (HT.out.ext hx1) 0 (.inl ⟨HV.out, rfl⟩)
  simp only [TM.val, pa] at hC
  have HK0 := Lib.hid k0
  have HK1 := Lib.hid k1
  clear k0 k1
  go_upto_region 4 with (go_at_call 41; refine hC.mono ?_; rintro e w2 ⟨rfl, hx2⟩)
  clear hC
  have hKn := fun W (h : Ext w1 W) => knows_any W T (HT.out.ext (hx1.trans h)) HV.out
  have hEv := fun W (h : Ext w1 W) => cevents_any W T (HT.out.ext (hx1.trans h)) HV.out
  simp only [TM.val, pa] at hKn hEv
  have HKn := Lib.hid hKn
  have HEv := Lib.hid hEv
  clear hKn hEv
  have HS1 := Lib.hid hs1
  clear hs1
  go_cut [5, 6] (fun s5 s6 wx => ∃ bk bs br, s5 = .pointer (some ⟨bk, 0, none⟩) ∧ OrdB T w bk bs br s6 wx)
  case first =>
    go_region_with (first | (go_at_call 43; refine (HKn.out _ (by repeat first | exact hx2 | exact hx14 | refine Ext.drew ?_ | refine Ext.alloc' ?_ _)).mono ?_; rintro e w3 ⟨hx3, bs, br, rfl, hkn⟩; have hx13 : Ext w1 w3 := Ext.trans (by repeat first | exact hx2 | exact hx14 | refine Ext.drew ?_ | refine Ext.alloc' ?_ _) hx3; have HKN := Lib.hid hkn; have hx33 : Ext w3 w3 := Ext.refl _; clear hkn; first | (have hz9 := Box.newD hx3; have HZ := Lib.hid hz9; obtain ⟨lz, cz, fz, kz⟩ := hz9) | (have hz9 := Box.newP hx3; have HZ := Lib.hid hz9; obtain ⟨lz, cz, fz, kz⟩ := hz9) | (have hz9 := Box.ext HZ.out hx3; have HZ := Lib.hid hz9; obtain ⟨lz, cz, fz, kz⟩ := hz9) | skip) | (go_at_call 64; refine (HEv.out _ (by repeat first | exact hx2 | exact hx13 | refine Ext.drew ?_ | refine Ext.alloc' ?_ _)).mono ?_; rintro e w4 ⟨hx4, v6, rfl, hev⟩; have hx14 : Ext w1 w4 := Ext.trans (by repeat first | exact hx2 | exact hx13 | refine Ext.drew ?_ | refine Ext.alloc' ?_ _) hx4; have HEV := Lib.hid hev; have hx44 : Ext w4 w4 := Ext.refl _; clear hev; first | (have hz9 := Box.newD hx4; have HZ := Lib.hid hz9; obtain ⟨lz, cz, fz, kz⟩ := hz9) | (have hz9 := Box.newP hx4; have HZ := Lib.hid hz9; obtain ⟨lz, cz, fz, kz⟩ := hz9) | (have hz9 := Box.ext HZ.out hx4; have HZ := Lib.hid hz9; obtain ⟨lz, cz, fz, kz⟩ := hz9) | skip))
    all_goals (go_wp2_with fail)
    all_goals go_meet
    all_goals first
      | exact ⟨_, bs, br, rfl, OrdB.fin HS1.out hx1 HK0.out HK1.out hx14 kz (by have h2 := hx3.le; have h3 := hx2.le; simp at h2; omega) (HKN.out.ext ((Ext.refl _).trans hx4)) HEV.out (by have h2 := hx3.le; have h3 := hx2.le; simp at h2; first | omega | (simp; omega)) (by intro e; have h1 := HEV.out.block _ e; have h2 := hx3.le; simp at h1 h2; omega) (((Only.set _ _ _ _).trans (Only.set _ _ _ _)).trans (Only.set _ _ _ _)) (((Hold.set kz 0 _).set 1 _).set 2 _)⟩
      | exact ⟨_, bs, br, rfl, OrdB.fin HS1.out hx1 HK0.out HK1.out hx14 kz (by have h2 := hx3.le; have h3 := hx2.le; simp at h2; omega) (HKN.out.ext ((Ext.alloc _ _).trans hx4)) HEV.out (by have h2 := hx3.le; have h3 := hx2.le; simp at h2; first | omega | (simp; omega)) (by intro e; have h1 := HEV.out.block _ e; have h2 := hx3.le; simp at h1 h2; omega) (((Only.set _ _ _ _).trans (Only.set _ _ _ _)).trans (Only.set _ _ _ _)) (((Hold.set kz 0 _).set 1 _).set 2 _)⟩
      | exact ⟨_, bs, br, rfl, ⟨Hold.ext HK0.out (hx14.alloc' _), Hold.ext HK1.out (hx14.alloc' _), Hold.new _ _ _, HKN.out.ext (hx4.alloc' _), World.ownsRow.mono (EvOwn.kept HEV.out (Ext.alloc _ _)) (by have h2 := hx13.le; have := HS1.out; omega), hx1.trans (hx14.alloc' _)⟩⟩
  case rest =>
    obtain ⟨bk, bs, br, rfl, hB⟩ := hcut
    obtain ⟨N, hNe⟩ : ∃ N, N = T.toTr.evs.length := ⟨_, rfl⟩
    obtain ⟨aa, acap, ab, hv6, hac, hapa, hapb, hac0, hac1⟩ := hB.ev.read
    rw [List.length_map, ← hNe] at hv6 hac hapa hapb
    rw [← hNe] at hN
    have ev0 : ∀ w', Ext wc w' → ∀ k, k < N → w'.cell? ⟨ab, k * 2, none⟩ = some (.int .i64 (T.toTr.evN k).1) := fun w' h k hk => by
      rw [hac0 w' h k (by rw [List.length_map]; omega), T.toTr.evN_get k (by omega)]; simp [evI]
    have ev1 : ∀ w', Ext wc w' → ∀ k, k < N → w'.cell? ⟨ab, k * 2 + 1, none⟩ = some (.int .i64 ((T.toTr.evN k).2 + 1)) := fun w' h k hk => by
      rw [hac1 w' h k (by rw [List.length_map]; omega), T.toTr.evN_get k (by omega)]; simp [evI]
    subst hv6
    have EV0 := Lib.hid ev0
    have EV1 := Lib.hid ev1
    clear ev0 ev1
    have HB := Lib.hid hB
    have HNE := Lib.hid hNe
    have hwc := hB.bl
    have hcc : Ext wc wc := Ext.refl _
    obtain ⟨lk, ck, _, _⟩ := hB.hk.box
    clear hB hNe hac0 hac1 hx11 hx2 c0 c1 l0 l1
    go_upto_region 6 with (at_make; refine wpList_make_full _ rfl _ _ 34 rfl wc.heap.size 41 i0 (.slice none 0 0) 1 Try.underlying34 hi0 hz0 hz1 .i64 .i64 _ _ N rfl rfl rfl rfl (by rw [hz2]; omega) (by unfold maxLen; omega) (Nat.le_refl _) ?_; intro w3 hown3 hg3)
    have hx3 : Ext wc w3 := (Below.refl _ _).grown hg3 (Nat.le_refl _) (by simp)
    have HS3 := Lib.hid (StS.made hown3 (by omega))
    clear hown3 hg3
    go_wp2_with fail
    go_loopg [33] N (fun gg v wr => ∃ j : Nat, j ≤ N ∧ gg = N - j ∧ v = .int .i64 j ∧ Ext wc wr ∧ ∃ vs, StS wc.heap.size wc.heap.size N (T.toTr.lat j) vs wr)
    case atStart => exact ⟨0, by omega, rfl, rfl, hx3, _, HS3.out.congr fun k _ => (Tr.lat_zero _ _).symm⟩
    case round =>
      obtain ⟨j, hj, rfl, rfl, hxr, vs, hst⟩ := hrel
      have hrr : Ext wr wr := Ext.refl _
      have HST := Lib.hid hst
      clear hst
      by_cases hlt : j < N
      · have hlt' : (j : Int) < (N : Int) := by omega
        obtain rfl := hapa (by omega)
        have hapb := hapb (by omega)
        have hVy := T.toTr.evN_V j (by have := HNE.out; omega)
        obtain ⟨⟨yp, yi⟩, hy⟩ : ∃ y, y = T.toTr.evN j := ⟨_, rfl⟩
        have ey0 : ∀ w', Ext wc w' → w'.cell? ⟨ab, j * 2, none⟩ = some (.int .i64 yp) := fun w' h => by rw [EV0.out w' h j hlt, ← hy]
        have ey1 : ∀ w', Ext wc w' → w'.cell? ⟨ab, j * 2 + 1, none⟩ = some (.int .i64 (yi + 1)) := fun w' h => by rw [EV1.out w' h j hlt, ← hy]
        rw [← hy] at hVy
        have HY := Lib.hid hy
        have HVY := Lib.hid hVy
        clear hVy hy
        go_upto_region 9 with fail
        refine boxed1 (w := wr) (G := fun x => Code.wp _ _ _ _ x) ?_
        intro w4 hx4 hs4 ⟨l4, c4, _, k4⟩
        have hx44 : Ext w4 w4 := Ext.refl _
        have hxc4 : Ext wc w4 := hxr.trans hx4
        have hP : Calls Try.prog 61 #[.agg #[.slice (some ⟨T.b, T.off, none⟩) T.n T.cap, .map (some bs), .map (some br)], .agg #[.int .i64 yp, .int .i64 (yi + 1)]] w4 (PastPost T (yp, yi) w4) := by
          have := past_any w4 T (HT.out.ext (hwc.trans hxc4)) HV.out (yp, yi) HVY.out bs br (HB.out.kn.ext hxc4)
          simp only [TM.kn, pa] at this
          exact this
        go_wp2_with (go_at_call 61; refine hP.mono ?_; rintro e w5 ⟨hx5, cg, c, rfl, hcg, hcr, hpc⟩; have HCR := Lib.hid hcr; have HPC := Lib.hid hpc; clear hcr hpc)
        clear hP
        have hx45 : Ext wc w5 := hxc4.trans hx5
        have K5 := Lib.hid (Hold.ext k4 hx5)
        have hs4' := Lib.hid hs4
        have F5 := Lib.hid (show Far wc.heap.size N vs w5 wr.heap.size ∧ Far wc.heap.size N vs w5 cg from ⟨Far.new HST.out (by omega) (Nat.le_refl _) (by have := hx5.le; omega), Far.new HST.out (by omega) (by omega) HCR.out.lt⟩)
        have HST5 := Lib.hid (show StS wc.heap.size wc.heap.size N (T.toTr.rowsAt j 0) vs w5 by rw [Tr.rowsAt_zero]; exact HST.out.ext (by omega) (hx4.trans hx5))
        generalize wr.heap.size = yb at K5 F5 l4 c4 ⊢
        clear l4 c4 k4 hs4 hcg ey0 ey1
        go_loopg [43] N (fun gg v wi => ∃ i : Nat, i ≤ N ∧ gg = N - i ∧ v = .int .i64 i ∧ Ext wc wi ∧ Hold wi yb #[.int .i64 yp, .int .i64 (yi + 1)] ∧ CRow wi cg T.n c ∧ ∃ vs, StS wc.heap.size wc.heap.size N (T.toTr.rowsAt j i) vs wi ∧ Far wc.heap.size N vs wi yb ∧ Far wc.heap.size N vs wi cg)
        case atStart => exact ⟨0, by omega, rfl, rfl, hx45, K5.out, HCR.out, vs, HST5.out, F5.out.1, F5.out.2⟩
        case round =>
          obtain ⟨i, hi, rfl, rfl, hxi, hk, hc, vs, hst, hf1, hf2⟩ := hrel
          have hii : Ext wr wr := Ext.refl _
          obtain ⟨l4, c4, _, _⟩ := hk.box
          by_cases hli : i < N
          · have hli' : (i : Int) < (N : Int) := by omega
            have hVx := T.toTr.evN_V i (by have := HNE.out; omega)
            obtain ⟨⟨xp, xi⟩, hx⟩ : ∃ x, x = T.toTr.evN i := ⟨_, rfl⟩
            rw [← hx] at hVx
            obtain ⟨hxp, hxi2⟩ := hVx
            dsimp only at hxp hxi2
            have ex0 : ∀ w', Ext wc w' → w'.cell? ⟨ab, i * 2, none⟩ = some (.int .i64 xp) := fun w' h => by rw [EV0.out w' h i hli, ← hx]
            have ex1 : ∀ w', Ext wc w' → w'.cell? ⟨ab, i * 2 + 1, none⟩ = some (.int .i64 (xi + 1)) := fun w' h => by rw [EV1.out w' h i hli, ← hx]
            have hcn : ∀ w', Ext wr w' → w'.cell? ⟨cg, xp, none⟩ = some (.int .i64 (c xp)) := fun w' h => h.cell (hc.c xp hxp)
            have hcl : ∀ w', Ext wr w' → cg < w'.heap.size := fun w' h => Nat.lt_of_lt_of_le hc.lt h.le
            have hxp' : (xp : Int) < (T.n : Int) := by omega
            have hle := HPC.out.1 xp hxp
            have hen := HT.out.E.he xp hxp
            have HBE := Lib.hid (show T.toTr.bef i j ↔ ¬ ((xp, xi) = (yp, yi)) ∧ xi + 1 ≤ c xp by
              unfold Tr.bef; rw [← hx, ← HY.out]; exact and_congr Iff.rfl (HPC.out.2 xp xi hxp).symm)
            have HX := Lib.hid hx
            have HI := Lib.hid (And.intro hk (And.intro hc (And.intro hst (And.intro hf1 hf2))))
            clear hx hk hc hst hf1 hf2
            go_upto_region 13 with fail
            refine boxed1 (w := wr) (G := fun x => Code.wp _ _ _ _ x) ?_
            intro w6 hx6 hs6 ⟨l6, c6, _, k6⟩
            have hx66 : Ext w6 w6 := Ext.refl _
            have hxc6 : Ext wc w6 := hxi.trans hx6
            clear hs6 k6
            by_cases he : xp = yp ∧ xi = yi
            · obtain ⟨rfl, rfl⟩ := he
              have HNB := Lib.hid (show ¬ T.toTr.bef i j from fun h => (HBE.out.1 h).1 rfl)
              go_quiet (fail)
              go_wp2_with fail
              go_roundg (N - (i + 1))
              case rel => exact ⟨i + 1, by omega, rfl, by go_num, hxc6.drewN _, (HI.out.1.ext hx6).drewN _, (HI.out.2.1.ext hx6).ext ((Ext.refl _).drewN _), vs, (HI.out.2.2.1.ext (by omega) (hx6.trans ((Ext.refl _).drewN _))).congr fun k _ => by rw [Tr.rowsAt_no HNB.out], HI.out.2.2.2.1.ext (hx6.trans ((Ext.refl _).drewN _)), HI.out.2.2.2.2.ext (hx6.trans ((Ext.refl _).drewN _))⟩
              case measure => omega
            · by_cases hxy : xp = yp
              · subst hxy
                have hne : xi ≠ yi := fun h => he ⟨rfl, h⟩
                have hb2 : ((xi : Int) == (yi : Int)) = false := by simp; omega
                have hb3 : ((xi : Int) + 1 == (yi : Int) + 1) = false := by simp; omega
                by_cases hlq : xi + 1 ≤ c xp
                · have dc : decide ((xi : Int) + 1 ≤ (c xp : Int)) = true := decide_eq_true (by omega)
                  have HBF := Lib.hid (show T.toTr.bef i j from HBE.out.2 ⟨fun h => he (by cases h; exact ⟨rfl, rfl⟩), hlq⟩)
                  go_quiet (fail)
                  go_upto_region 14 with fail
                  refine drewd (w := w6) (G := fun x => Code.wp _ _ _ _ x) ?_
                  intro w7 hx67
                  have hx7 : Ext wr w7 := hx6.trans hx67
                  have hx77 : Ext w7 w7 := Ext.refl _
                  have hS := HI.out.2.2.1
                  have hfo := (hS.own i hli).form
                  have hpu := fun (w' : World) v' => StS.push (w := w7) (w' := w') (v' := v') (x := (j : Int)) (c := #[.int .i64 j]) (t := 3) (HI.out.2.2.1.ext (by omega) hx7) hli (Nat.le_refl _) (Nat.le_trans hxi.le hx7.le) (by rw [Tr.rowsAt_self]; have := T.toTr.lat_len j i; omega)
                  have hfa := fun (w' : World) v' => And.intro (Far.push (w := w7) (w' := w') (v' := v') (c := #[.int .i64 j]) (t := 3) (HI.out.2.2.2.1.ext hx7) hli) (Far.push (w := w7) (w' := w') (v' := v') (c := #[.int .i64 j]) (t := 3) (HI.out.2.2.2.2.ext hx7) hli)
                  have hll := T.toTr.lat_len j i
                  rw [← Tr.rowsAt_self] at hll
                  obtain ⟨L, hL⟩ : ∃ L, L = T.toTr.rowsAt j i i := ⟨_, rfl⟩
                  obtain ⟨a0, c0', hv0⟩ : ∃ a0 c0', vs i = .slice a0 L.length c0' := ⟨_, _, by rw [hL]; exact hfo.1⟩
                  have how : w7.ownsRow wc.heap.size 3 1 (.slice a0 L.length c0') L.length (intCells L) := by rw [← hv0, hL]; exact (hS.own i hli).kept hx7
                  have sp : ∀ w', Ext w7 w' → w'.cell? ⟨wc.heap.size, i, none⟩ = some (.slice a0 L.length c0') := fun w' x => by rw [← hv0]; exact (hx7.trans x).cell (hS.cell i hli)
                  have sb : ∀ w', Ext w7 w' → wc.heap.size < w'.heap.size := fun w' x => Nat.lt_of_lt_of_le (cell_lt (hS.cell i hli) : wc.heap.size < wr.heap.size) (hx7.trans x).le
                  rw [← hL] at hll
                  simp only [hv0, ← hL] at hpu hfa
                  have HOW := Lib.hid how
                  have HPU := Lib.hid hpu
                  have HFA := Lib.hid hfa
                  have HL := Lib.hid hL
                  clear hS hfo hpu hfa hL hv0 how hcn hcl l6 c6 ex0 ex1 l4 c4
                  go_wp2_with (at_builtin; refine wpList_append_own_at _ rfl _ _ 41 rfl wc.heap.size 3 j0 (.int .i64 0) 1 8 Try.underlying41 hj0 hy0 hy1 hy2 rfl (by decide) _ L.length (intCells L) rfl (by exact HOW.out.alloc _) ⟨w7.heap.size, 0, none⟩ 1 1 [.int .i64 j] rfl rfl (by exact news_ok _ [_] _) (by intro u hu; simp at hu; subst hu; rfl) (by unfold maxLen; omega) (by omega) (by have h1 := hx7.le; have h2 := hxi.le; simp; omega) ?_; rintro v8 w8 hown8 hg8 - hat8; obtain ⟨a8, c8, hv8⟩ := own_slice hown8; subst hv8; have P8 := HPU.out w8 _ hown8 hg8 hat8; have q1 := P8.2.2.1; have q2 := P8.2.2.2; have HP8 := Lib.hid P8; have HF8 := Lib.hid (And.intro ((HFA.out w8 _).1 hg8 hat8) ((HFA.out w8 _).2 hg8 hat8)); clear P8 hown8 hg8 hat8)
                  go_roundg (N - (i + 1))
                  case rel =>
                    refine ⟨i + 1, by omega, rfl, by go_num, Below.trans (hxi.trans hx7) HP8.out.2.1, (Hold.ext HI.out.1 hx7).at HF8.out.1.2, (HI.out.2.1.ext hx7).block (by have := HF8.out.2.1.lt; have := HP8.out.2.1.size; exact this) HF8.out.2.2, _, ?_, HF8.out.1.1, HF8.out.2.1⟩
                    rw [← Tr.rowsAt_yes HBF.out, ← HL.out]
                    exact HP8.out.1
                  case measure => omega
                · have dc : decide ((xi : Int) + 1 ≤ (c xp : Int)) = false := decide_eq_false (by omega)
                  have HNB := Lib.hid (show ¬ T.toTr.bef i j from fun h => hlq (HBE.out.1 h).2)
                  go_quiet (fail)
                  go_wp2_with fail
                  go_roundg (N - (i + 1))
                  case rel => exact ⟨i + 1, by omega, rfl, by go_num, hxc6.drewN _, (HI.out.1.ext hx6).drewN _, (HI.out.2.1.ext hx6).ext ((Ext.refl _).drewN _), vs, (HI.out.2.2.1.ext (by omega) (hx6.trans ((Ext.refl _).drewN _))).congr fun k _ => by rw [Tr.rowsAt_no HNB.out], HI.out.2.2.2.1.ext (hx6.trans ((Ext.refl _).drewN _)), HI.out.2.2.2.2.ext (hx6.trans ((Ext.refl _).drewN _))⟩
                  case measure => omega
              · have hb1 : ((xp : Int) == (yp : Int)) = false := by simp; omega
                by_cases hlq : xi + 1 ≤ c xp
                · have dc : decide ((xi : Int) + 1 ≤ (c xp : Int)) = true := decide_eq_true (by omega)
                  have HBF := Lib.hid (show T.toTr.bef i j from HBE.out.2 ⟨fun h => he (by cases h; exact ⟨rfl, rfl⟩), hlq⟩)
                  go_quiet (fail)
                  go_upto_region 14 with fail
                  refine drewd (w := w6) (G := fun x => Code.wp _ _ _ _ x) ?_
                  intro w7 hx67
                  have hx7 : Ext wr w7 := hx6.trans hx67
                  have hx77 : Ext w7 w7 := Ext.refl _
                  have hS := HI.out.2.2.1
                  have hfo := (hS.own i hli).form
                  have hpu := fun (w' : World) v' => StS.push (w := w7) (w' := w') (v' := v') (x := (j : Int)) (c := #[.int .i64 j]) (t := 3) (HI.out.2.2.1.ext (by omega) hx7) hli (Nat.le_refl _) (Nat.le_trans hxi.le hx7.le) (by rw [Tr.rowsAt_self]; have := T.toTr.lat_len j i; omega)
                  have hfa := fun (w' : World) v' => And.intro (Far.push (w := w7) (w' := w') (v' := v') (c := #[.int .i64 j]) (t := 3) (HI.out.2.2.2.1.ext hx7) hli) (Far.push (w := w7) (w' := w') (v' := v') (c := #[.int .i64 j]) (t := 3) (HI.out.2.2.2.2.ext hx7) hli)
                  have hll := T.toTr.lat_len j i
                  rw [← Tr.rowsAt_self] at hll
                  obtain ⟨L, hL⟩ : ∃ L, L = T.toTr.rowsAt j i i := ⟨_, rfl⟩
                  obtain ⟨a0, c0', hv0⟩ : ∃ a0 c0', vs i = .slice a0 L.length c0' := ⟨_, _, by rw [hL]; exact hfo.1⟩
                  have how : w7.ownsRow wc.heap.size 3 1 (.slice a0 L.length c0') L.length (intCells L) := by rw [← hv0, hL]; exact (hS.own i hli).kept hx7
                  have sp : ∀ w', Ext w7 w' → w'.cell? ⟨wc.heap.size, i, none⟩ = some (.slice a0 L.length c0') := fun w' x => by rw [← hv0]; exact (hx7.trans x).cell (hS.cell i hli)
                  have sb : ∀ w', Ext w7 w' → wc.heap.size < w'.heap.size := fun w' x => Nat.lt_of_lt_of_le (cell_lt (hS.cell i hli) : wc.heap.size < wr.heap.size) (hx7.trans x).le
                  rw [← hL] at hll
                  simp only [hv0, ← hL] at hpu hfa
                  have HOW := Lib.hid how
                  have HPU := Lib.hid hpu
                  have HFA := Lib.hid hfa
                  have HL := Lib.hid hL
                  clear hS hfo hpu hfa hL hv0 how hcn hcl l6 c6 ex0 ex1 l4 c4
                  go_wp2_with (at_builtin; refine wpList_append_own_at _ rfl _ _ 41 rfl wc.heap.size 3 j0 (.int .i64 0) 1 8 Try.underlying41 hj0 hy0 hy1 hy2 rfl (by decide) _ L.length (intCells L) rfl (by exact HOW.out.alloc _) ⟨w7.heap.size, 0, none⟩ 1 1 [.int .i64 j] rfl rfl (by exact news_ok _ [_] _) (by intro u hu; simp at hu; subst hu; rfl) (by unfold maxLen; omega) (by omega) (by have h1 := hx7.le; have h2 := hxi.le; simp; omega) ?_; rintro v8 w8 hown8 hg8 - hat8; obtain ⟨a8, c8, hv8⟩ := own_slice hown8; subst hv8; have P8 := HPU.out w8 _ hown8 hg8 hat8; have q1 := P8.2.2.1; have q2 := P8.2.2.2; have HP8 := Lib.hid P8; have HF8 := Lib.hid (And.intro ((HFA.out w8 _).1 hg8 hat8) ((HFA.out w8 _).2 hg8 hat8)); clear P8 hown8 hg8 hat8)
                  go_roundg (N - (i + 1))
                  case rel =>
                    refine ⟨i + 1, by omega, rfl, by go_num, Below.trans (hxi.trans hx7) HP8.out.2.1, (Hold.ext HI.out.1 hx7).at HF8.out.1.2, (HI.out.2.1.ext hx7).block (by have := HF8.out.2.1.lt; have := HP8.out.2.1.size; exact this) HF8.out.2.2, _, ?_, HF8.out.1.1, HF8.out.2.1⟩
                    rw [← Tr.rowsAt_yes HBF.out, ← HL.out]
                    exact HP8.out.1
                  case measure => omega
                · have dc : decide ((xi : Int) + 1 ≤ (c xp : Int)) = false := decide_eq_false (by omega)
                  have HNB := Lib.hid (show ¬ T.toTr.bef i j from fun h => hlq (HBE.out.1 h).2)
                  go_quiet (fail)
                  go_wp2_with fail
                  go_roundg (N - (i + 1))
                  case rel => exact ⟨i + 1, by omega, rfl, by go_num, hxc6.drewN _, (HI.out.1.ext hx6).drewN _, (HI.out.2.1.ext hx6).ext ((Ext.refl _).drewN _), vs, (HI.out.2.2.1.ext (by omega) (hx6.trans ((Ext.refl _).drewN _))).congr fun k _ => by rw [Tr.rowsAt_no HNB.out], HI.out.2.2.2.1.ext (hx6.trans ((Ext.refl _).drewN _)), HI.out.2.2.2.2.ext (hx6.trans ((Ext.refl _).drewN _))⟩
                  case measure => omega
          · have hie : i = N := by omega
            subst hie
            have HI := Lib.hid hst
            clear hk hc hst hf1 hf2
            go_wp2_with fail
            go_roundg (i - (j + 1))
            case rel => exact ⟨j + 1, by omega, rfl, by go_num, hxi, vs, HI.out.congr fun k hk => by unfold Tr.rowsAt; rw [if_pos hk]⟩
            case measure => omega
      · have hje : j = N := by omega
        subst hje
        go_upto_region 18 with fail
        refine boxed1t (w := wr) (G := fun x => Code.wp _ _ _ _ x) ?_
        intro w7 hx7 hs7 k7
        have HR0 := Lib.hid (RelI.mk (w7 := wr) (bx := wr.heap.size) (N := j) (n := 0) (v := .slice none 0 0) (S := fun _ => ⟨⟨0, 0, fun _ => 0⟩, none, 0, 0, 0⟩) (bit := T.toTr.bef) (wr := w7) hx7 (Nat.le_refl _) ⟨_, k7⟩ (World.ownsRow_nil _ _ _ _) (fun k h => absurd h (Nat.not_lt_zero _)) (fun k i h => absurd h (Nat.not_lt_zero _)))
        have hbx := Lib.hid (show w.heap.size + 1 < wr.heap.size by have h1 := HB.out.h1.lt; have h2 := hxr.le; omega)
        clear hs7 k7
        generalize hbe : wr.heap.size = bx at HR0 ⊢
        have HBE := Lib.hid hbe
        clear hbe
        go_wp2_with fail
        obtain ⟨w9, hw9⟩ : ∃ x, x = wr := ⟨_, rfl⟩
        rw [← hw9] at HR0 HST hbx HBE hxr hrr hx7
        clear hw9
        go_loopg [75] j (fun gg v wi => ∃ (k : Nat) (u : Value) (S : Nat → SetM), k ≤ j ∧ gg = j - k ∧ v = .int .i64 k ∧ RelI w9 bx j k u S T.toTr.bef wi)
        case atStart => exact ⟨0, _, _, by omega, rfl, rfl, HR0.out⟩
        case round =>
          obtain ⟨k, u, S, hk, rfl, rfl, hR⟩ := hrel
          have hii : Ext wr wr := Ext.refl _
          obtain ⟨lx, cx, fx, _⟩ := hR.box.box
          have hx9 := hR.bl
          have HR := Lib.hid hR
          clear hR
          by_cases hlt : k < j
          · have hlt' : (k : Int) < (j : Int) := by omega
            have hfo := (HST.out.own k hlt).form
            have hll := T.toTr.lat_len j k
            obtain ⟨L, hL⟩ : ∃ L, L = T.toTr.lat j k := ⟨_, rfl⟩
            rw [← hL] at hfo hll
            obtain ⟨a0, c0', hv0⟩ : ∃ a0 c0', vs k = .slice a0 L.length c0' := ⟨_, _, hfo.1⟩
            have sp : ∀ w', Ext w9 w' → w'.cell? ⟨wc.heap.size, k, none⟩ = some (.slice a0 L.length c0') := fun w' x => by rw [← hv0]; exact x.cell (HST.out.cell k hlt)
            have sb : ∀ w', Ext w9 w' → wc.heap.size < w'.heap.size := fun w' x => Nat.lt_of_lt_of_le (cell_lt (HST.out.cell k hlt) : wc.heap.size < w9.heap.size) x.le
            have hmem : ∀ t, t < L.length → 0 ≤ L.getD t 0 ∧ L.getD t 0 < j := fun t ht => by
              have h1 : L.getD t 0 ∈ T.toTr.lat j k := by
                rw [← hL, List.getD_eq_getElem?_getD, List.getElem?_eq_getElem ht]; exact List.getElem_mem ht
              obtain ⟨q, h2, _, h3⟩ := Tr.lat_mem.1 h1
              omega
            have hOf : ∀ W, Ext w9 W → Calls Try.prog 65 #[.int .i64 j, .slice a0 L.length c0'] W (OfPost j L.length (fun t => (L.getD t 0).toNat) W) := fun W hW =>
              of_any j (by omega) a0 (vBlock (vs k)) 0 L.length c0' (fun t => (L.getD t 0).toNat) W (by omega)
                (fun h0 => by have := hfo.2.1 h0; rw [hv0] at this ⊢; exact this)
                (fun h0 w' x => Nat.lt_of_lt_of_le ((HST.out.own k hlt).lt _ (hfo.2.2.2.1 h0)) (hW.trans x).le)
                (fun w' x t ht => by
                  rw [Nat.zero_add, hfo.2.2.2.2 w' (hW.trans x) t ht]
                  have := hmem t ht
                  rw [List.getD_eq_getElem?_getD, List.getElem?_eq_getElem ht] at this ⊢
                  simp only [Option.getD_some] at this ⊢
                  rw [Int.toNat_of_nonneg this.1])
                (fun t ht => by have := hmem t ht; show (L.getD t 0).toNat < j; omega)
            have HBIT := Lib.hid (show ∀ i, i < j → ((∃ t, t < L.length ∧ (L.getD t 0).toNat = i) ↔ T.toTr.bef k i) from fun i hi => by
              constructor
              · rintro ⟨t, ht, he⟩
                have h1 : L.getD t 0 ∈ T.toTr.lat j k := by
                  rw [← hL, List.getD_eq_getElem?_getD, List.getElem?_eq_getElem ht]; exact List.getElem_mem ht
                obtain ⟨q, h2, h3, h4⟩ := Tr.lat_mem.1 h1
                rw [h4, Int.toNat_natCast] at he; rw [← he]; exact h3
              · intro h
                have h1 : (i : Int) ∈ L := by rw [hL]; exact Tr.lat_mem.2 ⟨i, hi, h, rfl⟩
                obtain ⟨t, ht, he⟩ := List.mem_iff_getElem.1 h1
                exact ⟨t, ht, by rw [List.getD_eq_getElem?_getD, List.getElem?_eq_getElem ht, Option.getD_some, he, Int.toNat_natCast]⟩)
            have HOf := Lib.hid hOf
            clear hOf hfo hL hv0 hmem
            go_upto_region 22 with (go_at_call 65; refine (HOf.out _ hx9).mono ?_; rintro e w5 ⟨hx5, s, rfl, hsA, hsG, hsb, hsbit⟩; have HSE := Lib.hid (And.intro hsA (And.intro hsG (And.intro hsb hsbit))); clear hsA hsG hsb hsbit)
            refine boxed1 (w := w5) (G := fun x => Code.wp _ _ _ _ x) ?_
            intro w6 hx6 hs6 ⟨l6, c6, _, _⟩
            have hx66 : Ext w6 w6 := Ext.refl _
            have hx56 : Ext wr w6 := hx5.trans hx6
            clear hs6
            have hpu := fun (w' : World) v' => RelI.push (w6 := w') (v' := v') (w4 := w6) (s := s) (c := #[.int .i64 s.N, .slice s.a s.m s.cap]) (t := 94) HR.out hx56 (HSE.out.1.ext hx6) HSE.out.2.1 HSE.out.2.2.1 (fun i hi => by
              rw [HSE.out.2.2.2 i hi]; exact decide_eq_true_iff.trans (HBIT.out i hi))
            have HPU := Lib.hid hpu
            have HOW := Lib.hid ((HR.out.ext hx56).own.alloc (.cells #[.int .i64 s.N, .slice s.a s.m s.cap] 94))
            have hsz := Lib.hid (show bx + 1 ≤ w6.heap.size from (HR.out.ext hx56).box.lt)
            clear hpu
            go_wp2_with (at_builtin; refine wpList_append_own_at _ rfl _ _ 85 rfl (bx + 1) 94 s0 (.agg #[.int .i64 0, .slice none 0 0]) 2 32 Try.underlying85 hs0 hq0 hq1 hq2 rfl (by decide) u k (setRow S k) rfl (by exact HOW.out) ⟨w6.heap.size, 0, none⟩ 1 1 [.int .i64 s.N, .slice s.a s.m s.cap] rfl rfl (by exact news_ok _ [_, _] _) (by intro u hu; simp at hu; rcases hu with rfl | rfl <;> rfl) (by unfold maxLen; omega) (by omega) (by have h1 := hsz.out; simp; omega) ?_; rintro v8 w8 hown8 hg8 - hat8; obtain ⟨a8, c8, hv8⟩ := own_slice2 hown8; subst hv8; have P8 := HPU.out w8 _ hown8 hg8 hat8; have q1 := P8.2.1; have q2 := P8.2.2; have HP8 := Lib.hid P8.1; clear P8 hown8 hg8 hat8)
            go_roundg (j - (k + 1))
            case rel => exact ⟨k + 1, _, _, by omega, rfl, by go_num, HP8.out⟩
            case measure => omega
          · have hke : k = j := by omega
            subst hke
            obtain ⟨ra, rg, rc, hv, hfin⟩ := HR.out.at hbx.out
            subst hv
            have HF := Lib.hid (fun (w' : World) (ho : Only (w.heap.size + 1) wr w') => (show OrderPost T w (.returned (.tuple #[.agg #[.slice ra k rc], .int .i64 0])) w' from
              ⟨Below.trans ((hwc.trans hxr).trans hx9) (ho.below (by omega)), ra, rg, rc, S, by rw [← HNE.out], by rw [← HNE.out]; exact hfin w' ho⟩))
            have h1 := (HB.out.ext (hxr.trans hx9)).h1
            obtain ⟨lr, cr, fr, _⟩ := h1.box
            have G4 := Lib.hid (h1.set 0 (.slice ra k rc))
            clear h1 hfin
            go_wp2_with fail
            try simp only [Exit.inBlock, Exit.then]
            refine bodyPost_ret (order_results _ _ _ _ _ rfl rfl (G4.out.cell0 0)) rfl ?_
            exact HF.out _ (Only.set _ _ _ _)

end Go.Proofs.Ytecgigeeolindaa
