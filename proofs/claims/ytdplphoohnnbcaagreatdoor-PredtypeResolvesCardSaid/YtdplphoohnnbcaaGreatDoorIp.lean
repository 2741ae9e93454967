/- Contract of antecederef12: Past. -/
import Derived.Test.YtdplphoohnnbcaaGreatDoorIo
import Derived.Test.YtdplphoohnnbcaaGreatDoorIb
namespace Go.Proofs.YtdplphoohnnbcaaGreatDoor
open Go.RowKit Go.Shelf

theorem drewdj {w : World} {n : Nat} {G : World → Prop} (h : ∀ w', Ext w w' → G w') : G (w.drewN n) := h _ ((Ext.refl _).drewN _)
theorem setdr {w : World} {p : Addr} {v : Value} {G : World → Prop} (h : ∀ w7, w7 = (w.setCell p v).drew → G w7) : G ((w.setCell p v).drew) := h _ rfl
/-- a slice of events of the call's own, empty or not -/
theorem EvOwn.shape {w : World} {base : Nat} {v : Value} {l : List (Int × Int)} (h : EvOwn w base v l) : ∃ a g c, v = .slice a l.length c ∧ (0 < l.length → a = some ⟨g, 0, none⟩ ∧ base ≤ g ∧ g < w.heap.size ∧ EvRow w g l.length (fun k => l.getD k (0, 0))) := by
  by_cases h0 : 0 < l.length
  · obtain ⟨g, c, hv, hb, hr⟩ := h.row h0
    exact ⟨_, g, c, hv, fun _ => ⟨rfl, hb, cell_lt (hr.c0 0 h0), hr⟩⟩
  · obtain ⟨_, ⟨hv, hn⟩ | ⟨g, cap, cur, hv, _⟩⟩ := h
    · exact ⟨none, 0, 0, by rw [hv, hn], fun h => absurd h h0⟩
    · exact ⟨_, g, cap, hv, fun h => absurd h h0⟩
theorem EvRow.blk {w w' : World} {g n : Nat} {f : Nat → Int × Int} (h : EvRow w g n f) (e : w'.heap[g]? = w.heap[g]?) : EvRow w' g n f :=
  ⟨fun k hk => (World.cell?_of_block (w := w) (a := ⟨g, k * 2, none⟩) e).trans (h.c0 k hk), fun k hk => (World.cell?_of_block (w := w) (a := ⟨g, k * 2 + 1, none⟩) e).trans (h.c1 k hk), fun o => (World.frozen?_of_block (w := w) (a := ⟨g, o, none⟩) e).trans (h.fr o)⟩
set_option maxRecDepth 100000 in
set_option maxHeartbeats 4000000 in
theorem rpast_any (w : World) (T : TM) (hT : T.At w) (hV : T.toTr.Pre) (x : NN) (hx : T.toTr.V x) :
    Calls Tryz.prog 106 #[T.val, .agg #[.int .i64 x.1, .int .i64 (x.2 + 1)]] w (RPastPost T x w) := by
  obtain ⟨i0, hi0, hz0, hz1, hz2⟩ := info_parts infoEv
  obtain ⟨j0, hj0, hy0, hy1, hy2⟩ := info_parts infoBool
  obtain ⟨m0, hm0, hm1, hm2, hm3⟩ := info_parts infoBools
  have hn1 := hV.n1
  have hn8 := hV.n8
  have hE8 : ∀ k, k < T.n → T.en k ≤ 64 := fun k hk => (hV.pr k hk).2.2.2.2
  have pa := hT.P.pa (by omega)
  have pb := hT.P.pb (by omega)
  have p2 := hT.P.p2
  have hB := fun W (hx : Ext w W) p i hp hi => rdir_any W T (hT.ext hx) hV p i hp hi
  simp only [TM.val, pa] at hB
  have HB := Lib.hid hB
  have HME := Lib.hid (show T.toTr.evs.length ≤ 512 by
    have h := tot_small hE8
    rw [T.toTr.evs_tot]
    have h3 : T.n * 64 ≤ 512 := by omega
    have h4 : tot T.en T.n ≤ T.n * 64 := h
    show tot T.en T.n ≤ 512
    omega)
  clear hT hV hB
  go_enter Tryz.func106, Tryz.ntmps106
  go_upto_region 1 with fail
  refine boxed2 (w := w) (G := fun x => Code.wp _ _ _ _ x) ?_
  intro w1 hx1 hs1 ⟨l0, c0, _, k0⟩ ⟨l1, c1, _, k1⟩
  have hx11 : Ext w1 w1 := Ext.refl _
  have K0 := Lib.hid k0
  have HS1 := Lib.hid hs1
  clear k0 k1
  go_wp2_with fail
  clear hs1
  go_loopg [5, 6] T.n (fun gg v5 v6 wr => ∃ (k : Nat) (rb : Nat → Nat), k ≤ T.n ∧ gg = T.n - k ∧ v6 = .int .i64 k ∧ Ext w1 wr ∧ BoM (w.heap.size + 1 + 1) wr.heap.size k (fun k => T.en k + 1) v5 rb (bfF []) wr)
  case atStart => exact ⟨0, fun _ => 0, by omega, rfl, rfl, hx11, BoM.nil _ _ _ _ _ _⟩
  case round =>
    obtain ⟨k, rb, hk, rfl, rfl, hxr, hI⟩ := hrel
    have HI := Lib.hid hI
    clear hI
    have hxw := hx1.trans hxr
    have hrr : Ext wr wr := Ext.refl _
    by_cases hlt : k < T.n
    · have hlt' : (k : Int) < (T.n : Int) := by omega
      have hen := hE8 k hlt
      have HW := Lib.hid (show w.heap.size + 1 + 1 ≤ wr.heap.size by have := hxr.le; rw [HS1.out] at this; exact this)
      go_wp2_with (first | (at_make; refine wpList_make_full _ rfl _ _ 132 rfl wr.heap.size 4 j0 (.bool false) 1 Tryz.underlying132 hj0 hy0 hy1 .i64 .i64 _ _ (T.en k + 1) rfl rfl (by omega) (by omega) (by rw [hy2]; omega) (by unfold maxLen; omega) (Nat.le_refl _) ?_; intro w3 hown3 hg3; have hx3 : Ext wr w3 := (Below.refl _ _).grown hg3 (Nat.le_refl _) (by simp); have HR3 := Lib.hid (BRow.made hown3); clear hown3 hg3) | (at_builtin; refine wpList_append_own_at _ rfl _ _ 133 rfl (w.heap.size + 1 + 1) 132 m0 (.slice none 0 0) 1 24 Tryz.underlying133 hm0 hm1 hm2 hm3 rfl (by decide) u5 k _ rfl (by exact ownsRow_same HI.out.own fun g e => (hx3.alloc' _).block g (HI.out.vhi g e)) ⟨w3.heap.size, 0, none⟩ 1 1 [.slice (some ⟨wr.heap.size, 0, none⟩) (T.en k + 1) (T.en k + 1)] rfl rfl (by exact news_ok w3 [_] _) (by intro u hu; simp at hu; subst hu; rfl) (by unfold maxLen; omega) (by omega) (by have := HW.out; have := hx3.le; simp; omega) ?_; rintro v5 w5 hown5 hg5 - hat5; have H5 := Lib.hid (BoM.push HI.out HW.out hx3 HR3.out rfl (fun i => bfF_nil k i) hown5 hg5 (by simpa using hat5)); clear hown5 hg5 hat5))
      go_roundg (T.n - (k + 1))
      case rel => exact ⟨k + 1, _, by omega, rfl, by go_num, Below.trans hxr (by have := H5.out.2; rw [← HS1.out] at this; exact this), H5.out.1⟩
      case measure => omega
    · have hke : k = T.n := by omega
      subst hke
      obtain ⟨g5, c5, hv5, hga, hgb, hgc⟩ := HI.out.form (by omega)
      subst hv5
      obtain ⟨p, i⟩ := x
      dsimp only at hx c1 ⊢
      have hBk := HB.out wr hxw p i hx.1 hx.2
      go_upto_region 7 with (go_at_call 138; refine hBk.mono ?_; rintro e w6 ⟨v7, rfl, hown6, hx6⟩; have HO6 := Lib.hid hown6; clear hown6)
      have hxw6 := hxw.trans hx6
      obtain ⟨B, hI6⟩ : ∃ B, BfW T w B (.slice (some ⟨g5, 0, none⟩) T.n c5) rb [] (T.toTr.bk (p, i)) v7 w6 :=
        ⟨wr.heap.size, Hold.ext (Hold.ext K0.out hxr) hx6, HI.out.ext (Nat.le_refl _) hx6, by have := Que.own HO6.out; rw [List.length_map] at this; exact this, hxw6, by have := hxr.le; rw [HS1.out] at this; exact this, hx6.le⟩
      have HI6 := Lib.hid hI6
      have HP6 := Lib.hid (Tr.BfI.start (T := T.toTr) (x := (p, i)) hx)
      clear hI6 hBk hx6 hxr hrr l0 c0 l1 c1 hx11 hga hgb
      go_loopg [7] (T.toTr.bfM [] (T.toTr.bk (p, i))) (fun gg v7 wr => ∃ S q : List NN, gg = T.toTr.bfM S q ∧ gg ≤ T.toTr.bfM [] (T.toTr.bk (p, i)) ∧ BfW T w B (.slice (some ⟨g5, 0, none⟩) T.n c5) rb S q v7 wr ∧ T.toTr.BfI (p, i) S q)
      case atStart => exact ⟨_, _, rfl, Nat.le_refl _, HI6.out, HP6.out⟩
      case round =>
        obtain ⟨S, q, rfl, hgm, hI, hP⟩ := hrel
        have hxr := hI.bl
        have hrr : Ext wr wr := Ext.refl _
        have HP := Lib.hid hP
        have HI2 := Lib.hid hI
        have HG := Lib.hid (show T.toTr.bfM S q ≤ 2000 by
          have h1 := HME.out
          have h2 := T.toTr.bk_len (p, i)
          unfold Tr.bfM at hgm ⊢
          simp at hgm; omega)
        have HGM := Lib.hid hgm
        cases q with
        | nil =>
          obtain ⟨ao, cp, hv⟩ : ∃ ao cp, u7 = .slice ao 0 cp := by
            rcases hI.qu.val with ⟨ao, h, _⟩ | ⟨g, off, cap, h, _⟩
            · exact ⟨_, _, h⟩
            · exact ⟨_, _, h⟩
          subst hv
          clear hI hP hgm
          go_wp2_with fail
          go_ret
          exact ⟨hxr, g5, c5, rb, bfF S, rfl, hgc, HI2.out.bo.at, fun k i => by rw [bfF_succ, decide_eq_true_iff]; exact HP.out.done (k, i)⟩
        | cons y q =>
          obtain ⟨yp, yi⟩ := y
          obtain ⟨hyp, hyi⟩ : T.toTr.V (yp, yi) := (hP.qv _ (by simp)).V hP.hx
          dsimp only at hyp hyi
          have hey := hE8 yp hyp
          obtain ⟨g, off, cap, hv, hgb, hgl, hcp, hcm, hcell, htail⟩ := Que.tail (n := q.length) hI.qu
          subst hv
          have q0 : ∀ w', Ext wr w' → w'.cell? ⟨g, off, none⟩ = some (.int .i64 yp) := fun w' h => h.cell ((hcell 0 (by omega)).trans rfl)
          have q1 : ∀ w', Ext wr w' → w'.cell? ⟨g, off + 1, none⟩ = some (.int .i64 (yi + 1)) := fun w' h => h.cell ((hcell 1 (by omega)).trans rfl)
          have hgl' : ∀ w', Ext wr w' → g < w'.heap.size := fun w' h => Nat.lt_of_lt_of_le hgl h.le
          have hcp' : 1 ≤ cap := by omega
          have HTL := Lib.hid htail
          clear hI hP hgm htail hcell
          go_upto_region 10 with fail
          refine boxed1 (w := wr) (G := fun x => Code.wp _ _ _ _ x) ?_
          intro w5 hx5 hs5 ⟨l5, c5', _, k5⟩
          have hx55 : Ext w5 w5 := Ext.refl _
          have hyb := Lib.hid (show ∀ k, (Value.slice (if cap = 1 then some (⟨g, off, none⟩ : Addr) else some ⟨g, off + 2, none⟩) q.length (cap - 1)).ownBlock = some k → k < wr.heap.size by
            intro k
            by_cases h1 : cap = 1
            · rw [if_pos h1]; intro e; simp [Value.ownBlock] at e; omega
            · rw [if_neg h1]; intro e; simp [Value.ownBlock] at e; omega)
          generalize Value.slice (if cap = 1 then some (⟨g, off, none⟩ : Addr) else some ⟨g, off + 2, none⟩) q.length (cap - 1) = v1 at HTL hyb ⊢
          have HI5 := Lib.hid (show BfW T w B (.slice (some ⟨g5, 0, none⟩) T.n c5) rb S q v1 w5 from ⟨(HI2.out.ext hx5).h0, (HI2.out.ext hx5).bo, HTL.out.ext hx5, (HI2.out.ext hx5).bl, HI2.out.lo, (HI2.out.ext hx5).hi⟩)
          have K5 := Lib.hid (show Hold w5 wr.heap.size _ from k5)
          have hg0 : ∀ w', Ext w5 w' → w'.cell? ⟨g5, yp, none⟩ = some (.slice (some ⟨rb yp, 0, none⟩) (T.en yp + 1) (T.en yp + 1)) := fun w' h => h.cell (HI5.out.bo.at.c0 yp hyp)
          have hg1 : ∀ w', Ext w5 w' → g5 < w'.heap.size := fun w' h => Nat.lt_of_lt_of_le HI5.out.bo.at.lt h.le
          have hg2 : ∀ w', Ext w5 w' → rb yp < w'.heap.size := fun w' h => Nat.lt_of_lt_of_le (HI5.out.bo.at.rl yp hyp) h.le
          have hyp' : (yp : Int) < (T.n : Int) := by omega
          have hyi' : (yi : Int) + 1 < (T.en yp : Int) + 1 := by omega
          have hyi2 : (yi : Int) < (T.en yp : Int) := by omega
          have hyi3 : (0 : Int) ≤ (yi : Int) + 1 := by omega
          have hyi4 : ((yi : Int) + 1).toNat = yi + 1 := by omega
          have hyw : IntKind.i64.wrap ((yi : Int) + 1) = (yi : Int) + 1 := IntWalk.i64_in _ (by omega)
          clear q0 q1 hgl' HTL hgb hgl hcp hcm hcp' k5
          have hfz : ∀ w', Ext w5 w' → w'.frozen? ⟨rb yp, yi + 1, none⟩ = false := fun w' h => (h.frozen (p := ⟨rb yp, yi + 1, none⟩) (HI5.out.bo.at.rl yp hyp)).trans ((HI5.out.bo.row yp hyp).fr _)
          cases hS : bfF S yp (yi + 1) with
          | true =>
            have hg3 : ∀ w', Ext w5 w' → w'.cell? ⟨rb yp, yi + 1, none⟩ = some (.bool true) := fun w' h => h.cell ((HI5.out.bo.at.c1 yp (yi + 1) hyp (by omega)).trans (by rw [hS]))
            have HS := Lib.hid (show (yp, yi) ∈ S by rw [bfF_succ, decide_eq_true_iff] at hS; exact hS)
            clear hS hfz
            go_quiet (fail)
            go_wp2_with fail
            go_roundg (T.toTr.bfM S q)
            case rel => exact ⟨S, q, rfl, Nat.le_trans (by unfold Tr.bfM; simp) HGM.out, HI5.out.ext (hx55.drewN _), HP.out.skip HS.out⟩
            case measure => unfold Tr.bfM; simp
          | false =>
            have hg3 : ∀ w', Ext w5 w' → w'.cell? ⟨rb yp, yi + 1, none⟩ = some (.bool false) := fun w' h => h.cell ((HI5.out.bo.at.c1 yp (yi + 1) hyp (by omega)).trans (by rw [hS]))
            have HS := Lib.hid (show (yp, yi) ∉ S by rw [bfF_succ, decide_eq_false_iff_not] at hS; exact hS)
            clear hS
            go_quiet (fail)
            go_upto_region 11 with fail
            refine drewdj (w := w5) (G := fun x => Code.wp _ _ _ _ x) ?_
            intro w6 hx6
            have hx66 : Ext w6 w6 := Ext.refl _
            have hxw6 := hxr.trans (hx5.trans hx6)
            refine wp_region_reads 8 (by kernel_rfl) (by kernel_rfl) ?_
            simp only [List.take_succ_cons, List.take_zero]
            repeat still_step
            refine wpStill_nil ?_
            refine wpAny_ready (rs := [8]) (by kernel_rfl) (by simp) ?_
            refine AllReady.cons rfl (fun K hK => ?_) AllReady.nil
            go_simp
            refine hK _ _ ?_; clear hK K
            refine wpAny_done (by kernel_rfl) ?_ _
            go_upto_region 12 with fail
            refine setdr (w := w6) (G := fun x => Code.wp _ _ _ _ x) ?_
            intro w7 hw7
            have hyB := HI2.out.hi
            have hI7 : BfW T w B (.slice (some ⟨g5, 0, none⟩) T.n c5) rb ((yp, yi) :: S) q v1 w7 := by
              rw [hw7]; exact ((HI5.out.ext hx6).set hyp hyi).ext (Ext.refl _).drew
            have hK7 : Hold w7 wr.heap.size #[.int .i64 yp, .int .i64 (yi + 1)] := by
              rw [hw7]; exact ((K5.out.ext hx6).other _ _ (by have := HI2.out.bo.hi yp hyp; show wr.heap.size ≠ rb yp; omega)).drew
            have hs7 : wr.heap.size < w7.heap.size := hK7.lt
            have hx77 : Ext w7 w7 := Ext.refl _
            have hxw7 := hI7.bl
            obtain ⟨l7, c7, _, _⟩ := hK7.box
            obtain ⟨l0, c0, _, _⟩ := hI7.h0.box
            have hBk := HB.out w7 hxw7 yp yi hyp hyi
            have HI7 := Lib.hid hI7
            have HYB := Lib.hid (show ∀ k, v1.ownBlock = some k → k < w7.heap.size from fun k e => Nat.lt_trans (hyb.out k e) hs7)
            clear hI7 hK7 hw7 hg0 hg1 hg2 hg3 hfz hyb l5 c5' hx66 hxw6 hx6
            generalize wr.heap.size = yb at l7 c7 hs7 ⊢
            go_wp2_with (go_at_call 138; refine hBk.mono ?_; rintro e w8 ⟨v9, rfl, hown8, hx8⟩; have HO8 := Lib.hid hown8; clear hown8)
            obtain ⟨ll, hll⟩ : ∃ ll, ll = (T.toTr.bk (yp, yi)).map evI := ⟨_, rfl⟩
            rw [← hll] at HO8
            obtain ⟨a9, g9, c9, hv9, h9⟩ := HO8.out.shape
            subst hv9
            have H9 := Lib.hid h9
            have HLN := Lib.hid (show ll.length = (T.toTr.bk (yp, yi)).length by rw [hll]; exact List.length_map _)
            have HLL := Lib.hid hll
            have hbl := T.toTr.bk_len (yp, yi)
            have hLm : ll.length ≤ 2 := by rw [HLN.out]; exact hbl
            clear h9 hBk hll
            go_loopg [7, 10] ll.length (fun gg v7 v10 wi => ∃ j : Nat, j ≤ ll.length ∧ gg = ll.length - j ∧ v10 = .int .i64 j ∧ BfW T w B (.slice (some ⟨g5, 0, none⟩) T.n c5) rb ((yp, yi) :: S) (q ++ (T.toTr.bk (yp, yi)).take j) v7 wi ∧
              (0 < ll.length → EvRow wi g9 ll.length (fun k => ll.getD k (0, 0)) ∧ g9 < wi.heap.size ∧ v7.ownBlock ≠ some g9))
            case atStart => exact ⟨0, by omega, rfl, rfl, by rw [List.take_zero, List.append_nil]; exact HI7.out.ext hx8, fun h0 => ⟨(H9.out h0).2.2.2, (H9.out h0).2.2.1, fun e => by have := HYB.out _ e; have := (H9.out h0).2.1; omega⟩⟩
            case round =>
              obtain ⟨j, hj, rfl, rfl, hI, hrow⟩ := hrel
              have hxi := hI.bl
              have hii : Ext wr wr := Ext.refl _
              have HI3 := Lib.hid hI
              have HROW := Lib.hid hrow
              clear hI hrow
              by_cases hlt : j < ll.length
              · obtain ⟨rfl, hga, _, _⟩ := H9.out (by omega)
                obtain ⟨hr9, hg9, hne9⟩ := HROW.out (by omega)
                have hjb : j < (T.toTr.bk (yp, yi)).length := by rw [← HLN.out]; exact hlt
                obtain ⟨z, hzz⟩ : ∃ z, z = (T.toTr.bk (yp, yi))[j] := ⟨_, rfl⟩
                have hgd : ll.getD j (0, 0) = evI z := by
                  rw [HLL.out, List.getD_eq_getElem?_getD, List.getElem?_map, List.getElem?_eq_getElem hjb, hzz]; rfl
                have e0 : ∀ w', Ext wr w' → w'.cell? ⟨g9, j * 2, none⟩ = some (.int .i64 z.1) := fun w' h => h.cell ((hr9.c0 j hlt).trans (by rw [hgd]))
                have e1 : ∀ w', Ext wr w' → w'.cell? ⟨g9, j * 2 + 1, none⟩ = some (.int .i64 (z.2 + 1)) := fun w' h => h.cell ((hr9.c1 j hlt).trans (by rw [hgd]))
                have l9 : ∀ w', Ext wr w' → g9 < w'.heap.size := fun w' h => Nat.lt_of_lt_of_le hg9 h.le
                have hlt' : (j : Int) < (ll.length : Int) := by omega
                have hlb' : (j : Int) < ((T.toTr.bk (yp, yi)).length : Int) := by omega
                have HTK := Lib.hid (show (T.toTr.bk (yp, yi)).take (j + 1) = (T.toTr.bk (yp, yi)).take j ++ [z] by rw [List.take_succ_eq_append_getElem hjb, hzz])
                have HR9 := Lib.hid (And.intro hr9 (And.intro hg9 hne9))
                have HQL := Lib.hid (show (q ++ (T.toTr.bk (yp, yi)).take j).length ≤ 2003 by
                  have h1 := HG.out
                  have h2 : ((T.toTr.bk (yp, yi)).take j).length ≤ j := List.length_take_le _ _
                  unfold Tr.bfM at h1
                  rw [List.length_cons] at h1
                  rw [List.length_append]; omega)
                clear hr9 hg9 hne9 hzz hgd hga
                go_wp2_with (at_builtin; refine wpList_append_que _ rfl _ _ 163 163 rfl (base := B) (e := 95) (size := 2) i0 (.agg #[.int .i64 0, .int .i64 0]) 16 Tryz.underlying163 hi0 hz0 hz1 hz2 rfl rfl (HI3.out.ext (Ext.alloc _ _)).qu (HI3.out.ext (Ext.alloc _ _)).hi (.slice (some ⟨wr.heap.size, 0, none⟩) 1 1) 1 (evCells [((z.1 : Int), (z.2 : Int) + 1)]) rfl ((Que.own (evOwn_one (base := B) (g := wr.heap.size) (x := (z.1 : Int)) (y := (z.2 : Int) + 1) (by show (wr.heap.push _)[wr.heap.size]? = _; simp) HI3.out.hi)).src Tryz.underlying163 (evCells_one _)) (by have := HQL.out; unfold maxLen; omega) (by have := HQL.out; omega) ?_; rintro v10 w10 hq10 hg10 hat10; have H10 := Lib.hid (And.intro hq10 (And.intro hg10 hat10)); clear hq10 hg10 hat10)
                go_roundg (ll.length - (j + 1))
                case rel =>
                  have h10 := H10.out
                  refine ⟨j + 1, by omega, rfl, by go_num, ?_, fun _ => ?_⟩
                  · rw [HTK.out, ← List.append_assoc]
                    exact HI3.out.grow (Ext.alloc _ _) h10.1 h10.2.1
                  · obtain ⟨hr9, hg9, hne9⟩ := HR9.out
                    refine ⟨hr9.blk ?_, ?_, ?_⟩
                    · rw [h10.2.1.block g9 (by rw [World.size_alloc]; omega) (fun h => hne9 h.symm), Below.heap_alloc _ _ _ hg9]
                    · have := h10.2.1.size; rw [World.size_alloc] at this; omega
                    · intro e
                      rcases h10.2.2 with h8 | h8
                      · exact hne9 (h8 ▸ e)
                      · rw [h8, World.size_alloc] at e; simp at e; omega
                case measure => omega
              · have hje : j = ll.length := by omega
                subst hje
                go_wp2_with fail
                go_roundg (T.toTr.bfM ((yp, yi) :: S) (q ++ T.toTr.bk (yp, yi)))
                case rel => exact ⟨_, _, rfl, Nat.le_trans (Nat.le_of_lt (HP.out.less HS.out)) HGM.out, by have := HI3.out; rw [HLN.out, List.take_length] at this; exact this, HP.out.take HS.out⟩
                case measure => exact HP.out.less HS.out

end Go.Proofs.YtdplphoohnnbcaaGreatDoor
