/- Contract of antecederef28.interval. -/
import Derived.Test.YtdplphoohnnbcaaGreatDoorIr
import Derived.Lib.QuietBelow
namespace Go.Proofs.YtdplphoohnnbcaaGreatDoor
open Go.RowKit Go.Shelf

def RivPost (x : (Int × Int) × Bool) (w : World) (e : Ending) (w' : World) : Prop := e = .returned (.tuple #[.int .i64 x.1.1, .int .i64 x.1.2, .bool x.2]) ∧ Ext w w'
theorem ret_riv {a b x y : Int} {c z : Bool} (h1 : a = x) (h2 : b = y) (h3 : c = z) : Ending.returned (.tuple #[.int .i64 a, .int .i64 b, .bool c]) = .returned (.tuple #[.int .i64 x, .int .i64 y, .bool z]) := by rw [h1, h2, h3]
set_option maxRecDepth 100000 in
set_option maxHeartbeats 2000000 in
theorem rint0_any (w0 : World) (T : TM) (hT : T.At w0) (hV : T.toTr.Valid) (p : Pr) (hp : p.All T.toTr.IntN) (h0 : p.len = 0) (w : World) (hx : Ext w0 w) :
    Calls Tryz.prog 26 #[T.val, p.val] w (RivPost (T.toTr.bnd p) w) := by
  have hk14 : 1 ≤ p.kind ∧ p.kind ≤ 4 := by rcases hp.here.parts with h | h | h <;> omega
  have hr := hp.here.2.1
  have hnum : 0 ≤ p.num ∧ p.num ≤ 1125899906842624 := by obtain ⟨_, _, _, h4, h5, _⟩ := hp.here.1; exact ⟨h4, h5⟩
  have hb0 : T.toTr.bnd p = (T.toTr.leafI p.kind p.num p.proc p.peer p.name, okB (T.toTr.leafI p.kind p.num p.proc p.peer p.name)) := by rw [Tr.bnd_eq]; unfold Tr.nodeX; rw [if_pos h0]
  have HT := Lib.hid hT
  have HVV := Lib.hid hV
  have hn := hT.P.hn
  clear hp hT hV
  by_cases h1 : p.kind = 1
  · have hb : T.toTr.bnd p = ((p.num, p.num), okB (p.num, p.num)) := by rw [hb0, h1]; rfl
    rw [hb]
    simp only [Pr.val, TM.val]
    rw [h0, h1]
    obtain ⟨hn1, hn2⟩ := hnum
    clear hb hb0 hr hk14 h1 h0
    go_enter Tryz.func26, Tryz.ntmps26
    go_upto_region 1 with fail
    refine boxed2 (w := w) (G := fun x => Code.wp _ _ _ _ x) ?_
    intro w1 hx1 hs1 ⟨l0, c0, _, _⟩ ⟨l1, c1, _, _⟩
    have hx11 : Ext w1 w1 := Ext.refl _
    have hx01 := hx.trans hx1
    clear hs1
    go_wp2_with fail
    go_quiet (fail)
    have hxq := hx1.drewN (n := 0)
    go_wp2_with fail
    all_goals go_ret3
    all_goals refine ⟨ret_riv rfl rfl ?_, (by first | exact hx1.drewN _ | exact hx1.drew)⟩
    all_goals (unfold okB; simp; try omega)
  · have d1 : (p.kind == 1) = false := by simp [h1]
    by_cases h2 : p.kind = 2
    · have d2 : (p.kind == 2) = true := by simp [h2]
      obtain ⟨⟨hp0, hp1⟩, _, hv⟩ := hr.1 h2
      obtain ⟨k, hk0⟩ : ∃ k : Nat, p.proc = k := ⟨p.proc.toNat, by omega⟩
      rw [hk0, Int.toNat_natCast] at hv
      have hk : k < T.n := by omega
      obtain ⟨v, hvlt, hvi⟩ := Tr.varI_lt hv
      have hb : T.toTr.bnd p = ((T.toTr.low k v, T.toTr.high k v), okB (T.toTr.low k v, T.toTr.high k v)) := by
        rw [hb0]
        have : T.toTr.leafI p.kind p.num p.proc p.peer p.name = (T.toTr.low k v, T.toTr.high k v) := by
          unfold Tr.leafI
          rw [if_neg (by omega), if_neg (by omega), if_neg (by omega), hk0, Int.toNat_natCast, hvi, Int.toNat_natCast]
        rw [this]
      rw [hb]
      have hVar := fun W (h : Ext w0 W) => rVar_any W T (HT.out.ext h) k hk p.name
      have hRan := fun W (h : Ext w0 W) => rRange_any W T (HT.out.ext h) HVV.out k hk v hvlt
      simp only [Pr.val, TM.val, hvi] at hVar hRan ⊢
      rw [h0, hk0, h2]
      have HVar := Lib.hid hVar
      have HRan := Lib.hid hRan
      generalize T.toTr.low k v = lo at HRan ⊢
      generalize T.toTr.high k v = hi at HRan ⊢
      clear hVar hRan hb hb0 hr hk14 h0 hv hvi hp0 hp1 hk0 hnum h1 h2 d1 d2
      go_enter Tryz.func26, Tryz.ntmps26
      go_upto_region 1 with fail
      refine boxed2 (w := w) (G := fun x => Code.wp _ _ _ _ x) ?_
      intro w1 hx1 hs1 ⟨l0, c0, _, _⟩ ⟨l1, c1, _, _⟩
      have hx11 : Ext w1 w1 := Ext.refl _
      have hx01 := hx.trans hx1
      clear hs1
      have hg0 : ∀ d os, Ext w0 (Sort.grow (redrawn w1 d) os) := fun d os => hx01.trans (below_regrown w1 d os)
      have hg1 : ∀ d os, Ext w1 (Sort.grow (redrawn w1 d) os) := fun d os => below_regrown w1 d os
      go_upto_region 13 with fail
      refine wp_region_quiet_below (by kernel_rfl) (by kernel_rfl) ?_
      repeat (go_big_quiet_step (first | exact Calls.regrown_of (HVar.out _ (hg0 _ _)) | exact Calls.regrown_of (HRan.out _ (hg0 _ _))))
      refine wpQuiet_nil ?_
      intro _ hw'
      obtain ⟨⟨dq, osq⟩, hw''⟩ := hw'
      subst hw''
      have hx16 := hg1 dq osq
      generalize Sort.grow (redrawn w1 dq) osq = w6 at hx16 ⊢
      go_wp2_with fail
      all_goals go_ret3
      all_goals refine ⟨ret_riv rfl rfl ?_, hx1.trans hx16⟩
      all_goals (unfold okB; simp; try omega)
    · have d2 : (p.kind == 2) = false := by simp [h2]
      by_cases h3 : p.kind = 3
      · obtain ⟨⟨hp0, hp1⟩, _, _⟩ := hr.2.1 h3
        obtain ⟨k, hk0⟩ : ∃ k : Nat, p.proc = k := ⟨p.proc.toNat, by omega⟩
        have hk : k < T.n := by omega
        have hk' : (k : Int) < (T.n : Int) := by omega
        have hb : T.toTr.bnd p = ((0, (T.en k : Int)), okB (0, (T.en k : Int))) := by
          rw [hb0]
          have : T.toTr.leafI p.kind p.num p.proc p.peer p.name = (0, (T.en k : Int)) := by
            unfold Tr.leafI
            rw [if_neg (by omega), if_pos h3, hk0, Int.toNat_natCast]
          rw [this]
        rw [hb]
        simp only [Pr.val, TM.val]
        rw [h0, hk0, h3]
        have pa := HT.out.P.pa (by omega)
        have pb := HT.out.P.pb (by omega)
        have p2 : ∀ w', Ext w0 w' → w'.cell? ⟨T.b, T.off + k * 3 + 2, none⟩ = some (.slice (T.ea k) (T.en k) (T.ec k)) := fun w' h => HT.out.P.p2 w' h k hk
        have hen := HT.out.E.he k hk
        clear hb hb0 hr hk14 h0 hp0 hp1 hk0 hnum h1 h2 h3 d1 d2
        go_enter Tryz.func26, Tryz.ntmps26
        go_upto_region 1 with fail
        refine boxed2 (w := w) (G := fun x => Code.wp _ _ _ _ x) ?_
        intro w1 hx1 hs1 ⟨l0, c0, _, _⟩ ⟨l1, c1, _, _⟩
        have hx11 : Ext w1 w1 := Ext.refl _
        have hx01 := hx.trans hx1
        clear hs1
        go_wp2_with fail
        all_goals go_ret3
        all_goals refine ⟨ret_riv rfl rfl ?_, hx1⟩
        all_goals (unfold okB; simp; try omega)
      · have d3 : (p.kind == 3) = false := by simp [h3]
        have h4 : p.kind = 4 := by omega
        obtain ⟨⟨hp0, hp1⟩, _, _, _⟩ := hr.2.2 h4
        obtain ⟨k, hk0⟩ : ∃ k : Nat, p.proc = k := ⟨p.proc.toNat, by omega⟩
        have hk : k < T.n := by omega
        have hb : T.toTr.bnd p = ((0, (T.toTr.sentTo k p.peer (T.en k) : Int)), okB (0, (T.toTr.sentTo k p.peer (T.en k) : Int))) := by
          rw [hb0]
          have : T.toTr.leafI p.kind p.num p.proc p.peer p.name = (0, (T.toTr.sentTo k p.peer (T.en k) : Int)) := by
            unfold Tr.leafI
            rw [if_neg (by omega), if_neg (by omega), if_pos h4, hk0, Int.toNat_natCast]
          rw [this]
        rw [hb]
        have hM := fun W (h : Ext w0 W) => rsent_any W T (HT.out.ext h) k hk p.peer
        simp only [Pr.val, TM.val] at hM ⊢
        have HM := Lib.hid hM
        rw [h0, hk0, h4]
        generalize T.toTr.sentTo k p.peer (T.en k) = m at HM ⊢
        clear hM hb hb0 hr hk14 h0 hp0 hp1 hk0 hnum h1 h2 h3 h4 d1 d2 d3
        go_enter Tryz.func26, Tryz.ntmps26
        go_upto_region 1 with fail
        refine boxed2 (w := w) (G := fun x => Code.wp _ _ _ _ x) ?_
        intro w1 hx1 hs1 ⟨l0, c0, _, _⟩ ⟨l1, c1, _, _⟩
        have hx11 : Ext w1 w1 := Ext.refl _
        have hx01 := hx.trans hx1
        clear hs1
        go_wp2_with fail
        go_at_call 60
        refine (HM.out _ hx01).mono ?_
        rintro e w3 ⟨rfl, hx3⟩
        have hx13 : Ext w1 w3 := hx3
        go_wp2_with fail
        all_goals go_ret3
        all_goals refine ⟨ret_riv rfl rfl ?_, hx1.trans hx3⟩
        all_goals (unfold okB; simp; try omega)
set_option maxRecDepth 100000 in
set_option maxHeartbeats 2000000 in
theorem rint1_any (w0 : World) (T : TM) (hV : T.toTr.Valid) (p : Pr) (hp : p.All T.toTr.IntN) (hpa : p.At w0) (h1 : p.len = 1) (w : World) (hx : Ext w0 w)
    (hB : ∀ i, i < p.len → ∀ W, Ext w0 W → Calls Tryz.prog 26 #[T.val, (p.kid i).val] W (RivPost (T.toTr.bnd (p.kid i)) W)) :
    Calls Tryz.prog 26 #[T.val, p.val] w (RivPost (T.toTr.bnd p) w) := by
  have hk5 : p.kind = 5 := by rcases hp.here.parts with h | h | h <;> omega
  have hb : T.toTr.bnd p = T.toTr.nodeX p.kind p.num p.proc p.peer p.name p.len (T.toTr.bnd (p.kid 0)) (T.toTr.bnd (p.kid 1)) := Tr.bnd_eq _ _
  rw [hb, h1, hk5]
  have hB0 := hB 0 (by omega)
  have hok := fun h => Tr.bnd_ok hV (p := p.kid 0) (hp.kid (by omega)) h
  have kb := hpa.here.hb (by omega)
  have ka := hpa.here.ha (by omega)
  have k00 : ∀ w', Ext w0 w' → w'.cell? ⟨p.b, p.off, none⟩ = _ := fun w' h => by have := hpa.here.c0 w' h 0 (by omega); simpa using this
  have k10 : ∀ w', Ext w0 w' → w'.cell? ⟨p.b, p.off + 1, none⟩ = _ := fun w' h => by have := hpa.here.c1 w' h 0 (by omega); simpa using this
  have k20 : ∀ w', Ext w0 w' → w'.cell? ⟨p.b, p.off + 2, none⟩ = _ := fun w' h => by have := hpa.here.c2 w' h 0 (by omega); simpa using this
  have k30 : ∀ w', Ext w0 w' → w'.cell? ⟨p.b, p.off + 3, none⟩ = _ := fun w' h => by have := hpa.here.c3 w' h 0 (by omega); simpa using this
  have k40 : ∀ w', Ext w0 w' → w'.cell? ⟨p.b, p.off + 4, none⟩ = _ := fun w' h => by have := hpa.here.c4 w' h 0 (by omega); simpa using this
  have k50 : ∀ w', Ext w0 w' → w'.cell? ⟨p.b, p.off + 5, none⟩ = _ := fun w' h => by have := hpa.here.c5 w' h 0 (by omega); simpa using this
  obtain ⟨⟨⟨xl, xh⟩, xo⟩, hxx⟩ : ∃ x, x = T.toTr.bnd (p.kid 0) := ⟨_, rfl⟩
  rw [← hxx] at hB0 hok ⊢
  simp only [Pr.val, TM.val] at hB0 ⊢
  rw [h1, hk5, ka]
  have HB0 := Lib.hid hB0
  generalize T.toTr.bnd (p.kid 1) = y
  clear hB0 hxx hb hB hp hpa h1 hk5 ka hV
  cases xo with
  | false =>
    clear hok
    have HN := Lib.hid (show T.toTr.nodeX 5 p.num p.proc p.peer p.name 1 ((xl, xh), false) y = ((0, 0), false) from by unfold Tr.nodeX; simp)
    rw [HN.out]
    clear HN
    go_enter Tryz.func26, Tryz.ntmps26
    go_upto_region 1 with fail
    refine boxed2 (w := w) (G := fun x => Code.wp _ _ _ _ x) ?_
    intro w1 hx1 hs1 ⟨l0, c0, _, _⟩ ⟨l1, c1, _, _⟩
    have hx11 : Ext w1 w1 := Ext.refl _
    have hx01 := hx.trans hx1
    clear hs1
    go_wp2_with fail
    go_upto_region 4 with fail
    refine wp_region_reads 5 (by kernel_rfl) (by kernel_rfl) ?_
    simp only [List.take_succ_cons, List.take_zero]
    repeat still_step
    refine wpStill_nil ?_
    refine wpAny_ready (rs := [5]) (by kernel_rfl) (by simp) ?_
    refine AllReady.cons rfl (fun K hK => ?_) AllReady.nil
    go_simp
    go_at_call 26
    refine (HB0.out _ (hx01.trans (hx11).drew)).mono ?_
    rintro e w3 ⟨rfl, hxn⟩
    refine hK _ _ ?_; clear hK K
    have hx13 : Ext w1 w3 := (hx11).drew.trans hxn
    have hzw3 : Ext w0 w3 := hx01.trans hx13
    clear hxn
    refine wpAny_take (i := 6) (v := ?_) rfl (by kernel_rfl) (by kernel_rfl) (by kernel_rfl) (fun _ _ _ h => h) (Or.inl ⟨by rfl, ?_⟩) ?_
    rotate_left
    · intro w; go_simp; try with_reducible rfl
    refine wpAny_take (i := 7) (v := ?_) rfl (by kernel_rfl) (by kernel_rfl) (by kernel_rfl) (fun _ _ _ h => h) (Or.inl ⟨by rfl, ?_⟩) ?_
    rotate_left
    · intro w; go_simp; try with_reducible rfl
    refine wpAny_take (i := 8) (v := ?_) rfl (by kernel_rfl) (by kernel_rfl) (by kernel_rfl) (fun _ _ _ h => h) (Or.inl ⟨by rfl, ?_⟩) ?_
    rotate_left
    · intro w; go_simp; try with_reducible rfl
    refine wpAny_take (i := 9) (v := ?_) rfl (by kernel_rfl) (by kernel_rfl) (by kernel_rfl) (fun _ _ _ h => h) (Or.inl ⟨by rfl, ?_⟩) ?_
    rotate_left
    · intro w; go_simp; try with_reducible rfl
    refine wpAny_take (i := 10) (v := ?_) rfl (by kernel_rfl) (by kernel_rfl) (by kernel_rfl) (fun _ _ _ h => h) (Or.inl ⟨by rfl, ?_⟩) ?_
    rotate_left
    · intro w; go_simp; try with_reducible rfl
    refine wpAny_take (i := 11) (v := ?_) rfl (by kernel_rfl) (by kernel_rfl) (by kernel_rfl) (fun _ _ _ h => h) (Or.inl ⟨by rfl, ?_⟩) ?_
    rotate_left
    · intro w; go_simp; try with_reducible rfl
    refine wpAny_take (i := 12) (v := ?_) rfl (by kernel_rfl) (by kernel_rfl) (by kernel_rfl) (fun _ _ _ h => h) (Or.inl ⟨by rfl, ?_⟩) ?_
    rotate_left
    · intro w; go_simp; try with_reducible rfl
    refine wpAny_done (by kernel_rfl) ?_ _
    go_wp2_with fail
    go_ret3
    exact ⟨rfl, hx1.trans hx13⟩
  | true =>
    obtain ⟨o1, o2, o3⟩ := hok rfl
    dsimp only at o1 o2 o3
    have HN := Lib.hid (show T.toTr.nodeX 5 p.num p.proc p.peer p.name 1 ((xl, xh), true) y = ((-xh, -xl), okB (-xh, -xl)) from by unfold Tr.nodeX; simp [combI])
    rw [HN.out]
    clear HN hok
    go_enter Tryz.func26, Tryz.ntmps26
    go_upto_region 1 with fail
    refine boxed2 (w := w) (G := fun x => Code.wp _ _ _ _ x) ?_
    intro w1 hx1 hs1 ⟨l0, c0, _, _⟩ ⟨l1, c1, _, _⟩
    have hx11 : Ext w1 w1 := Ext.refl _
    have hx01 := hx.trans hx1
    clear hs1
    go_wp2_with fail
    go_upto_region 4 with fail
    refine wp_region_reads 5 (by kernel_rfl) (by kernel_rfl) ?_
    simp only [List.take_succ_cons, List.take_zero]
    repeat still_step
    refine wpStill_nil ?_
    refine wpAny_ready (rs := [5]) (by kernel_rfl) (by simp) ?_
    refine AllReady.cons rfl (fun K hK => ?_) AllReady.nil
    go_simp
    go_at_call 26
    refine (HB0.out _ (hx01.trans (hx11).drew)).mono ?_
    rintro e w3 ⟨rfl, hxn⟩
    refine hK _ _ ?_; clear hK K
    have hx13 : Ext w1 w3 := (hx11).drew.trans hxn
    have hzw3 : Ext w0 w3 := hx01.trans hx13
    clear hxn
    refine wpAny_take (i := 6) (v := ?_) rfl (by kernel_rfl) (by kernel_rfl) (by kernel_rfl) (fun _ _ _ h => h) (Or.inl ⟨by rfl, ?_⟩) ?_
    rotate_left
    · intro w; go_simp; try with_reducible rfl
    refine wpAny_take (i := 7) (v := ?_) rfl (by kernel_rfl) (by kernel_rfl) (by kernel_rfl) (fun _ _ _ h => h) (Or.inl ⟨by rfl, ?_⟩) ?_
    rotate_left
    · intro w; go_simp; try with_reducible rfl
    refine wpAny_take (i := 8) (v := ?_) rfl (by kernel_rfl) (by kernel_rfl) (by kernel_rfl) (fun _ _ _ h => h) (Or.inl ⟨by rfl, ?_⟩) ?_
    rotate_left
    · intro w; go_simp; try with_reducible rfl
    refine wpAny_take (i := 9) (v := ?_) rfl (by kernel_rfl) (by kernel_rfl) (by kernel_rfl) (fun _ _ _ h => h) (Or.inl ⟨by rfl, ?_⟩) ?_
    rotate_left
    · intro w; go_simp; try with_reducible rfl
    refine wpAny_take (i := 10) (v := ?_) rfl (by kernel_rfl) (by kernel_rfl) (by kernel_rfl) (fun _ _ _ h => h) (Or.inl ⟨by rfl, ?_⟩) ?_
    rotate_left
    · intro w; go_simp; try with_reducible rfl
    refine wpAny_take (i := 11) (v := ?_) rfl (by kernel_rfl) (by kernel_rfl) (by kernel_rfl) (fun _ _ _ h => h) (Or.inl ⟨by rfl, ?_⟩) ?_
    rotate_left
    · intro w; go_simp; try with_reducible rfl
    refine wpAny_take (i := 12) (v := ?_) rfl (by kernel_rfl) (by kernel_rfl) (by kernel_rfl) (fun _ _ _ h => h) (Or.inl ⟨by rfl, ?_⟩) ?_
    rotate_left
    · intro w; go_simp; try with_reducible rfl
    refine wpAny_done (by kernel_rfl) ?_ _
    go_wp2_with fail
    all_goals go_ret3
    all_goals refine ⟨ret_riv rfl rfl ?_, hx1.trans hx13⟩
    all_goals (unfold okB; simp; try omega)
set_option maxRecDepth 100000 in
set_option maxHeartbeats 2000000 in
theorem rint6_any (w0 : World) (T : TM) (hV : T.toTr.Valid) (p : Pr) (hp : p.All T.toTr.IntN) (hpa : p.At w0) (h2 : p.len = 2) (hk : p.kind = 6) (w : World) (hx : Ext w0 w)
    (hB : ∀ i, i < p.len → ∀ W, Ext w0 W → Calls Tryz.prog 26 #[T.val, (p.kid i).val] W (RivPost (T.toTr.bnd (p.kid i)) W)) :
    Calls Tryz.prog 26 #[T.val, p.val] w (RivPost (T.toTr.bnd p) w) := by
  have hb : T.toTr.bnd p = T.toTr.nodeX p.kind p.num p.proc p.peer p.name p.len (T.toTr.bnd (p.kid 0)) (T.toTr.bnd (p.kid 1)) := Tr.bnd_eq _ _
  rw [hb, h2, hk]
  have hB0 := hB 0 (by omega)
  have hB1 := hB 1 (by omega)
  have hok := fun h => Tr.bnd_ok hV (p := p.kid 0) (hp.kid (by omega)) h
  have hok1 := fun h => Tr.bnd_ok hV (p := p.kid 1) (hp.kid (by omega)) h
  have kb := hpa.here.hb (by omega)
  have ka := hpa.here.ha (by omega)
  have k00 : ∀ w', Ext w0 w' → w'.cell? ⟨p.b, p.off, none⟩ = _ := fun w' h => by have := hpa.here.c0 w' h 0 (by omega); simpa using this
  have k10 : ∀ w', Ext w0 w' → w'.cell? ⟨p.b, p.off + 1, none⟩ = _ := fun w' h => by have := hpa.here.c1 w' h 0 (by omega); simpa using this
  have k20 : ∀ w', Ext w0 w' → w'.cell? ⟨p.b, p.off + 2, none⟩ = _ := fun w' h => by have := hpa.here.c2 w' h 0 (by omega); simpa using this
  have k30 : ∀ w', Ext w0 w' → w'.cell? ⟨p.b, p.off + 3, none⟩ = _ := fun w' h => by have := hpa.here.c3 w' h 0 (by omega); simpa using this
  have k40 : ∀ w', Ext w0 w' → w'.cell? ⟨p.b, p.off + 4, none⟩ = _ := fun w' h => by have := hpa.here.c4 w' h 0 (by omega); simpa using this
  have k50 : ∀ w', Ext w0 w' → w'.cell? ⟨p.b, p.off + 5, none⟩ = _ := fun w' h => by have := hpa.here.c5 w' h 0 (by omega); simpa using this
  have k01 : ∀ w', Ext w0 w' → w'.cell? ⟨p.b, p.off + 6, none⟩ = _ := fun w' h => by have := hpa.here.c0 w' h 1 (by omega); simpa using this
  have k11 : ∀ w', Ext w0 w' → w'.cell? ⟨p.b, p.off + 7, none⟩ = _ := fun w' h => by have := hpa.here.c1 w' h 1 (by omega); simpa using this
  have k21 : ∀ w', Ext w0 w' → w'.cell? ⟨p.b, p.off + 8, none⟩ = _ := fun w' h => by have := hpa.here.c2 w' h 1 (by omega); simpa using this
  have k31 : ∀ w', Ext w0 w' → w'.cell? ⟨p.b, p.off + 9, none⟩ = _ := fun w' h => by have := hpa.here.c3 w' h 1 (by omega); simpa using this
  have k41 : ∀ w', Ext w0 w' → w'.cell? ⟨p.b, p.off + 10, none⟩ = _ := fun w' h => by have := hpa.here.c4 w' h 1 (by omega); simpa using this
  have k51 : ∀ w', Ext w0 w' → w'.cell? ⟨p.b, p.off + 11, none⟩ = _ := fun w' h => by have := hpa.here.c5 w' h 1 (by omega); simpa using this
  obtain ⟨⟨⟨xl, xh⟩, xo⟩, hxx⟩ : ∃ x, x = T.toTr.bnd (p.kid 0) := ⟨_, rfl⟩
  obtain ⟨⟨⟨yl, yh⟩, yo⟩, hyy⟩ : ∃ x, x = T.toTr.bnd (p.kid 1) := ⟨_, rfl⟩
  rw [← hxx] at hB0 hok ⊢
  rw [← hyy] at hB1 hok1 ⊢
  simp only [Pr.val, TM.val] at hB0 hB1 ⊢
  rw [h2, hk, ka]
  have HB0 := Lib.hid hB0
  have HB1 := Lib.hid hB1
  clear hB0 hB1 hxx hyy hb hB hp hpa h2 hk ka hV
  cases xo with
  | false =>
    clear hok hok1
    have HN := Lib.hid (show T.toTr.nodeX 6 p.num p.proc p.peer p.name 2 ((xl, xh), false) ((yl, yh), yo) = ((0, 0), false) from by unfold Tr.nodeX; simp)
    rw [HN.out]
    clear HN
    go_enter Tryz.func26, Tryz.ntmps26
    go_upto_region 1 with fail
    refine boxed2 (w := w) (G := fun x => Code.wp _ _ _ _ x) ?_
    intro w1 hx1 hs1 ⟨l0, c0, _, _⟩ ⟨l1, c1, _, _⟩
    have hx11 : Ext w1 w1 := Ext.refl _
    have hx01 := hx.trans hx1
    clear hs1
    go_wp2_with fail
    go_upto_region 4 with fail
    refine wp_region_reads 5 (by kernel_rfl) (by kernel_rfl) ?_
    simp only [List.take_succ_cons, List.take_zero]
    repeat still_step
    refine wpStill_nil ?_
    refine wpAny_ready (rs := [5]) (by kernel_rfl) (by simp) ?_
    refine AllReady.cons rfl (fun K hK => ?_) AllReady.nil
    go_simp
    go_at_call 26
    refine (HB0.out _ (hx01.trans (hx11).drew)).mono ?_
    rintro e w3 ⟨rfl, hxn⟩
    refine hK _ _ ?_; clear hK K
    have hx13 : Ext w1 w3 := (hx11).drew.trans hxn
    have hzw3 : Ext w0 w3 := hx01.trans hx13
    clear hxn
    refine wpAny_take (i := 6) (v := ?_) rfl (by kernel_rfl) (by kernel_rfl) (by kernel_rfl) (fun _ _ _ h => h) (Or.inl ⟨by rfl, ?_⟩) ?_
    rotate_left
    · intro w; go_simp; try with_reducible rfl
    refine wpAny_take (i := 7) (v := ?_) rfl (by kernel_rfl) (by kernel_rfl) (by kernel_rfl) (fun _ _ _ h => h) (Or.inl ⟨by rfl, ?_⟩) ?_
    rotate_left
    · intro w; go_simp; try with_reducible rfl
    refine wpAny_take (i := 8) (v := ?_) rfl (by kernel_rfl) (by kernel_rfl) (by kernel_rfl) (fun _ _ _ h => h) (Or.inl ⟨by rfl, ?_⟩) ?_
    rotate_left
    · intro w; go_simp; try with_reducible rfl
    refine wpAny_take (i := 9) (v := ?_) rfl (by kernel_rfl) (by kernel_rfl) (by kernel_rfl) (fun _ _ _ h => h) (Or.inl ⟨by rfl, ?_⟩) ?_
    rotate_left
    · intro w; go_simp; try with_reducible rfl
    refine wpAny_take (i := 10) (v := ?_) rfl (by kernel_rfl) (by kernel_rfl) (by kernel_rfl) (fun _ _ _ h => h) (Or.inl ⟨by rfl, ?_⟩) ?_
    rotate_left
    · intro w; go_simp; try with_reducible rfl
    refine wpAny_take (i := 11) (v := ?_) rfl (by kernel_rfl) (by kernel_rfl) (by kernel_rfl) (fun _ _ _ h => h) (Or.inl ⟨by rfl, ?_⟩) ?_
    rotate_left
    · intro w; go_simp; try with_reducible rfl
    refine wpAny_take (i := 12) (v := ?_) rfl (by kernel_rfl) (by kernel_rfl) (by kernel_rfl) (fun _ _ _ h => h) (Or.inl ⟨by rfl, ?_⟩) ?_
    rotate_left
    · intro w; go_simp; try with_reducible rfl
    refine wpAny_done (by kernel_rfl) ?_ _
    go_wp2_with fail
    go_upto_region 6 with fail
    refine wp_region_reads 5 (by kernel_rfl) (by kernel_rfl) ?_
    simp only [List.take_succ_cons, List.take_zero]
    repeat still_step
    refine wpStill_nil ?_
    refine wpAny_ready (rs := [5]) (by kernel_rfl) (by simp) ?_
    refine AllReady.cons rfl (fun K hK => ?_) AllReady.nil
    go_simp
    go_at_call 26
    refine (HB1.out _ (hx01.trans (hx13).drew)).mono ?_
    rintro e w5 ⟨rfl, hxn⟩
    refine hK _ _ ?_; clear hK K
    have hx15 : Ext w1 w5 := (hx13).drew.trans hxn
    have hzw5 : Ext w0 w5 := hx01.trans hx15
    clear hxn
    refine wpAny_take (i := 6) (v := ?_) rfl (by kernel_rfl) (by kernel_rfl) (by kernel_rfl) (fun _ _ _ h => h) (Or.inl ⟨by rfl, ?_⟩) ?_
    rotate_left
    · intro w; go_simp; try with_reducible rfl
    refine wpAny_take (i := 7) (v := ?_) rfl (by kernel_rfl) (by kernel_rfl) (by kernel_rfl) (fun _ _ _ h => h) (Or.inl ⟨by rfl, ?_⟩) ?_
    rotate_left
    · intro w; go_simp; try with_reducible rfl
    refine wpAny_take (i := 8) (v := ?_) rfl (by kernel_rfl) (by kernel_rfl) (by kernel_rfl) (fun _ _ _ h => h) (Or.inl ⟨by rfl, ?_⟩) ?_
    rotate_left
    · intro w; go_simp; try with_reducible rfl
    refine wpAny_take (i := 9) (v := ?_) rfl (by kernel_rfl) (by kernel_rfl) (by kernel_rfl) (fun _ _ _ h => h) (Or.inl ⟨by rfl, ?_⟩) ?_
    rotate_left
    · intro w; go_simp; try with_reducible rfl
    refine wpAny_take (i := 10) (v := ?_) rfl (by kernel_rfl) (by kernel_rfl) (by kernel_rfl) (fun _ _ _ h => h) (Or.inl ⟨by rfl, ?_⟩) ?_
    rotate_left
    · intro w; go_simp; try with_reducible rfl
    refine wpAny_take (i := 11) (v := ?_) rfl (by kernel_rfl) (by kernel_rfl) (by kernel_rfl) (fun _ _ _ h => h) (Or.inl ⟨by rfl, ?_⟩) ?_
    rotate_left
    · intro w; go_simp; try with_reducible rfl
    refine wpAny_take (i := 12) (v := ?_) rfl (by kernel_rfl) (by kernel_rfl) (by kernel_rfl) (fun _ _ _ h => h) (Or.inl ⟨by rfl, ?_⟩) ?_
    rotate_left
    · intro w; go_simp; try with_reducible rfl
    refine wpAny_done (by kernel_rfl) ?_ _
    go_wp2_with fail
    go_ret3
    exact ⟨rfl, hx1.trans hx15⟩
  | true =>
    cases yo with
    | false =>
      clear hok hok1
      have HN := Lib.hid (show T.toTr.nodeX 6 p.num p.proc p.peer p.name 2 ((xl, xh), true) ((yl, yh), false) = ((0, 0), false) from by unfold Tr.nodeX; simp)
      rw [HN.out]
      clear HN
      go_enter Tryz.func26, Tryz.ntmps26
      go_upto_region 1 with fail
      refine boxed2 (w := w) (G := fun x => Code.wp _ _ _ _ x) ?_
      intro w1 hx1 hs1 ⟨l0, c0, _, _⟩ ⟨l1, c1, _, _⟩
      have hx11 : Ext w1 w1 := Ext.refl _
      have hx01 := hx.trans hx1
      clear hs1
      go_wp2_with fail
      go_upto_region 4 with fail
      refine wp_region_reads 5 (by kernel_rfl) (by kernel_rfl) ?_
      simp only [List.take_succ_cons, List.take_zero]
      repeat still_step
      refine wpStill_nil ?_
      refine wpAny_ready (rs := [5]) (by kernel_rfl) (by simp) ?_
      refine AllReady.cons rfl (fun K hK => ?_) AllReady.nil
      go_simp
      go_at_call 26
      refine (HB0.out _ (hx01.trans (hx11).drew)).mono ?_
      rintro e w3 ⟨rfl, hxn⟩
      refine hK _ _ ?_; clear hK K
      have hx13 : Ext w1 w3 := (hx11).drew.trans hxn
      have hzw3 : Ext w0 w3 := hx01.trans hx13
      clear hxn
      refine wpAny_take (i := 6) (v := ?_) rfl (by kernel_rfl) (by kernel_rfl) (by kernel_rfl) (fun _ _ _ h => h) (Or.inl ⟨by rfl, ?_⟩) ?_
      rotate_left
      · intro w; go_simp; try with_reducible rfl
      refine wpAny_take (i := 7) (v := ?_) rfl (by kernel_rfl) (by kernel_rfl) (by kernel_rfl) (fun _ _ _ h => h) (Or.inl ⟨by rfl, ?_⟩) ?_
      rotate_left
      · intro w; go_simp; try with_reducible rfl
      refine wpAny_take (i := 8) (v := ?_) rfl (by kernel_rfl) (by kernel_rfl) (by kernel_rfl) (fun _ _ _ h => h) (Or.inl ⟨by rfl, ?_⟩) ?_
      rotate_left
      · intro w; go_simp; try with_reducible rfl
      refine wpAny_take (i := 9) (v := ?_) rfl (by kernel_rfl) (by kernel_rfl) (by kernel_rfl) (fun _ _ _ h => h) (Or.inl ⟨by rfl, ?_⟩) ?_
      rotate_left
      · intro w; go_simp; try with_reducible rfl
      refine wpAny_take (i := 10) (v := ?_) rfl (by kernel_rfl) (by kernel_rfl) (by kernel_rfl) (fun _ _ _ h => h) (Or.inl ⟨by rfl, ?_⟩) ?_
      rotate_left
      · intro w; go_simp; try with_reducible rfl
      refine wpAny_take (i := 11) (v := ?_) rfl (by kernel_rfl) (by kernel_rfl) (by kernel_rfl) (fun _ _ _ h => h) (Or.inl ⟨by rfl, ?_⟩) ?_
      rotate_left
      · intro w; go_simp; try with_reducible rfl
      refine wpAny_take (i := 12) (v := ?_) rfl (by kernel_rfl) (by kernel_rfl) (by kernel_rfl) (fun _ _ _ h => h) (Or.inl ⟨by rfl, ?_⟩) ?_
      rotate_left
      · intro w; go_simp; try with_reducible rfl
      refine wpAny_done (by kernel_rfl) ?_ _
      go_wp2_with fail
      go_upto_region 6 with fail
      refine wp_region_reads 5 (by kernel_rfl) (by kernel_rfl) ?_
      simp only [List.take_succ_cons, List.take_zero]
      repeat still_step
      refine wpStill_nil ?_
      refine wpAny_ready (rs := [5]) (by kernel_rfl) (by simp) ?_
      refine AllReady.cons rfl (fun K hK => ?_) AllReady.nil
      go_simp
      go_at_call 26
      refine (HB1.out _ (hx01.trans (hx13).drew)).mono ?_
      rintro e w5 ⟨rfl, hxn⟩
      refine hK _ _ ?_; clear hK K
      have hx15 : Ext w1 w5 := (hx13).drew.trans hxn
      have hzw5 : Ext w0 w5 := hx01.trans hx15
      clear hxn
      refine wpAny_take (i := 6) (v := ?_) rfl (by kernel_rfl) (by kernel_rfl) (by kernel_rfl) (fun _ _ _ h => h) (Or.inl ⟨by rfl, ?_⟩) ?_
      rotate_left
      · intro w; go_simp; try with_reducible rfl
      refine wpAny_take (i := 7) (v := ?_) rfl (by kernel_rfl) (by kernel_rfl) (by kernel_rfl) (fun _ _ _ h => h) (Or.inl ⟨by rfl, ?_⟩) ?_
      rotate_left
      · intro w; go_simp; try with_reducible rfl
      refine wpAny_take (i := 8) (v := ?_) rfl (by kernel_rfl) (by kernel_rfl) (by kernel_rfl) (fun _ _ _ h => h) (Or.inl ⟨by rfl, ?_⟩) ?_
      rotate_left
      · intro w; go_simp; try with_reducible rfl
      refine wpAny_take (i := 9) (v := ?_) rfl (by kernel_rfl) (by kernel_rfl) (by kernel_rfl) (fun _ _ _ h => h) (Or.inl ⟨by rfl, ?_⟩) ?_
      rotate_left
      · intro w; go_simp; try with_reducible rfl
      refine wpAny_take (i := 10) (v := ?_) rfl (by kernel_rfl) (by kernel_rfl) (by kernel_rfl) (fun _ _ _ h => h) (Or.inl ⟨by rfl, ?_⟩) ?_
      rotate_left
      · intro w; go_simp; try with_reducible rfl
      refine wpAny_take (i := 11) (v := ?_) rfl (by kernel_rfl) (by kernel_rfl) (by kernel_rfl) (fun _ _ _ h => h) (Or.inl ⟨by rfl, ?_⟩) ?_
      rotate_left
      · intro w; go_simp; try with_reducible rfl
      refine wpAny_take (i := 12) (v := ?_) rfl (by kernel_rfl) (by kernel_rfl) (by kernel_rfl) (fun _ _ _ h => h) (Or.inl ⟨by rfl, ?_⟩) ?_
      rotate_left
      · intro w; go_simp; try with_reducible rfl
      refine wpAny_done (by kernel_rfl) ?_ _
      go_wp2_with fail
      go_ret3
      exact ⟨rfl, hx1.trans hx15⟩
    | true =>
      obtain ⟨o1, o2, o3⟩ := hok rfl
      obtain ⟨o4, o5, o6⟩ := hok1 rfl
      dsimp only at o1 o2 o3 o4 o5 o6
      have HN := Lib.hid (show T.toTr.nodeX 6 p.num p.proc p.peer p.name 2 ((xl, xh), true) ((yl, yh), true) = ((xl + yl, xh + yh), okB (xl + yl, xh + yh)) from by unfold Tr.nodeX; simp [combI])
      rw [HN.out]
      clear HN hok hok1
      skip
      go_enter Tryz.func26, Tryz.ntmps26
      go_upto_region 1 with fail
      refine boxed2 (w := w) (G := fun x => Code.wp _ _ _ _ x) ?_
      intro w1 hx1 hs1 ⟨l0, c0, _, _⟩ ⟨l1, c1, _, _⟩
      have hx11 : Ext w1 w1 := Ext.refl _
      have hx01 := hx.trans hx1
      clear hs1
      go_wp2_with fail
      go_upto_region 4 with fail
      refine wp_region_reads 5 (by kernel_rfl) (by kernel_rfl) ?_
      simp only [List.take_succ_cons, List.take_zero]
      repeat still_step
      refine wpStill_nil ?_
      refine wpAny_ready (rs := [5]) (by kernel_rfl) (by simp) ?_
      refine AllReady.cons rfl (fun K hK => ?_) AllReady.nil
      go_simp
      go_at_call 26
      refine (HB0.out _ (hx01.trans (hx11).drew)).mono ?_
      rintro e w3 ⟨rfl, hxn⟩
      refine hK _ _ ?_; clear hK K
      have hx13 : Ext w1 w3 := (hx11).drew.trans hxn
      have hzw3 : Ext w0 w3 := hx01.trans hx13
      clear hxn
      refine wpAny_take (i := 6) (v := ?_) rfl (by kernel_rfl) (by kernel_rfl) (by kernel_rfl) (fun _ _ _ h => h) (Or.inl ⟨by rfl, ?_⟩) ?_
      rotate_left
      · intro w; go_simp; try with_reducible rfl
      refine wpAny_take (i := 7) (v := ?_) rfl (by kernel_rfl) (by kernel_rfl) (by kernel_rfl) (fun _ _ _ h => h) (Or.inl ⟨by rfl, ?_⟩) ?_
      rotate_left
      · intro w; go_simp; try with_reducible rfl
      refine wpAny_take (i := 8) (v := ?_) rfl (by kernel_rfl) (by kernel_rfl) (by kernel_rfl) (fun _ _ _ h => h) (Or.inl ⟨by rfl, ?_⟩) ?_
      rotate_left
      · intro w; go_simp; try with_reducible rfl
      refine wpAny_take (i := 9) (v := ?_) rfl (by kernel_rfl) (by kernel_rfl) (by kernel_rfl) (fun _ _ _ h => h) (Or.inl ⟨by rfl, ?_⟩) ?_
      rotate_left
      · intro w; go_simp; try with_reducible rfl
      refine wpAny_take (i := 10) (v := ?_) rfl (by kernel_rfl) (by kernel_rfl) (by kernel_rfl) (fun _ _ _ h => h) (Or.inl ⟨by rfl, ?_⟩) ?_
      rotate_left
      · intro w; go_simp; try with_reducible rfl
      refine wpAny_take (i := 11) (v := ?_) rfl (by kernel_rfl) (by kernel_rfl) (by kernel_rfl) (fun _ _ _ h => h) (Or.inl ⟨by rfl, ?_⟩) ?_
      rotate_left
      · intro w; go_simp; try with_reducible rfl
      refine wpAny_take (i := 12) (v := ?_) rfl (by kernel_rfl) (by kernel_rfl) (by kernel_rfl) (fun _ _ _ h => h) (Or.inl ⟨by rfl, ?_⟩) ?_
      rotate_left
      · intro w; go_simp; try with_reducible rfl
      refine wpAny_done (by kernel_rfl) ?_ _
      go_wp2_with fail
      go_upto_region 6 with fail
      refine wp_region_reads 5 (by kernel_rfl) (by kernel_rfl) ?_
      simp only [List.take_succ_cons, List.take_zero]
      repeat still_step
      refine wpStill_nil ?_
      refine wpAny_ready (rs := [5]) (by kernel_rfl) (by simp) ?_
      refine AllReady.cons rfl (fun K hK => ?_) AllReady.nil
      go_simp
      go_at_call 26
      refine (HB1.out _ (hx01.trans (hx13).drew)).mono ?_
      rintro e w5 ⟨rfl, hxn⟩
      refine hK _ _ ?_; clear hK K
      have hx15 : Ext w1 w5 := (hx13).drew.trans hxn
      have hzw5 : Ext w0 w5 := hx01.trans hx15
      clear hxn
      refine wpAny_take (i := 6) (v := ?_) rfl (by kernel_rfl) (by kernel_rfl) (by kernel_rfl) (fun _ _ _ h => h) (Or.inl ⟨by rfl, ?_⟩) ?_
      rotate_left
      · intro w; go_simp; try with_reducible rfl
      refine wpAny_take (i := 7) (v := ?_) rfl (by kernel_rfl) (by kernel_rfl) (by kernel_rfl) (fun _ _ _ h => h) (Or.inl ⟨by rfl, ?_⟩) ?_
      rotate_left
      · intro w; go_simp; try with_reducible rfl
      refine wpAny_take (i := 8) (v := ?_) rfl (by kernel_rfl) (by kernel_rfl) (by kernel_rfl) (fun _ _ _ h => h) (Or.inl ⟨by rfl, ?_⟩) ?_
      rotate_left
      · intro w; go_simp; try with_reducible rfl
      refine wpAny_take (i := 9) (v := ?_) rfl (by kernel_rfl) (by kernel_rfl) (by kernel_rfl) (fun _ _ _ h => h) (Or.inl ⟨by rfl, ?_⟩) ?_
      rotate_left
      · intro w; go_simp; try with_reducible rfl
      refine wpAny_take (i := 10) (v := ?_) rfl (by kernel_rfl) (by kernel_rfl) (by kernel_rfl) (fun _ _ _ h => h) (Or.inl ⟨by rfl, ?_⟩) ?_
      rotate_left
      · intro w; go_simp; try with_reducible rfl
      refine wpAny_take (i := 11) (v := ?_) rfl (by kernel_rfl) (by kernel_rfl) (by kernel_rfl) (fun _ _ _ h => h) (Or.inl ⟨by rfl, ?_⟩) ?_
      rotate_left
      · intro w; go_simp; try with_reducible rfl
      refine wpAny_take (i := 12) (v := ?_) rfl (by kernel_rfl) (by kernel_rfl) (by kernel_rfl) (fun _ _ _ h => h) (Or.inl ⟨by rfl, ?_⟩) ?_
      rotate_left
      · intro w; go_simp; try with_reducible rfl
      refine wpAny_done (by kernel_rfl) ?_ _
      go_wp2_with fail
      all_goals go_ret3
      all_goals refine ⟨ret_riv rfl rfl ?_, hx1.trans hx15⟩
      all_goals (unfold okB; simp; try omega)
set_option maxRecDepth 100000 in
set_option maxHeartbeats 2000000 in
theorem rint7_any (w0 : World) (T : TM) (hV : T.toTr.Valid) (p : Pr) (hp : p.All T.toTr.IntN) (hpa : p.At w0) (h2 : p.len = 2) (hk : p.kind = 7) (w : World) (hx : Ext w0 w)
    (hB : ∀ i, i < p.len → ∀ W, Ext w0 W → Calls Tryz.prog 26 #[T.val, (p.kid i).val] W (RivPost (T.toTr.bnd (p.kid i)) W)) :
    Calls Tryz.prog 26 #[T.val, p.val] w (RivPost (T.toTr.bnd p) w) := by
  have hb : T.toTr.bnd p = T.toTr.nodeX p.kind p.num p.proc p.peer p.name p.len (T.toTr.bnd (p.kid 0)) (T.toTr.bnd (p.kid 1)) := Tr.bnd_eq _ _
  rw [hb, h2, hk]
  have hB0 := hB 0 (by omega)
  have hB1 := hB 1 (by omega)
  have hok := fun h => Tr.bnd_ok hV (p := p.kid 0) (hp.kid (by omega)) h
  have hok1 := fun h => Tr.bnd_ok hV (p := p.kid 1) (hp.kid (by omega)) h
  have kb := hpa.here.hb (by omega)
  have ka := hpa.here.ha (by omega)
  have k00 : ∀ w', Ext w0 w' → w'.cell? ⟨p.b, p.off, none⟩ = _ := fun w' h => by have := hpa.here.c0 w' h 0 (by omega); simpa using this
  have k10 : ∀ w', Ext w0 w' → w'.cell? ⟨p.b, p.off + 1, none⟩ = _ := fun w' h => by have := hpa.here.c1 w' h 0 (by omega); simpa using this
  have k20 : ∀ w', Ext w0 w' → w'.cell? ⟨p.b, p.off + 2, none⟩ = _ := fun w' h => by have := hpa.here.c2 w' h 0 (by omega); simpa using this
  have k30 : ∀ w', Ext w0 w' → w'.cell? ⟨p.b, p.off + 3, none⟩ = _ := fun w' h => by have := hpa.here.c3 w' h 0 (by omega); simpa using this
  have k40 : ∀ w', Ext w0 w' → w'.cell? ⟨p.b, p.off + 4, none⟩ = _ := fun w' h => by have := hpa.here.c4 w' h 0 (by omega); simpa using this
  have k50 : ∀ w', Ext w0 w' → w'.cell? ⟨p.b, p.off + 5, none⟩ = _ := fun w' h => by have := hpa.here.c5 w' h 0 (by omega); simpa using this
  have k01 : ∀ w', Ext w0 w' → w'.cell? ⟨p.b, p.off + 6, none⟩ = _ := fun w' h => by have := hpa.here.c0 w' h 1 (by omega); simpa using this
  have k11 : ∀ w', Ext w0 w' → w'.cell? ⟨p.b, p.off + 7, none⟩ = _ := fun w' h => by have := hpa.here.c1 w' h 1 (by omega); simpa using this
  have k21 : ∀ w', Ext w0 w' → w'.cell? ⟨p.b, p.off + 8, none⟩ = _ := fun w' h => by have := hpa.here.c2 w' h 1 (by omega); simpa using this
  have k31 : ∀ w', Ext w0 w' → w'.cell? ⟨p.b, p.off + 9, none⟩ = _ := fun w' h => by have := hpa.here.c3 w' h 1 (by omega); simpa using this
  have k41 : ∀ w', Ext w0 w' → w'.cell? ⟨p.b, p.off + 10, none⟩ = _ := fun w' h => by have := hpa.here.c4 w' h 1 (by omega); simpa using this
  have k51 : ∀ w', Ext w0 w' → w'.cell? ⟨p.b, p.off + 11, none⟩ = _ := fun w' h => by have := hpa.here.c5 w' h 1 (by omega); simpa using this
  obtain ⟨⟨⟨xl, xh⟩, xo⟩, hxx⟩ : ∃ x, x = T.toTr.bnd (p.kid 0) := ⟨_, rfl⟩
  obtain ⟨⟨⟨yl, yh⟩, yo⟩, hyy⟩ : ∃ x, x = T.toTr.bnd (p.kid 1) := ⟨_, rfl⟩
  rw [← hxx] at hB0 hok ⊢
  rw [← hyy] at hB1 hok1 ⊢
  simp only [Pr.val, TM.val] at hB0 hB1 ⊢
  rw [h2, hk, ka]
  have HB0 := Lib.hid hB0
  have HB1 := Lib.hid hB1
  clear hB0 hB1 hxx hyy hb hB hp hpa h2 hk ka hV
  cases xo with
  | false =>
    clear hok hok1
    have HN := Lib.hid (show T.toTr.nodeX 7 p.num p.proc p.peer p.name 2 ((xl, xh), false) ((yl, yh), yo) = ((0, 0), false) from by unfold Tr.nodeX; simp)
    rw [HN.out]
    clear HN
    go_enter Tryz.func26, Tryz.ntmps26
    go_upto_region 1 with fail
    refine boxed2 (w := w) (G := fun x => Code.wp _ _ _ _ x) ?_
    intro w1 hx1 hs1 ⟨l0, c0, _, _⟩ ⟨l1, c1, _, _⟩
    have hx11 : Ext w1 w1 := Ext.refl _
    have hx01 := hx.trans hx1
    clear hs1
    go_wp2_with fail
    go_upto_region 4 with fail
    refine wp_region_reads 5 (by kernel_rfl) (by kernel_rfl) ?_
    simp only [List.take_succ_cons, List.take_zero]
    repeat still_step
    refine wpStill_nil ?_
    refine wpAny_ready (rs := [5]) (by kernel_rfl) (by simp) ?_
    refine AllReady.cons rfl (fun K hK => ?_) AllReady.nil
    go_simp
    go_at_call 26
    refine (HB0.out _ (hx01.trans (hx11).drew)).mono ?_
    rintro e w3 ⟨rfl, hxn⟩
    refine hK _ _ ?_; clear hK K
    have hx13 : Ext w1 w3 := (hx11).drew.trans hxn
    have hzw3 : Ext w0 w3 := hx01.trans hx13
    clear hxn
    refine wpAny_take (i := 6) (v := ?_) rfl (by kernel_rfl) (by kernel_rfl) (by kernel_rfl) (fun _ _ _ h => h) (Or.inl ⟨by rfl, ?_⟩) ?_
    rotate_left
    · intro w; go_simp; try with_reducible rfl
    refine wpAny_take (i := 7) (v := ?_) rfl (by kernel_rfl) (by kernel_rfl) (by kernel_rfl) (fun _ _ _ h => h) (Or.inl ⟨by rfl, ?_⟩) ?_
    rotate_left
    · intro w; go_simp; try with_reducible rfl
    refine wpAny_take (i := 8) (v := ?_) rfl (by kernel_rfl) (by kernel_rfl) (by kernel_rfl) (fun _ _ _ h => h) (Or.inl ⟨by rfl, ?_⟩) ?_
    rotate_left
    · intro w; go_simp; try with_reducible rfl
    refine wpAny_take (i := 9) (v := ?_) rfl (by kernel_rfl) (by kernel_rfl) (by kernel_rfl) (fun _ _ _ h => h) (Or.inl ⟨by rfl, ?_⟩) ?_
    rotate_left
    · intro w; go_simp; try with_reducible rfl
    refine wpAny_take (i := 10) (v := ?_) rfl (by kernel_rfl) (by kernel_rfl) (by kernel_rfl) (fun _ _ _ h => h) (Or.inl ⟨by rfl, ?_⟩) ?_
    rotate_left
    · intro w; go_simp; try with_reducible rfl
    refine wpAny_take (i := 11) (v := ?_) rfl (by kernel_rfl) (by kernel_rfl) (by kernel_rfl) (fun _ _ _ h => h) (Or.inl ⟨by rfl, ?_⟩) ?_
    rotate_left
    · intro w; go_simp; try with_reducible rfl
    refine wpAny_take (i := 12) (v := ?_) rfl (by kernel_rfl) (by kernel_rfl) (by kernel_rfl) (fun _ _ _ h => h) (Or.inl ⟨by rfl, ?_⟩) ?_
    rotate_left
    · intro w; go_simp; try with_reducible rfl
    refine wpAny_done (by kernel_rfl) ?_ _
    go_wp2_with fail
    go_upto_region 6 with fail
    refine wp_region_reads 5 (by kernel_rfl) (by kernel_rfl) ?_
    simp only [List.take_succ_cons, List.take_zero]
    repeat still_step
    refine wpStill_nil ?_
    refine wpAny_ready (rs := [5]) (by kernel_rfl) (by simp) ?_
    refine AllReady.cons rfl (fun K hK => ?_) AllReady.nil
    go_simp
    go_at_call 26
    refine (HB1.out _ (hx01.trans (hx13).drew)).mono ?_
    rintro e w5 ⟨rfl, hxn⟩
    refine hK _ _ ?_; clear hK K
    have hx15 : Ext w1 w5 := (hx13).drew.trans hxn
    have hzw5 : Ext w0 w5 := hx01.trans hx15
    clear hxn
    refine wpAny_take (i := 6) (v := ?_) rfl (by kernel_rfl) (by kernel_rfl) (by kernel_rfl) (fun _ _ _ h => h) (Or.inl ⟨by rfl, ?_⟩) ?_
    rotate_left
    · intro w; go_simp; try with_reducible rfl
    refine wpAny_take (i := 7) (v := ?_) rfl (by kernel_rfl) (by kernel_rfl) (by kernel_rfl) (fun _ _ _ h => h) (Or.inl ⟨by rfl, ?_⟩) ?_
    rotate_left
    · intro w; go_simp; try with_reducible rfl
    refine wpAny_take (i := 8) (v := ?_) rfl (by kernel_rfl) (by kernel_rfl) (by kernel_rfl) (fun _ _ _ h => h) (Or.inl ⟨by rfl, ?_⟩) ?_
    rotate_left
    · intro w; go_simp; try with_reducible rfl
    refine wpAny_take (i := 9) (v := ?_) rfl (by kernel_rfl) (by kernel_rfl) (by kernel_rfl) (fun _ _ _ h => h) (Or.inl ⟨by rfl, ?_⟩) ?_
    rotate_left
    · intro w; go_simp; try with_reducible rfl
    refine wpAny_take (i := 10) (v := ?_) rfl (by kernel_rfl) (by kernel_rfl) (by kernel_rfl) (fun _ _ _ h => h) (Or.inl ⟨by rfl, ?_⟩) ?_
    rotate_left
    · intro w; go_simp; try with_reducible rfl
    refine wpAny_take (i := 11) (v := ?_) rfl (by kernel_rfl) (by kernel_rfl) (by kernel_rfl) (fun _ _ _ h => h) (Or.inl ⟨by rfl, ?_⟩) ?_
    rotate_left
    · intro w; go_simp; try with_reducible rfl
    refine wpAny_take (i := 12) (v := ?_) rfl (by kernel_rfl) (by kernel_rfl) (by kernel_rfl) (fun _ _ _ h => h) (Or.inl ⟨by rfl, ?_⟩) ?_
    rotate_left
    · intro w; go_simp; try with_reducible rfl
    refine wpAny_done (by kernel_rfl) ?_ _
    go_wp2_with fail
    go_ret3
    exact ⟨rfl, hx1.trans hx15⟩
  | true =>
    cases yo with
    | false =>
      clear hok hok1
      have HN := Lib.hid (show T.toTr.nodeX 7 p.num p.proc p.peer p.name 2 ((xl, xh), true) ((yl, yh), false) = ((0, 0), false) from by unfold Tr.nodeX; simp)
      rw [HN.out]
      clear HN
      go_enter Tryz.func26, Tryz.ntmps26
      go_upto_region 1 with fail
      refine boxed2 (w := w) (G := fun x => Code.wp _ _ _ _ x) ?_
      intro w1 hx1 hs1 ⟨l0, c0, _, _⟩ ⟨l1, c1, _, _⟩
      have hx11 : Ext w1 w1 := Ext.refl _
      have hx01 := hx.trans hx1
      clear hs1
      go_wp2_with fail
      go_upto_region 4 with fail
      refine wp_region_reads 5 (by kernel_rfl) (by kernel_rfl) ?_
      simp only [List.take_succ_cons, List.take_zero]
      repeat still_step
      refine wpStill_nil ?_
      refine wpAny_ready (rs := [5]) (by kernel_rfl) (by simp) ?_
      refine AllReady.cons rfl (fun K hK => ?_) AllReady.nil
      go_simp
      go_at_call 26
      refine (HB0.out _ (hx01.trans (hx11).drew)).mono ?_
      rintro e w3 ⟨rfl, hxn⟩
      refine hK _ _ ?_; clear hK K
      have hx13 : Ext w1 w3 := (hx11).drew.trans hxn
      have hzw3 : Ext w0 w3 := hx01.trans hx13
      clear hxn
      refine wpAny_take (i := 6) (v := ?_) rfl (by kernel_rfl) (by kernel_rfl) (by kernel_rfl) (fun _ _ _ h => h) (Or.inl ⟨by rfl, ?_⟩) ?_
      rotate_left
      · intro w; go_simp; try with_reducible rfl
      refine wpAny_take (i := 7) (v := ?_) rfl (by kernel_rfl) (by kernel_rfl) (by kernel_rfl) (fun _ _ _ h => h) (Or.inl ⟨by rfl, ?_⟩) ?_
      rotate_left
      · intro w; go_simp; try with_reducible rfl
      refine wpAny_take (i := 8) (v := ?_) rfl (by kernel_rfl) (by kernel_rfl) (by kernel_rfl) (fun _ _ _ h => h) (Or.inl ⟨by rfl, ?_⟩) ?_
      rotate_left
      · intro w; go_simp; try with_reducible rfl
      refine wpAny_take (i := 9) (v := ?_) rfl (by kernel_rfl) (by kernel_rfl) (by kernel_rfl) (fun _ _ _ h => h) (Or.inl ⟨by rfl, ?_⟩) ?_
      rotate_left
      · intro w; go_simp; try with_reducible rfl
      refine wpAny_take (i := 10) (v := ?_) rfl (by kernel_rfl) (by kernel_rfl) (by kernel_rfl) (fun _ _ _ h => h) (Or.inl ⟨by rfl, ?_⟩) ?_
      rotate_left
      · intro w; go_simp; try with_reducible rfl
      refine wpAny_take (i := 11) (v := ?_) rfl (by kernel_rfl) (by kernel_rfl) (by kernel_rfl) (fun _ _ _ h => h) (Or.inl ⟨by rfl, ?_⟩) ?_
      rotate_left
      · intro w; go_simp; try with_reducible rfl
      refine wpAny_take (i := 12) (v := ?_) rfl (by kernel_rfl) (by kernel_rfl) (by kernel_rfl) (fun _ _ _ h => h) (Or.inl ⟨by rfl, ?_⟩) ?_
      rotate_left
      · intro w; go_simp; try with_reducible rfl
      refine wpAny_done (by kernel_rfl) ?_ _
      go_wp2_with fail
      go_upto_region 6 with fail
      refine wp_region_reads 5 (by kernel_rfl) (by kernel_rfl) ?_
      simp only [List.take_succ_cons, List.take_zero]
      repeat still_step
      refine wpStill_nil ?_
      refine wpAny_ready (rs := [5]) (by kernel_rfl) (by simp) ?_
      refine AllReady.cons rfl (fun K hK => ?_) AllReady.nil
      go_simp
      go_at_call 26
      refine (HB1.out _ (hx01.trans (hx13).drew)).mono ?_
      rintro e w5 ⟨rfl, hxn⟩
      refine hK _ _ ?_; clear hK K
      have hx15 : Ext w1 w5 := (hx13).drew.trans hxn
      have hzw5 : Ext w0 w5 := hx01.trans hx15
      clear hxn
      refine wpAny_take (i := 6) (v := ?_) rfl (by kernel_rfl) (by kernel_rfl) (by kernel_rfl) (fun _ _ _ h => h) (Or.inl ⟨by rfl, ?_⟩) ?_
      rotate_left
      · intro w; go_simp; try with_reducible rfl
      refine wpAny_take (i := 7) (v := ?_) rfl (by kernel_rfl) (by kernel_rfl) (by kernel_rfl) (fun _ _ _ h => h) (Or.inl ⟨by rfl, ?_⟩) ?_
      rotate_left
      · intro w; go_simp; try with_reducible rfl
      refine wpAny_take (i := 8) (v := ?_) rfl (by kernel_rfl) (by kernel_rfl) (by kernel_rfl) (fun _ _ _ h => h) (Or.inl ⟨by rfl, ?_⟩) ?_
      rotate_left
      · intro w; go_simp; try with_reducible rfl
      refine wpAny_take (i := 9) (v := ?_) rfl (by kernel_rfl) (by kernel_rfl) (by kernel_rfl) (fun _ _ _ h => h) (Or.inl ⟨by rfl, ?_⟩) ?_
      rotate_left
      · intro w; go_simp; try with_reducible rfl
      refine wpAny_take (i := 10) (v := ?_) rfl (by kernel_rfl) (by kernel_rfl) (by kernel_rfl) (fun _ _ _ h => h) (Or.inl ⟨by rfl, ?_⟩) ?_
      rotate_left
      · intro w; go_simp; try with_reducible rfl
      refine wpAny_take (i := 11) (v := ?_) rfl (by kernel_rfl) (by kernel_rfl) (by kernel_rfl) (fun _ _ _ h => h) (Or.inl ⟨by rfl, ?_⟩) ?_
      rotate_left
      · intro w; go_simp; try with_reducible rfl
      refine wpAny_take (i := 12) (v := ?_) rfl (by kernel_rfl) (by kernel_rfl) (by kernel_rfl) (fun _ _ _ h => h) (Or.inl ⟨by rfl, ?_⟩) ?_
      rotate_left
      · intro w; go_simp; try with_reducible rfl
      refine wpAny_done (by kernel_rfl) ?_ _
      go_wp2_with fail
      go_ret3
      exact ⟨rfl, hx1.trans hx15⟩
    | true =>
      obtain ⟨o1, o2, o3⟩ := hok rfl
      obtain ⟨o4, o5, o6⟩ := hok1 rfl
      dsimp only at o1 o2 o3 o4 o5 o6
      have HN := Lib.hid (show T.toTr.nodeX 7 p.num p.proc p.peer p.name 2 ((xl, xh), true) ((yl, yh), true) = ((xl - yh, xh - yl), okB (xl - yh, xh - yl)) from by unfold Tr.nodeX; simp [combI])
      rw [HN.out]
      clear HN hok hok1
      skip
      go_enter Tryz.func26, Tryz.ntmps26
      go_upto_region 1 with fail
      refine boxed2 (w := w) (G := fun x => Code.wp _ _ _ _ x) ?_
      intro w1 hx1 hs1 ⟨l0, c0, _, _⟩ ⟨l1, c1, _, _⟩
      have hx11 : Ext w1 w1 := Ext.refl _
      have hx01 := hx.trans hx1
      clear hs1
      go_wp2_with fail
      go_upto_region 4 with fail
      refine wp_region_reads 5 (by kernel_rfl) (by kernel_rfl) ?_
      simp only [List.take_succ_cons, List.take_zero]
      repeat still_step
      refine wpStill_nil ?_
      refine wpAny_ready (rs := [5]) (by kernel_rfl) (by simp) ?_
      refine AllReady.cons rfl (fun K hK => ?_) AllReady.nil
      go_simp
      go_at_call 26
      refine (HB0.out _ (hx01.trans (hx11).drew)).mono ?_
      rintro e w3 ⟨rfl, hxn⟩
      refine hK _ _ ?_; clear hK K
      have hx13 : Ext w1 w3 := (hx11).drew.trans hxn
      have hzw3 : Ext w0 w3 := hx01.trans hx13
      clear hxn
      refine wpAny_take (i := 6) (v := ?_) rfl (by kernel_rfl) (by kernel_rfl) (by kernel_rfl) (fun _ _ _ h => h) (Or.inl ⟨by rfl, ?_⟩) ?_
      rotate_left
      · intro w; go_simp; try with_reducible rfl
      refine wpAny_take (i := 7) (v := ?_) rfl (by kernel_rfl) (by kernel_rfl) (by kernel_rfl) (fun _ _ _ h => h) (Or.inl ⟨by rfl, ?_⟩) ?_
      rotate_left
      · intro w; go_simp; try with_reducible rfl
      refine wpAny_take (i := 8) (v := ?_) rfl (by kernel_rfl) (by kernel_rfl) (by kernel_rfl) (fun _ _ _ h => h) (Or.inl ⟨by rfl, ?_⟩) ?_
      rotate_left
      · intro w; go_simp; try with_reducible rfl
      refine wpAny_take (i := 9) (v := ?_) rfl (by kernel_rfl) (by kernel_rfl) (by kernel_rfl) (fun _ _ _ h => h) (Or.inl ⟨by rfl, ?_⟩) ?_
      rotate_left
      · intro w; go_simp; try with_reducible rfl
      refine wpAny_take (i := 10) (v := ?_) rfl (by kernel_rfl) (by kernel_rfl) (by kernel_rfl) (fun _ _ _ h => h) (Or.inl ⟨by rfl, ?_⟩) ?_
      rotate_left
      · intro w; go_simp; try with_reducible rfl
      refine wpAny_take (i := 11) (v := ?_) rfl (by kernel_rfl) (by kernel_rfl) (by kernel_rfl) (fun _ _ _ h => h) (Or.inl ⟨by rfl, ?_⟩) ?_
      rotate_left
      · intro w; go_simp; try with_reducible rfl
      refine wpAny_take (i := 12) (v := ?_) rfl (by kernel_rfl) (by kernel_rfl) (by kernel_rfl) (fun _ _ _ h => h) (Or.inl ⟨by rfl, ?_⟩) ?_
      rotate_left
      · intro w; go_simp; try with_reducible rfl
      refine wpAny_done (by kernel_rfl) ?_ _
      go_wp2_with fail
      go_upto_region 6 with fail
      refine wp_region_reads 5 (by kernel_rfl) (by kernel_rfl) ?_
      simp only [List.take_succ_cons, List.take_zero]
      repeat still_step
      refine wpStill_nil ?_
      refine wpAny_ready (rs := [5]) (by kernel_rfl) (by simp) ?_
      refine AllReady.cons rfl (fun K hK => ?_) AllReady.nil
      go_simp
      go_at_call 26
      refine (HB1.out _ (hx01.trans (hx13).drew)).mono ?_
      rintro e w5 ⟨rfl, hxn⟩
      refine hK _ _ ?_; clear hK K
      have hx15 : Ext w1 w5 := (hx13).drew.trans hxn
      have hzw5 : Ext w0 w5 := hx01.trans hx15
      clear hxn
      refine wpAny_take (i := 6) (v := ?_) rfl (by kernel_rfl) (by kernel_rfl) (by kernel_rfl) (fun _ _ _ h => h) (Or.inl ⟨by rfl, ?_⟩) ?_
      rotate_left
      · intro w; go_simp; try with_reducible rfl
      refine wpAny_take (i := 7) (v := ?_) rfl (by kernel_rfl) (by kernel_rfl) (by kernel_rfl) (fun _ _ _ h => h) (Or.inl ⟨by rfl, ?_⟩) ?_
      rotate_left
      · intro w; go_simp; try with_reducible rfl
      refine wpAny_take (i := 8) (v := ?_) rfl (by kernel_rfl) (by kernel_rfl) (by kernel_rfl) (fun _ _ _ h => h) (Or.inl ⟨by rfl, ?_⟩) ?_
      rotate_left
      · intro w; go_simp; try with_reducible rfl
      refine wpAny_take (i := 9) (v := ?_) rfl (by kernel_rfl) (by kernel_rfl) (by kernel_rfl) (fun _ _ _ h => h) (Or.inl ⟨by rfl, ?_⟩) ?_
      rotate_left
      · intro w; go_simp; try with_reducible rfl
      refine wpAny_take (i := 10) (v := ?_) rfl (by kernel_rfl) (by kernel_rfl) (by kernel_rfl) (fun _ _ _ h => h) (Or.inl ⟨by rfl, ?_⟩) ?_
      rotate_left
      · intro w; go_simp; try with_reducible rfl
      refine wpAny_take (i := 11) (v := ?_) rfl (by kernel_rfl) (by kernel_rfl) (by kernel_rfl) (fun _ _ _ h => h) (Or.inl ⟨by rfl, ?_⟩) ?_
      rotate_left
      · intro w; go_simp; try with_reducible rfl
      refine wpAny_take (i := 12) (v := ?_) rfl (by kernel_rfl) (by kernel_rfl) (by kernel_rfl) (fun _ _ _ h => h) (Or.inl ⟨by rfl, ?_⟩) ?_
      rotate_left
      · intro w; go_simp; try with_reducible rfl
      refine wpAny_done (by kernel_rfl) ?_ _
      go_wp2_with fail
      all_goals go_ret3
      all_goals refine ⟨ret_riv rfl rfl ?_, hx1.trans hx15⟩
      all_goals (unfold okB; simp; try omega)

end Go.Proofs.YtdplphoohnnbcaaGreatDoor
