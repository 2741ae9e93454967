/- Contract: flow.Cut, the nearest minimal cut. -/
import Derived.Test.YtnknkkmdbnaglaaGreatLd
import Derived.Test.YtnknkkmdbnaglaaGreatLc
import Derived.Deep.RegionHeld3
import Derived.Test.YtnknkkmdbnaglaaGreatKi
import Derived.Test.YtnknkkmdbnaglaaGreatKk
namespace Go.Proofs.YtnknkkmdbnaglaaGreat
open Go.RowKit Go.Shelf
def FcutPost (n : Nat) (L : List Edg) (s t : Nat) (w : World) (e : Ending) (w' : World) : Prop := Ext w w' ∧ ∃ (S : SetM) (val : Int) (f : Nat → Int), e = .returned (.tuple #[S.val, .int .i64 val, .int .i64 0]) ∧ S.At w' ∧ S.Good n ∧ (Netw.ofList n L).Flow s t f val ∧ (∀ v, v < n → ((S.wd (v / 64)).testBit (v % 64) = true ↔ (Netw.ofList n L).Reach s f v)) ∧ ¬ (Netw.ofList n L).Reach s f t
theorem SetM.At.set2 {S : SetM} {w : World} (h : S.At w) {b i j : Nat} {u v : Value} (hb : S.b ≠ b) : S.At ((w.setCell ⟨b, i, none⟩ u).setCell ⟨b, j, none⟩ v) := by
 have h1 : S.At (w.setCell ⟨b, i, none⟩ u) := h.same (Nat.le_of_eq (by simp only [World.size_setCell])) fun _ => Below.heap_setCell _ _ _ _ hb
 exact h1.same (Nat.le_of_eq (by simp only [World.size_setCell])) fun _ => Below.heap_setCell _ _ _ _ hb
theorem fcut_results (tmps : Array Value) (W : World) (b : Nat) (x y u v : Value) (t6 : tmps[6]? = some (.pointer (some ⟨b, 0, none⟩))) (t7 : tmps[7]? = some u) (t8 : tmps[8]? = some v) (c : W.cell? ⟨b, 0, none⟩ = some x) (c' : W.cell? ⟨b, 1, none⟩ = some y) :
    (results Tryz.f158 tmps).run Tryz.prog W = .ok (.tuple #[.agg #[x, y], u, v]) W := by
 simp [results, go_sem, t6, t7, t8, c, c']
theorem fill_bits {n : Nat} {by_ : Nat → Int} {i : Nat} (hi : i < n) : (∃ j, j < (memL by_ n).length ∧ (memL by_ n).getD j 0 = i) ↔ by_ i ≠ -1 := by
 constructor
 ·rintro ⟨j, hj, e⟩
  rw [List.getD_eq_getElem?_getD, List.getElem?_eq_getElem hj] at e
  have := List.getElem_mem hj
  rw [show (memL by_ n)[j] = i from e] at this
  exact (mem_memL.1 this).2
 ·intro h
  obtain ⟨j, hj, e⟩ := List.getElem_of_mem (mem_memL.2 ⟨hi, h⟩)
  exact ⟨j, hj, by rw [List.getD_eq_getElem?_getD, List.getElem?_eq_getElem hj]; exact e⟩
set_option maxRecDepth 100000 in
set_option maxHeartbeats 4000000 in
theorem fcut_any (w : World) (n s t : Nat) (L : List Edg) (a : Option Addr) (b off c : Nat) (hN : NetOk n L) (hE : EdAt w a b off L) (hs : s < n) (ht : t < n) (hst : s ≠ t) :
    Calls Tryz.prog 158 #[.agg #[.int .i64 n, .slice a L.length c], .int .i64 s, .int .i64 t] w (FcutPost n L s t w) := by
 have HCk := Lib.hid (fun W (h : Ext w W) => flCheck_yes W n s t L a b off c hN (hE.ext h) hs ht hst)
 have HOp := Lib.hid (fun W (h : Ext w W) => fopen_any W n L a b off c hN (hE.ext h))
 have HFi := Lib.hid (fun W R base l (h : RsA.At R base (Netw.ofList n L) l W) hF => fill_any W R base (Netw.ofList n L) l h hN.n2 hN.m hN.ok hN.hi s t hs ht hst hF)
 have HZ := Lib.hid (Netw.ResF.zero hN.ok s t)
 have hn1 := hN.n1
 have hn2 := hN.n2
 have HHT := Lib.hid ht
 clear hN hE hs ht hst
 unfold FcutPost
 go_enter Tryz.func158, Tryz.ntmps158
 go_upto_region 1 with fail
 refine boxed2 (w := w) (G := fun x => Code.wp _ _ _ _ x) ?_
 intro w1 hx1 hs1 ⟨l0, c0, _, k0⟩ ⟨l1, c1, f1, k1⟩
 have hx11 : Ext w1 w1 := Ext.refl _
 have HS1 := Lib.hid hs1
 clear hs1
 go_wp2_with fail
 go_at_call 95
 refine (HCk.out w1 hx1).mono ?_
 rintro e w2 ⟨rfl, hx2⟩
 have hx02 := hx1.trans hx2
 go_wp2_with fail
 go_at_call 96
 refine (HOp.out w2 hx02).mono ?_
 rintro e w3 ⟨hx3, R, rfl, hR⟩
 have hx23 := hx2.trans hx3
 have hfi := HFi.out w3 R _ _ hR HZ.out
 go_wp2_with fail
 go_at_call 97
 refine hfi.mono ?_
 rintro e w4 ⟨val, l', g, by_, rfl, hR4, hF4, hI4, hg4, hx4, hRe4, hbt4⟩
 have hx14 : Ext w1 w4 := Below.trans hx23 (Below.mono hx4 hx2.le)
 have hx44 : Ext w4 w4 := Ext.refl _
 have HI4 := Lib.hid hI4
 have HF4 := Lib.hid hF4
 have HRE := Lib.hid hRe4
 have HBT := Lib.hid hbt4
 have HX04 := Lib.hid (hx1.trans hx14)
 have HSZ := Lib.hid (show w1.heap.size ≤ w4.heap.size from hx14.le)
 have HK4 := Lib.hid (Hold.ext k1 hx14)
 have HK0 := Lib.hid (Hold.ext k0 hx14)
 have HLEN := Lib.hid (memL_len by_ n)
 have hme : ∀ W, Ext w4 W → Calls Tryz.prog 211 #[.slice (some ⟨g, 0, none⟩) n n, .int .i64 n] W (MemPost (memL by_ n) W) := fun W h => members_any W g n by_ (HI4.out.ext h) hn2 (by omega)
 have HME := Lib.hid hme
 clear hR hR4 hF4 hI4 hRe4 hbt4 hfi hme hx2 hx3 hx4 hg4
 go_upto_region 5 with fail
 refine wp_region_held_drew (S := fun w' => Hold w' w.heap.size #[.int .i64 n, .slice a L.length c]) (by kernel_rfl) (Hold.ext HK0.out (Ext.refl _).drew) (fun hHeld => ?_)
 refine heldTake 0 (v := ?_) rfl (by kernel_rfl) (by kernel_rfl) (by kernel_rfl) (fun _ _ _ h => h) (Or.inl ⟨by rfl, ?_⟩) (by assumption) ?_
 rotate_left
 ·(intro w' hSw; obtain ⟨lS, cS, _, _⟩ := hSw.box; have hSS := Ext.refl w'; go_simp; try with_reducible rfl)
 simp only [Act.put, List.setIfInBounds_toArray, List.set_cons_zero, List.set_cons_succ]
 refine heldTake 1 (v := ?_) rfl (by kernel_rfl) (by kernel_rfl) (by kernel_rfl) (fun _ _ _ h => h) (Or.inl ⟨by rfl, ?_⟩) (by assumption) ?_
 rotate_left
 ·(intro w' hSw; obtain ⟨lS, cS, _, _⟩ := hSw.box; have hSS := Ext.refl w'; go_simp; try with_reducible rfl)
 simp only [Act.put, List.setIfInBounds_toArray, List.set_cons_zero, List.set_cons_succ]
 refine heldTake 2 (v := ?_) rfl (by kernel_rfl) (by kernel_rfl) (by kernel_rfl) (fun _ _ _ h => h) (Or.inl ⟨by rfl, ?_⟩) (by assumption) ?_
 rotate_left
 ·(intro w' hSw; obtain ⟨lS, cS, _, _⟩ := hSw.box; have hSS := Ext.refl w'; go_simp; try with_reducible rfl)
 simp only [Act.put, List.setIfInBounds_toArray, List.set_cons_zero, List.set_cons_succ]
 refine heldTake 3 (v := ?_) rfl (by kernel_rfl) (by kernel_rfl) (by kernel_rfl) (fun _ _ _ h => h) (Or.inl ⟨by rfl, ?_⟩) (by assumption) ?_
 rotate_left
 ·(intro w' hSw; obtain ⟨lS, cS, _, _⟩ := hSw.box; have hSS := Ext.refl w'; go_simp; try with_reducible rfl)
 simp only [Act.put, List.setIfInBounds_toArray, List.set_cons_zero, List.set_cons_succ]
 refine heldTake 4 (v := ?_) rfl (by kernel_rfl) (by kernel_rfl) (by kernel_rfl) (fun _ _ _ h => h) (Or.inl ⟨by rfl, ?_⟩) (by assumption) ?_
 rotate_left
 ·(intro w' hSw; obtain ⟨lS, cS, _, _⟩ := hSw.box; have hSS := Ext.refl w'; go_simp; try with_reducible rfl)
 simp only [Act.put, List.setIfInBounds_toArray, List.set_cons_zero, List.set_cons_succ]
 refine wpAnyH_ready (rs := [5]) (by kernel_rfl) (by simp) ?_
 refine AllReadyH.cons rfl (fun K hK => ?_) AllReadyH.nil
 go_simp
 go_at_call 211
 refine (HME.out _ (Ext.refl w4).drew).mono ?_
 rintro e w5 ⟨hx5, v5, rfl, hq5⟩
 obtain ⟨a5, g5, o5, c5, rfl, hc5, ha5, hq5'⟩ := hq5.cells1
 have hx45 : Ext w4 w5 := (Ext.refl w4).drew.trans hx5
 refine hK.out _ _ ?_ (fun hHeld2 => ?_)
 ·exact (Hold.ext HK0.out hx45)
 clear hK K
 try simp only [Act.put, List.setIfInBounds_toArray, List.set_cons_zero, List.set_cons_succ]
 have HQ := Lib.hid (fun k (hk : k < (memL by_ n).length) w' (x : Ext w5 w') => (show w'.cell? ⟨g5, o5 + k, none⟩ = some (.int .i64 (((memL by_ n).getD k 0 : Nat) : Int)) from x.cell ((hq5' k hk).trans (by
  rw [List.getD_eq_getElem?_getD, List.getElem?_eq_getElem hk]; exact natInts_get (List.getElem?_eq_getElem hk)))))
 have hof := of_any n hn2 a5 g5 o5 (memL by_ n).length c5 (fun k => (memL by_ n).getD k 0) w5 (by have := HLEN.out; omega) (fun h => (ha5 h).1) (fun h w' x => Nat.lt_of_lt_of_le (ha5 h).2.2 x.le) (fun w' x k hk => HQ.out k hk w' x) (fun k hk => by
  have := List.getElem_mem hk
  have h2 : (memL by_ n).getD k 0 = (memL by_ n)[k] := by rw [List.getD_eq_getElem?_getD, List.getElem?_eq_getElem hk]; rfl
  rw [h2]; exact (mem_memL.1 this).1)
 have HOF := Lib.hid hof
 clear hof hq5 hq5' ha5
 refine wpAnyH_ready (rs := [6]) (by kernel_rfl) (by simp) ?_
 refine AllReadyH.cons rfl (fun K hK => ?_) AllReadyH.nil
 go_simp
 go_at_call 210
 refine HOF.out.mono ?_
 rintro e w6 ⟨hx6, S, rfl, hS, hG, hSb, hbit⟩
 have hx46 : Ext w4 w6 := hx45.trans hx6
 refine hK.out _ _ ?_ (fun hHeld3 => ?_)
 ·exact (Hold.ext HK0.out hx46)
 clear hK K
 try simp only [Act.put, List.setIfInBounds_toArray, List.set_cons_zero, List.set_cons_succ]
 refine heldTake 7 (v := ?_) rfl (by kernel_rfl) (by kernel_rfl) (by kernel_rfl) (fun _ _ _ h => h) (Or.inl ⟨by rfl, ?_⟩) (by assumption) ?_
 rotate_left
 ·(intro w' hSw; obtain ⟨lS, cS, _, _⟩ := hSw.box; have hSS := Ext.refl w'; go_simp; try with_reducible rfl)
 simp only [Act.put, List.setIfInBounds_toArray, List.set_cons_zero, List.set_cons_succ]
 refine heldTake 8 (v := ?_) rfl (by kernel_rfl) (by kernel_rfl) (by kernel_rfl) (fun _ _ _ h => h) (Or.inl ⟨by rfl, ?_⟩) (by assumption) ?_
 rotate_left
 ·(intro w' hSw; obtain ⟨lS, cS, _, _⟩ := hSw.box; have hSS := Ext.refl w'; go_simp; try with_reducible rfl)
 simp only [Act.put, List.setIfInBounds_toArray, List.set_cons_zero, List.set_cons_succ]
 refine heldTake 9 (v := ?_) rfl (by kernel_rfl) (by kernel_rfl) (by kernel_rfl) (fun _ _ _ h => h) (Or.inl ⟨by rfl, ?_⟩) (by assumption) ?_
 rotate_left
 ·(intro w' hSw; obtain ⟨lS, cS, _, _⟩ := hSw.box; have hSS := Ext.refl w'; go_simp; try with_reducible rfl)
 simp only [Act.put, List.setIfInBounds_toArray, List.set_cons_zero, List.set_cons_succ]
 have hx16 : Ext w1 w6 := hx14.trans hx46
 have HX06 := Lib.hid (hx1.trans hx16)
 have HS6 := Lib.hid hS
 have HSB := Lib.hid (show w.heap.size + 1 < S.b by have := HS1.out; have := HSZ.out; have := hx5.le; have h9 : w4.drew.heap.size = w4.heap.size := rfl; omega)
 have HBIT := Lib.hid hbit
 have HG := Lib.hid hG
 have HK1 := Lib.hid (Hold.ext HK4.out hx46)
 clear hS hG hbit hSb
 refine wpAnyH_ready (rs := [10]) (by kernel_rfl) (by simp) ?_
 refine AllReadyH.cons rfl (fun K hK => ?_) AllReadyH.nil
 go_simp
 refine hK.out _ _ ?_ (fun hHeld4 => ?_)
 ·exact (Hold.other (Hold.other (Hold.ext HK0.out hx46) _ _ (by show w.heap.size ≠ w.heap.size + 1; omega)) _ _ (by show w.heap.size ≠ w.heap.size + 1; omega))
 clear hK K
 try simp only [Act.put, List.setIfInBounds_toArray, List.set_cons_zero, List.set_cons_succ]
 refine wpAnyH_ready (rs := [11]) (by kernel_rfl) (by simp) ?_
 refine AllReadyH.cons rfl (fun K hK => ?_) AllReadyH.nil
 go_simp
 refine hK.out _ _ ?_ (fun hHeld5 => ?_)
 ·exact (Hold.other (Hold.other (Hold.ext HK0.out hx46) _ _ (by show w.heap.size ≠ w.heap.size + 1; omega)) _ _ (by show w.heap.size ≠ w.heap.size + 1; omega))
 clear hK K
 try simp only [Act.put, List.setIfInBounds_toArray, List.set_cons_zero, List.set_cons_succ]
 refine wpAnyH_done (by kernel_rfl) ?_ _
 clear hHeld hHeld2 hHeld3 hHeld4 hHeld5 l0 c0 l1 c1 f1 k0 k1 hx16 hx45 hx46 hx6
 go_upto_region 6 with fail
 refine setd2 (w := w6) (G := fun x => Code.wp _ _ _ _ x) ?_
 intro w7 hw7
 have hk7 : Hold w7 (w.heap.size + 1) #[.int .i64 S.N, .slice S.a S.m S.cap] := by rw [hw7]; exact Hold.set (Hold.set HK1.out 0 (.int .i64 S.N)) 1 (.slice S.a S.m S.cap)
 have HS7 := Lib.hid (show S.At w7 from by
  rw [hw7]
  exact HS6.out.set2 (by have := HSB.out; omega))
 have HX7 := Lib.hid (show Ext w w7 from by rw [hw7]; exact (HX06.out.setCell (by show w.heap.size ≤ w.heap.size + 1; omega) _).setCell (by show w.heap.size ≤ w.heap.size + 1; omega) _)
 have HK7 := Lib.hid hk7
 obtain ⟨l7, c7, f7, _⟩ := hk7.box
 have hx77 : Ext w7 w7 := Ext.refl _
 clear hw7 hk7
 go_wp2_with fail
 refine bodyPost_ret (fcut_results _ _ _ _ _ _ _ rfl rfl rfl ((Hold.set (Hold.set HK7.out 0 _) 1 _).cell0 0) ((Hold.set (Hold.set HK7.out 0 _) 1 _).cell0 1)) rfl ?_
 refine ⟨(HX7.out.setCell (by show w.heap.size ≤ w.heap.size + 1; omega) _).setCell (by show w.heap.size ≤ w.heap.size + 1; omega) _, S, val, rfl, HS7.out.set2 (by have := HSB.out; omega), HG.out, flowOf l', HF4.out.flow, fun v hv => ?_, fun h => ?_⟩
 ·rw [HBIT.out v hv, decide_eq_true_iff, fill_bits hv]; exact HRE.out v hv
 ·exact (HRE.out t HHT.out).2 h HBT.out
end Go.Proofs.YtnknkkmdbnaglaaGreat
