/- Contract: lamport.Skipped. -/
import Derived.Test.YtecgigeeolindaaOrd
import Derived.Test.YtecgigeeolindaaCat
import Derived.Lib.QuietBelow
namespace Go.Proofs.Ytecgigeeolindaa
open Go.RowKit Go.Shelf

open Classical in
/-- the pair (x, y) is skipped -/
noncomputable def Tr.sk (T : Tr) (rows : Nat → List Int) (x y : Nat) : Nat := if stOf rows (T.evN x) < stOf rows (T.evN y) ∧ ¬ T.bef x y then 1 else 0
/-- how many pairs are skipped -/
noncomputable def Tr.skipN (T : Tr) (rows : Nat → List Int) : Nat := tot (fun x => tot (T.sk rows x) T.evs.length) T.evs.length
theorem Tr.sk_yes {T : Tr} {rows : Nat → List Int} {x y : Nat} (h1 : stOf rows (T.evN x) < stOf rows (T.evN y)) (h2 : ¬ T.bef x y) : T.sk rows x y = 1 := by unfold Tr.sk; rw [if_pos ⟨h1, h2⟩]
theorem Tr.sk_no {T : Tr} {rows : Nat → List Int} {x y : Nat} (h : ¬ (stOf rows (T.evN x) < stOf rows (T.evN y) ∧ ¬ T.bef x y)) : T.sk rows x y = 0 := by unfold Tr.sk; rw [if_neg h]
theorem Tr.sk_le (T : Tr) (rows : Nat → List Int) (x y : Nat) : T.sk rows x y ≤ 1 := by unfold Tr.sk; split <;> omega
theorem Tr.flat_get {T : Tr} {rows : Nat → List Int} {x : Nat} (h : x < T.evs.length) : (T.flat rows T.n 0)[x]? = some (stOf rows (T.evN x)) := by
  have h' : x < (T.evsTo T.n 0).length := h
  unfold Tr.flat
  rw [List.getElem?_map, List.getElem?_eq_getElem h', T.evN_get x h]; rfl
def SkipPost (T : TM) (w : World) (e : Ending) (w' : World) : Prop := Ext w w' ∧
  ((¬ T.toTr.Valid ∧ e = .returned (.tuple #[.int .i64 0, .int .i64 1])) ∨
   (T.toTr.Valid ∧ ∃ rows, T.toTr.Stamps rows ∧ e = .returned (.tuple #[.int .i64 (T.toTr.skipN rows), .int .i64 0])))
set_option maxRecDepth 100000 in
set_option maxHeartbeats 1000000 in
theorem skipped_no (w : World) (T : TM) (hT : T.At w) (hV : ¬ T.toTr.Valid) :
    Calls Try.prog 27 #[T.val] w (SkipPost T w) := by
  go_enter Try.func27, Try.ntmps27
  go_upto_region 1 with fail
  refine boxed1 (w := w) (G := fun x => Code.wp _ _ _ _ x) ?_
  intro w1 hx1 hs1 ⟨l0, c0, _, _⟩
  have hx11 : Ext w1 w1 := Ext.refl _
  have hF : Calls Try.prog 14 #[T.val] w1 fun e w' => e = .returned (.tuple #[.slice none 0 0, .int .i64 1]) ∧ Ext w1 w' :=
    (stamps_no w1 T (hT.ext hx1) hV).mono fun e w' ⟨hx, h⟩ => by
      rcases h with ⟨_, h⟩ | ⟨h, _⟩
      · exact ⟨h, hx⟩
      · exact absurd h hV
  clear hs1 hT
  go_wp2_with (go_at_call 14; refine hF.mono ?_; rintro e w2 ⟨rfl, hx2⟩)
  go_ret2
  exact ⟨hx1.trans hx2, .inl ⟨hV, rfl⟩⟩
set_option maxRecDepth 100000 in
set_option maxHeartbeats 2000000 in
theorem skipped_yes (w : World) (T : TM) (hT : T.At w) (hV : T.toTr.Valid) (hN : T.toTr.evs.length ≤ 100) :
    Calls Try.prog 27 #[T.val] w (SkipPost T w) := by
  have hn1 := hV.n1
  have hn8 := hV.n8
  have hE8 : ∀ k, k < T.n → T.en k ≤ 64 := fun k hk => (hV.pr k hk).2.2.2.2
  have pa := hT.P.pa (by omega)
  go_enter Try.func27, Try.ntmps27
  go_upto_region 1 with fail
  refine boxed1 (w := w) (G := fun x => Code.wp _ _ _ _ x) ?_
  intro w1 hx1 hs1 ⟨l0, c0, _, k0⟩
  have hx11 : Ext w1 w1 := Ext.refl _
  have hF : Calls Try.prog 14 #[T.val] w1 fun e w' => ∃ base cap rows vs, e = .returned (.tuple #[.slice (some ⟨base, 0, none⟩) T.n cap, .int .i64 0]) ∧ w1.heap.size ≤ base ∧ StS base base T.n rows vs w' ∧ T.toTr.Stamps rows ∧ Ext w1 w' :=
    (stamps_yes w1 T (hT.ext hx1) hV (fun k hk => Nat.le_trans (hE8 k hk) (by omega))).mono fun e w' ⟨hx, h⟩ => by
      rcases h with ⟨h, _⟩ | ⟨_, base, cap, rows, vs, h1, h2, h3, h4⟩
      · exact absurd hV h
      · exact ⟨base, cap, rows, vs, h2, h1, h3, h4, hx⟩
  have hO := fun W (h : Ext w W) => order_any W T (hT.ext h) hV hN
  simp only [TM.val, pa] at hF hO
  have HO := Lib.hid hO
  have HV := Lib.hid hV
  clear hT hV hO hs1
  go_upto_region 5 with (first | (go_at_call 14; refine hF.mono ?_; rintro e w2 ⟨base, cap, rows, vs, rfl, hb2, hs2, hst2, hx2⟩; have HS2 := Lib.hid hs2; have HST := Lib.hid hst2; clear hb2 hs2 hst2) | (go_at_call 48; refine (HO.out _ (hx1.trans hx2)).mono ?_; rintro e w3 ⟨hx3, ra, rg, rcap, S, rfl, hrel⟩; have HR := Lib.hid hrel; clear hrel))
  clear hF
  obtain ⟨N, hNe⟩ : ∃ N, N = T.toTr.evs.length := ⟨_, rfl⟩
  rw [← hNe] at hN HR ⊢
  refine boxed1 (w := w3) (G := fun x => Code.wp _ _ _ _ x) ?_
  intro w4 hx4 hs4 ⟨l4, c4, _, k4⟩
  have hx24 := hx3.trans hx4
  have hC := concat_any w4 T.toTr base base cap rows vs (HS2.out.ext (by omega) hx24) (by omega) (fun k hk => HST.out.len k hk) (fun k hk => Nat.le_trans (hE8 k hk) (by omega))
  have HNE := Lib.hid hNe
  clear hNe
  clear hs4 k4 c0 l0 k0
  go_upto_region 6 with (go_at_call 49; refine hC.mono ?_; rintro e w5 ⟨hx5, v, rfl, hq⟩)
  clear hC
  rw [Tr.flat_len, show (T.toTr.evsTo T.n 0).length = N from HNE.out.symm] at hq
  have hst : ∀ x, x < N → (intCells (T.toTr.flat rows T.n 0))[x]? = some (.int .i64 (stOf rows (T.toTr.evN x))) := fun x hx => by
    unfold intCells; rw [List.getElem?_map, Tr.flat_get (by have := HNE.out; omega)]; rfl
  obtain ⟨ao, acap, ag, aoff, hv, hapa, hapb, hall⟩ : ∃ ao acap ag aoff, v = .slice ao N acap ∧ (0 < N → ao = some ⟨ag, aoff, none⟩) ∧ (0 < N → ∀ w', Ext w5 w' → ag < w'.heap.size) ∧ ∀ w', Ext w5 w' → ∀ x, x < N → w'.cell? ⟨ag, aoff + x, none⟩ = some (.int .i64 (stOf rows (T.toTr.evN x))) := by
    rcases hq.val with ⟨ao, h, h0, _⟩ | ⟨g, off, cp, h, _, h2, _, _, h5, _⟩
    · exact ⟨ao, 0, 0, 0, by rw [h, h0], fun h => by omega, fun h => by omega, fun w' _ x hx => by omega⟩
    · exact ⟨_, cp, g, off, h, fun _ => rfl, fun _ w' x => Nat.lt_of_lt_of_le h2 x.le, fun w' x k hk => x.cell ((h5 k (by omega)).trans (hst k hk))⟩
  subst hv
  have HALL := Lib.hid hall
  have hx55 : Ext w5 w5 := Ext.refl _
  have hR5 := HR.out.same (hx4.trans hx5)
  have c4' : ∀ w', Ext w5 w' → w'.cell? ⟨w3.heap.size, 0, none⟩ = some (.slice ra N rcap) := fun w' h => c4 w' (hx5.trans h) 0
  have l4' : ∀ w', Ext w5 w' → w3.heap.size < w'.heap.size := fun w' h => l4 w' (hx5.trans h)
  have HX5 := Lib.hid (show Ext w w5 from hx1.trans (hx2.trans (hx24.trans hx5)))
  have HR5 := Lib.hid hR5
  clear hst hq hall c4 l4 hR5 hx1 hx2 hx3 hx4 hx24 hx5 hx11 HR HO
  generalize w3.heap.size = ob at c4' l4' ⊢
  have hskb : ∀ x y, y ≤ N → tot (T.toTr.sk rows x) y ≤ 100 := fun x y hy => Nat.le_trans (tot_small (c := 1) fun k _ => T.toTr.sk_le rows x k) (by omega)
  have HKB := Lib.hid hskb
  have HKB2 := Lib.hid (show ∀ x, x ≤ N → tot (fun x => tot (T.toTr.sk rows x) N) x ≤ 10000 from fun x hx => Nat.le_trans (tot_small (c := 100) fun k _ => hskb k N (Nat.le_refl _)) (by omega))
  clear hskb
  go_wp2_with fail
  go_loopg [9, 29] N (fun gg v9 v29 wr => ∃ x : Nat, x ≤ N ∧ gg = N - x ∧ v29 = .int .i64 x ∧ v9 = .int .i64 (tot (fun x => tot (T.toTr.sk rows x) N) x) ∧ Ext w5 wr)
  case atStart => exact ⟨0, by omega, rfl, rfl, rfl, hx55⟩
  case round =>
    obtain ⟨x, hx, rfl, rfl, rfl, hxr⟩ := hrel
    have hb1 := HKB2.out x hx
    by_cases hlt : x < N
    · have hlt' : (x : Int) < (N : Int) := by omega
      obtain rfl := hapa (by omega)
      have hapb := hapb (by omega)
      obtain rfl := HR5.out.pa (by omega)
      have rb := HR5.out.pb (by omega)
      obtain ⟨sx, hsx⟩ : ∃ s, s = stOf rows (T.toTr.evN x) := ⟨_, rfl⟩
      have ex : ∀ w', Ext w5 w' → w'.cell? ⟨ag, aoff + x, none⟩ = some (.int .i64 sx) := fun w' h => by rw [hsx]; exact HALL.out w' h x hlt
      obtain ⟨s, hs⟩ : ∃ s, s = S x := ⟨_, rfl⟩
      have r0 : ∀ w', Ext w5 w' → w'.cell? ⟨rg, x * 2, none⟩ = some (.int .i64 s.N) := fun w' h => by rw [hs]; exact HR5.out.c0 w' h x hlt
      have r1 : ∀ w', Ext w5 w' → w'.cell? ⟨rg, x * 2 + 1, none⟩ = some (.slice s.a s.m s.cap) := fun w' h => by rw [hs]; exact HR5.out.c1 w' h x hlt
      have HSX := Lib.hid hsx
      have HSE := Lib.hid hs
      clear hsx hs
      go_wp2_with fail
      go_loopg [9, 34] N (fun gg v9 v34 wi => ∃ y : Nat, y ≤ N ∧ gg = N - y ∧ v34 = .int .i64 y ∧ v9 = .int .i64 ((tot (fun x => tot (T.toTr.sk rows x) N) x + tot (T.toTr.sk rows x) y : Nat) : Int) ∧ Ext w5 wi)
      case atStart => exact ⟨0, by omega, rfl, rfl, rfl, hxr⟩
      case round =>
        obtain ⟨y, hy, rfl, rfl, rfl, hxj⟩ := hrel
        have hb2 := HKB.out x y hy
        have hjj : Ext wr wr := Ext.refl _
        by_cases hly : y < N
        · have hly' : (y : Int) < (N : Int) := by omega
          obtain ⟨sy, hsy⟩ : ∃ s, s = stOf rows (T.toTr.evN y) := ⟨_, rfl⟩
          have ey : ∀ w', Ext w5 w' → w'.cell? ⟨ag, aoff + y, none⟩ = some (.int .i64 sy) := fun w' h => by rw [hsy]; exact HALL.out w' h y hly
          have HSY := Lib.hid hsy
          have hg5 : ∀ d os, Ext w5 (Sort.grow (redrawn wr d) os) := fun d os => hxj.trans (below_regrown wr d os)
          clear hsy
          by_cases hss : sx < sy
          · have ds : decide (sx < sy) = true := decide_eq_true hss
            obtain ⟨b, hb⟩ : ∃ b, b = (s.wd (y / 64)).testBit (y % 64) := ⟨_, rfl⟩
            have hHs : ∀ W, Ext w5 W → Calls Try.prog 50 #[.agg #[.int .i64 s.N, .slice s.a s.m s.cap], .int .i64 y] W fun e w' => e = .returned (.bool b) ∧ Ext W w' := fun W h => by
              have := HR5.out.set x hlt
              rw [← HSE.out] at this
              rw [hb]; exact bhas_any s N y W (this.1.ext h) this.2 hly
            have HBB := Lib.hid (show b = true ↔ T.toTr.bef x y by rw [hb, HSE.out]; exact HR5.out.bit x y hlt hly)
            have HHs := Lib.hid hHs
            clear hHs hb
            cases b with
            | true =>
              have HSK := Lib.hid (show T.toTr.sk rows x y = 0 from Tr.sk_no fun h => h.2 (HBB.out.1 rfl))
              clear HBB
              go_upto_region 13 with fail
              refine wp_region_quiet_below (by kernel_rfl) (by kernel_rfl) ?_
              repeat (go_big_quiet_step (exact Calls.regrown_of (HHs.out _ (hg5 _ _))))
              refine wpQuiet_nil ?_
              intro _ hw'
              obtain ⟨⟨dq, osq⟩, hw''⟩ := hw'
              subst hw''
              have hx9 := below_regrown wr dq osq
              generalize Sort.grow (redrawn wr dq) osq = w9 at hx9 ⊢
              have hx59 : Ext w5 w9 := hxj.trans hx9
              go_wp2_with fail
              go_roundg (N - (y + 1))
              case rel => exact ⟨y + 1, by omega, rfl, by go_num, by show _ = Value.int .i64 ((tot (fun x => tot (T.toTr.sk rows x) N) x + (tot (T.toTr.sk rows x) y + T.toTr.sk rows x y) : Nat) : Int); rw [HSK.out]; go_num, hx59⟩
              case measure => omega
            | false =>
              have HSK := Lib.hid (show T.toTr.sk rows x y = 1 from Tr.sk_yes (by rw [← HSX.out, ← HSY.out]; exact hss) fun h => by have := HBB.out.2 h; cases this)
              clear HBB
              go_upto_region 13 with fail
              refine wp_region_quiet_below (by kernel_rfl) (by kernel_rfl) ?_
              repeat (go_big_quiet_step (exact Calls.regrown_of (HHs.out _ (hg5 _ _))))
              refine wpQuiet_nil ?_
              intro _ hw'
              obtain ⟨⟨dq, osq⟩, hw''⟩ := hw'
              subst hw''
              have hx9 := below_regrown wr dq osq
              generalize Sort.grow (redrawn wr dq) osq = w9 at hx9 ⊢
              have hx59 : Ext w5 w9 := hxj.trans hx9
              go_wp2_with fail
              go_roundg (N - (y + 1))
              case rel => exact ⟨y + 1, by omega, rfl, by go_num, by show _ = Value.int .i64 ((tot (fun x => tot (T.toTr.sk rows x) N) x + (tot (T.toTr.sk rows x) y + T.toTr.sk rows x y) : Nat) : Int); rw [HSK.out]; go_num, hx59⟩
              case measure => omega
          · have ds : decide (sx < sy) = false := decide_eq_false hss
            have HSK := Lib.hid (show T.toTr.sk rows x y = 0 from Tr.sk_no fun h => hss (by rw [HSX.out, HSY.out]; exact h.1))
            have HHs := Lib.hid (show ∀ W, Ext w5 W → True from fun _ _ => trivial)
            go_upto_region 13 with fail
            refine wp_region_quiet_below (by kernel_rfl) (by kernel_rfl) ?_
            repeat (go_big_quiet_step (exact Calls.regrown_of (HHs.out _ (hg5 _ _))))
            refine wpQuiet_nil ?_
            intro _ hw'
            obtain ⟨⟨dq, osq⟩, hw''⟩ := hw'
            subst hw''
            have hx9 := below_regrown wr dq osq
            generalize Sort.grow (redrawn wr dq) osq = w9 at hx9 ⊢
            have hx59 : Ext w5 w9 := hxj.trans hx9
            go_wp2_with fail
            go_roundg (N - (y + 1))
            case rel => exact ⟨y + 1, by omega, rfl, by go_num, by show _ = Value.int .i64 ((tot (fun x => tot (T.toTr.sk rows x) N) x + (tot (T.toTr.sk rows x) y + T.toTr.sk rows x y) : Nat) : Int); rw [HSK.out]; go_num, hx59⟩
            case measure => omega
        · have hye : y = N := by omega
          subst hye
          go_wp2_with fail
          go_roundg (y - (x + 1))
          case rel => exact ⟨x + 1, by omega, rfl, by go_num, rfl, hxj⟩
          case measure => omega
    · have hxe : x = N := by omega
      subst hxe
      go_wp2_with fail
      go_ret2
      exact ⟨HX5.out.trans hxr, .inr ⟨HV.out, rows, HST.out, by unfold Tr.skipN; rw [← HNE.out]; rfl⟩⟩

end Go.Proofs.Ytecgigeeolindaa
