/- Contract of antecederef12.Count. Comparisons of numbers; boxes whose world is known. slices.SortFunc at events: the laying (a tool of the kit has written it; numbers turned to names). Contract of the comparison that lamport.Total hands to slices.SortFunc. slices.SortFunc at a slice of the call's own, of structs. Nothing of the program. Contract of lamport.Total. -/
import Derived.Test.YteikcgfnkhoigaaGreatKt
import Derived.Test.YteikcgfnkhoigaaGreatKp
import Derived.Deep.LoopGhost
import Derived.Test.YteikcgfnkhoigaaGreatKa
import Derived.Shelf.SlSortCmp.InsertionK
import Derived.Lib.Small
import Derived.Shelf.SlLaysF0
import Derived.Test.YteikcgfnkhoigaaGreatKf
import Derived.Test.YteikcgfnkhoigaaGreatKu
import Derived.Shelf.SlSortCmp.NoneTotal
import Derived.Test.YteikcgfnkhoigaaGreatKg
import Derived.Test.YteikcgfnkhoigaaGreatKj
import Derived.Test.YteikcgfnkhoigaaGreatKh
namespace Go.Proofs.YteikcgfnkhoigaaGreat
open Go.RowKit Go.Shelf

set_option maxRecDepth 100000 in
set_option maxHeartbeats 1000000 in
theorem rcnt_any (w : World) (T : TM) (hT : T.At w) (hV : T.toTr.Valid) : Calls Tryz.prog 28 #[T.val] w fun e w' => e = .returned (.int .i64 (tot T.en T.n : Nat)) ∧ Ext w w' := by
  have hR := fun W (h : Ext w W) => rvalid_any W T (hT.ext h)
  have hn8 := hV.n8
  have HTS := Lib.hid (show ∀ k, k ≤ T.n → tot T.en k ≤ k * 64 from fun k hk => tot_small (f := T.en) (n := k) (c := 64) fun j hj => hV.en64 (by omega))
  have HE8 := Lib.hid (fun k (hk : k < T.n) => hV.en64 hk)
  have HV := Lib.hid hV
  have HT := Lib.hid hT
  simp only [TM.val] at hR ⊢
  have HR := Lib.hid hR
  obtain ⟨ta, hta⟩ : ∃ a, a = T.a := ⟨_, rfl⟩
  rw [← hta]
  have HTA := Lib.hid hta
  clear hT hV hR hta
  go_enter Tryz.func28, Tryz.ntmps28
  go_upto_region 1 with fail
  refine boxed1 (w := w) (G := fun x => Code.wp _ _ _ _ x) ?_
  intro w1 hx1 hs1 ⟨l0, c0, _, _⟩
  have hx11 : Ext w1 w1 := Ext.refl _
  clear hs1
  have hcall := HR.out w1 hx1
  rw [← HTA.out] at hcall
  have HCA := Lib.hid hcall
  clear hcall
  go_wp2_with fail
  go_at_call 38
  refine HCA.out.mono ?_
  rintro e w2 ⟨b, rfl, hb, hx2⟩
  obtain rfl : b = true := hb.2 HV.out
  have hx12 : Ext w1 w2 := hx2
  clear hb
  go_wp2_with fail
  go_loopg [3, 4] T.n (fun gg v3 v4 wr => ∃ k : Nat, k ≤ T.n ∧ gg = T.n - k ∧ v4 = .int .i64 k ∧ v3 = .int .i64 (tot T.en k : Nat) ∧ Ext w1 wr)
  case atStart => exact ⟨0, by omega, rfl, rfl, rfl, hx12⟩
  case round =>
    obtain ⟨k, hk, rfl, rfl, rfl, hxr⟩ := hrel
    by_cases hlt : k < T.n
    · have hlt' : (k : Int) < (T.n : Int) := by omega
      obtain rfl : ta = some ⟨T.b, T.off, none⟩ := by rw [HTA.out]; exact HT.out.P.pa (by omega)
      have pb := HT.out.P.pb (by omega)
      have p2 : ∀ w', Ext w w' → w'.cell? ⟨T.b, T.off + k * 3 + 2, none⟩ = _ := fun w' h => HT.out.P.p2 w' h k hlt
      have hx0r := hx1.trans hxr
      have h1 := HTS.out k (by omega)
      have h2 := HE8.out k hlt
      go_wp2_with fail
      go_roundg (T.n - (k + 1))
      case rel => exact ⟨k + 1, by omega, rfl, by go_num, congrArg (Value.int .i64) (by show (_ : Int) = ((tot T.en k + T.en k : Nat) : Int); omega), hxr⟩
      case measure => omega
    · obtain rfl : k = T.n := by omega
      go_wp2_with fail
      go_ret
      exact ⟨rfl, hx1.trans hxr⟩

end Go.Proofs.YteikcgfnkhoigaaGreat

namespace Go.Proofs.YteikcgfnkhoigaaGreat
open Go.RowKit Go.Shelf

theorem Ext.grow_ {w0 w : World} (h : Ext w0 w) (os : Array Obj) : Ext w0 (Sort.grow w os) :=
  ⟨h.os, h.tape, h.output, Nat.le_trans h.size (by rw [Sort.size_grow]; exact Nat.le_add_right _ _), fun k hk => by rw [Sort.heap_grow_old _ _ (Nat.lt_of_lt_of_le hk h.size)]; exact h.block k hk⟩
theorem boxed2e {w : World} {c d : Array Value} {tc td : TypeId} {G : World → Prop}
    (h : ∀ w2, (∃ os, w2 = Sort.grow w os) → Hold w2 w.heap.size c → Hold w2 (w.heap.size + 1) d → G w2) : G ((w.alloc (.cells c tc)).alloc (.cells d td)) := by
  refine h _ ⟨_, by rw [Sort.alloc_eq_grow, Sort.alloc_eq_grow, Sort.grow_grow]⟩ ?_ ?_
  · exact (Hold.new w c tc).ext (Ext.alloc _ _)
  · have := Hold.new (w.alloc (.cells c tc)) d td
    rw [World.size_alloc] at this; exact this
theorem boxed1e {w : World} {c : Array Value} {tc : TypeId} {G : World → Prop}
    (h : ∀ w2, (∃ os, w2 = Sort.grow w os) → Ext w w2 → Hold w2 w.heap.size c → G w2) : G (w.alloc (.cells c tc)) :=
  h _ ⟨_, by rw [Sort.alloc_eq_grow]⟩ (Ext.alloc _ _) (Hold.new w c tc)
set_option maxHeartbeats 1000000 in
theorem isNaN_any (a : Int) (w : World) : Calls Tryz.prog 136 #[.int .i64 a] w fun e w' => e = .returned (.bool false) ∧ w = w' := by
  go_enter Tryz.func136, Tryz.ntmps136
  go_wp2
  go_ret
  exact ⟨by simp, rfl⟩
set_option maxHeartbeats 1000000 in
theorem cmpInt_any (a b : Int) (w : World) : Calls Tryz.prog 88 #[.int .i64 a, .int .i64 b] w fun e w' => e = .returned (.int .i64 (Lib.compareInt a b)) ∧ w = w' := by
  unfold Lib.compareInt
  by_cases h : a < b
  · rw [if_pos h]
    go_enter Tryz.func88, Tryz.ntmps88
    go_wp2_with (go_at_call 136; refine (isNaN_any _ _).mono ?_; rintro e w' ⟨rfl, rfl⟩)
    go_ret
    exact ⟨rfl, rfl⟩
  · rw [if_neg h]
    by_cases h2 : a > b
    · rw [if_pos h2]
      go_enter Tryz.func88, Tryz.ntmps88
      go_wp2_with (go_at_call 136; refine (isNaN_any _ _).mono ?_; rintro e w' ⟨rfl, rfl⟩)
      go_ret
      exact ⟨rfl, rfl⟩
    · rw [if_neg h2]
      go_enter Tryz.func88, Tryz.ntmps88
      go_wp2_with (go_at_call 136; refine (isNaN_any _ _).mono ?_; rintro e w' ⟨rfl, rfl⟩)
      go_ret
      exact ⟨rfl, rfl⟩
set_option maxRecDepth 100000 in
set_option maxHeartbeats 1000000 in
theorem cmpOr_any (w : World) (g : Nat) (x y : Int) (c0 : w.cell? ⟨g, 0, none⟩ = some (.int .i64 x)) (c1 : w.cell? ⟨g, 1, none⟩ = some (.int .i64 y)) :
    Calls Tryz.prog 87 #[.slice (some ⟨g, 0, none⟩) 2 2] w fun e w' => e = .returned (.int .i64 (if (x != 0) = true then x else y)) ∧ w = w' := by
  cases hx : (x != 0) with
  | true =>
    rw [if_pos rfl]
    go_enter Tryz.func87, Tryz.ntmps87
    go_wp2
    refine wp_loop_rounds 1 ?_
    rw [rounds_succ]
    go_wp2
    go_ret
    exact ⟨rfl, rfl⟩
  | false =>
    rw [if_neg (by simp)]
    cases hy : (y != 0) with
    | true =>
      go_enter Tryz.func87, Tryz.ntmps87
      go_wp2
      refine wp_loop_rounds 2 ?_
      rw [rounds_succ]
      go_wp2
      rw [rounds_succ]
      go_wp2
      go_ret
      exact ⟨rfl, rfl⟩
    | false =>
      have hy0 : y = 0 := by simpa using hy
      have HY := Lib.hid hy0
      clear hy0
      go_enter Tryz.func87, Tryz.ntmps87
      go_wp2
      refine wp_loop_rounds 3 ?_
      rw [rounds_succ]
      go_wp2
      rw [rounds_succ]
      go_wp2
      rw [rounds_succ]
      go_wp2
      go_ret
      exact ⟨ret_int HY.out.symm, rfl⟩

end Go.Proofs.YteikcgfnkhoigaaGreat

namespace Go.Proofs.YteikcgfnkhoigaaGreat
open Go.Shelf Go.Proofs
def sortEv_ren : Go.Shelf.Ren := ⟨fun | 6 => 85 | 15 => 135 | 14 => 134 | 28 => 176 | 29 => 177 | 20 => 168 | 21 => 169 | 22 => 170 | 23 => 171 | 24 => 172 | 25 => 173 | 26 => 174 | 27 => 175 | 46 => 196 | 47 => 197 | 48 => 198 | 49 => 199 | 50 => 200 | 57 => 218 | n => n, fun | 22 => 66 | 24 => 65 | 25 => 139 | 3 => 3 | 39 => 195 | 0 => 0 | 53 => 227 | 55 => 229 | 4 => 4 | 46 => 221 | 45 => 220 | 50 => 206 | 5 => 5 | 9 => 9 | 66 => 245 | 70 => 249 | 76 => 273 | 77 => 274 | n => n, fun | n => n⟩
theorem sortEv : Go.Proofs.SlLaysF0.n6 Tryz.prog sortEv_ren := {
  mixed := by kernel_rfl
  f6 := ⟨Tryz.f85.name, by decide, Tryz.func85.trans (congrArg some (by kernel_rfl))⟩
  f14 := ⟨Tryz.f134.name, by decide, Tryz.func134.trans (congrArg some (by kernel_rfl))⟩
  f15 := Tryz.func135.trans (congrArg some (by kernel_rfl))
  f20 := ⟨Tryz.f168.name, by decide, Tryz.func168.trans (congrArg some (by kernel_rfl))⟩
  f21 := ⟨Tryz.f169.name, by decide, Tryz.func169.trans (congrArg some (by kernel_rfl))⟩
  f22 := ⟨Tryz.f170.name, by decide, Tryz.func170.trans (congrArg some (by kernel_rfl))⟩
  f23 := ⟨Tryz.f171.name, by decide, Tryz.func171.trans (congrArg some (by kernel_rfl))⟩
  f24 := ⟨Tryz.f172.name, by decide, Tryz.func172.trans (congrArg some (by kernel_rfl))⟩
  f25 := ⟨Tryz.f173.name, by decide, Tryz.func173.trans (congrArg some (by kernel_rfl))⟩
  f26 := ⟨Tryz.f174.name, by decide, Tryz.func174.trans (congrArg some (by kernel_rfl))⟩
  f27 := ⟨Tryz.f175.name, by decide, Tryz.func175.trans (congrArg some (by kernel_rfl))⟩
  f28 := Tryz.func176.trans (congrArg some (by kernel_rfl))
  f29 := Tryz.func177.trans (congrArg some (by kernel_rfl))
  f46 := ⟨Tryz.f196.name, by decide, Tryz.func196.trans (congrArg some (by kernel_rfl))⟩
  f47 := Tryz.func197.trans (congrArg some (by kernel_rfl))
  f48 := Tryz.func198.trans (congrArg some (by kernel_rfl))
  f49 := ⟨Tryz.f199.name, by decide, Tryz.func199.trans (congrArg some (by kernel_rfl))⟩
  f50 := ⟨Tryz.f200.name, by decide, Tryz.func200.trans (congrArg some (by kernel_rfl))⟩
  f57 := ⟨Tryz.f218.name, by decide, Tryz.func218.trans (congrArg some (by kernel_rfl))⟩
  t0 := Tryz.underlying0
  a0 := Tryz.isAgg0
  z0 := Tryz.sizeOf0
  v0 := Tryz.zeroValue0
  t3 := Tryz.underlying3
  a3 := Tryz.isAgg3
  z3 := Tryz.sizeOf3
  v3 := Tryz.zeroValue3
  t4 := Tryz.underlying4
  a4 := Tryz.isAgg4
  z4 := Tryz.sizeOf4
  v4 := Tryz.zeroValue4
  t5 := Tryz.underlying5
  a5 := Tryz.isAgg5
  z5 := Tryz.sizeOf5
  v5 := Tryz.zeroValue5
  t9 := Tryz.underlying9
  a9 := Tryz.isAgg9
  z9 := Tryz.sizeOf9
  v9 := Tryz.zeroValue9
  t22 := Tryz.underlying66
  a22 := Tryz.isAgg66
  z22 := Tryz.sizeOf66
  v22 := Tryz.zeroValue66
  t25 := Tryz.underlying139
  a25 := Tryz.isAgg139
  z25 := Tryz.sizeOf139
  v25 := Tryz.zeroValue139
  t39 := Tryz.underlying195
  a39 := Tryz.isAgg195
  z39 := Tryz.sizeOf195
  v39 := Tryz.zeroValue195
  t45 := Tryz.underlying220
  a45 := Tryz.isAgg220
  z45 := Tryz.sizeOf220
  v45 := Tryz.zeroValue220
  t46 := Tryz.underlying221
  a46 := Tryz.isAgg221
  z46 := Tryz.sizeOf221
  v46 := Tryz.zeroValue221
  t50 := Tryz.underlying206
  a50 := Tryz.isAgg206
  z50 := Tryz.sizeOf206
  v50 := Tryz.zeroValue206
  t53 := Tryz.underlying227
  a53 := Tryz.isAgg227
  z53 := Tryz.sizeOf227
  v53 := Tryz.zeroValue227
  t55 := Tryz.underlying229
  a55 := Tryz.isAgg229
  z55 := Tryz.sizeOf229
  v55 := Tryz.zeroValue229
  t66 := Tryz.underlying245
  a66 := Tryz.isAgg245
  z66 := Tryz.sizeOf245
  v66 := Tryz.zeroValue245
  t70 := Tryz.underlying249
  a70 := Tryz.isAgg249
  z70 := Tryz.sizeOf249
  v70 := Tryz.zeroValue249
  t76 := Tryz.underlying273
  a76 := Tryz.isAgg273
  z76 := Tryz.sizeOf273
  v76 := Tryz.zeroValue273
  t77 := Tryz.underlying274
  a77 := Tryz.isAgg274
  z77 := Tryz.sizeOf274
  v77 := Tryz.zeroValue274 }

end Go.Proofs.YteikcgfnkhoigaaGreat

namespace Go.Proofs.YteikcgfnkhoigaaGreat
open Go.RowKit Go.Shelf

/-- the order of two events, as the program has it -/
def cmpE (M : Mx) (x y : NN) : Int := if (Lib.compareInt (M.val x.1 x.2) (M.val y.1 y.2) != 0) = true then Lib.compareInt (M.val x.1 x.2) (M.val y.1 y.2) else Lib.compareInt (x.1 : Int) (y.1 : Int)
theorem cmpE_lt (M : Mx) (x y : NN) : cmpE M x y < 0 ↔ tLt (fun x : NN => M.val x.1 x.2) (fun x : NN => (x.1 : Int)) x y := by
  unfold cmpE tLt Lib.compareInt
  by_cases h : M.val x.1 x.2 < M.val y.1 y.2
  · rw [if_pos h]; simp [h]
  · rw [if_neg h]
    by_cases h2 : M.val x.1 x.2 > M.val y.1 y.2
    · rw [if_pos h2]; simp [h]; omega
    · rw [if_neg h2]
      have e : M.val x.1 x.2 = M.val y.1 y.2 := by omega
      simp [e]
      by_cases h3 : x.1 < y.1
      · simp [h3]
      · by_cases h4 : y.1 < x.1
        · simp [h3, h4]
        · simp [h3, h4]
set_option maxRecDepth 100000 in
set_option maxHeartbeats 8000000 in
theorem total1_any (w0 : World) (M : MM) (hM : M.At w0) (bs : Nat) (hb : Hold w0 bs #[.slice M.a M.n M.cap]) (x y : NN) (hx : x.1 < M.n ∧ x.2 < M.rn x.1) (hy : y.1 < M.n ∧ y.2 < M.rn y.1) (w : World) (hxw : Ext w0 w) :
    Calls Tryz.prog 86 #[.agg #[.int .i64 x.1, .int .i64 (x.2 + 1)], .agg #[.int .i64 y.1, .int .i64 (y.2 + 1)], .pointer (some ⟨bs, 0, none⟩)] w
    fun e w' => e = .returned (.int .i64 (cmpE M.toMx x y)) ∧ ∃ q os', w' = Sort.grow (w.drewN q) os' := by
  obtain ⟨xp, xi⟩ := x
  obtain ⟨yp, yi⟩ := y
  obtain ⟨hx1, hx2⟩ := hx
  obtain ⟨hy1, hy2⟩ := hy
  dsimp only at hx1 hx2 hy1 hy2 ⊢
  have HT := Lib.hid (show cmpE M.toMx (xp, xi) (yp, yi) = if (Lib.compareInt (M.val xp xi) (M.val yp yi) != 0) = true then Lib.compareInt (M.val xp xi) (M.val yp yi) else Lib.compareInt (xp : Int) (yp : Int) from rfl)
  rw [HT.out]
  clear HT
  have hn := hM.hn
  have hr1 := hM.hr xp hx1
  have hr2 := hM.hr yp hy1
  have i1 : (xp : Int) < (M.n : Int) := by omega
  have i2 : (yp : Int) < (M.n : Int) := by omega
  have hwx : IntKind.i64.wrap (xi : Int) = (xi : Int) := IntWalk.i64_in _ (by omega)
  have hwy : IntKind.i64.wrap (yi : Int) = (yi : Int) := IntWalk.i64_in _ (by omega)
  have i3 : (xi : Int) < (M.rn xp : Int) := by omega
  have i4 : (yi : Int) < (M.rn yp : Int) := by omega
  have pb := hM.pb (by omega)
  have px : ∀ w', Ext w0 w' → w'.cell? ⟨M.b, M.off + xp, none⟩ = some (.slice (some ⟨M.rb xp, M.ro xp, none⟩) (M.rn xp) (M.rc xp)) := fun w' h => by rw [← hM.ra xp hx1 (by omega)]; exact hM.p0 w' h xp hx1
  have py : ∀ w', Ext w0 w' → w'.cell? ⟨M.b, M.off + yp, none⟩ = some (.slice (some ⟨M.rb yp, M.ro yp, none⟩) (M.rn yp) (M.rc yp)) := fun w' h => by rw [← hM.ra yp hy1 (by omega)]; exact hM.p0 w' h yp hy1
  have rbx := hM.rb xp hx1 (by omega)
  have rby := hM.rb yp hy1 (by omega)
  have rx : ∀ w', Ext w0 w' → w'.cell? ⟨M.rb xp, M.ro xp + xi, none⟩ = some (.int .i64 (M.val xp xi)) := fun w' h => hM.r0 w' h xp xi hx1 hx2
  have ry : ∀ w', Ext w0 w' → w'.cell? ⟨M.rb yp, M.ro yp + yi, none⟩ = some (.int .i64 (M.val yp yi)) := fun w' h => hM.r0 w' h yp yi hy1 hy2
  rw [hM.pa (by omega)] at hb
  obtain ⟨lb, cb, _, _⟩ := hb.box
  generalize M.val xp xi = sx at rx ⊢
  generalize M.val yp yi = sy at ry ⊢
  clear hM hb
  obtain ⟨ci, hci⟩ : ∃ c, c = Lib.compareInt sx sy := ⟨_, rfl⟩
  obtain ⟨cs, hcs⟩ : ∃ c, c = Lib.compareInt (xp : Int) (yp : Int) := ⟨_, rfl⟩
  have HI := Lib.hid (show ∀ W, Calls Tryz.prog 88 #[.int .i64 sx, .int .i64 sy] W fun e w' => e = .returned (.int .i64 ci) ∧ W = w' from fun W => by rw [hci]; exact cmpInt_any sx sy W)
  have HS := Lib.hid (show ∀ W, Calls Tryz.prog 88 #[.int .i64 (xp : Int), .int .i64 (yp : Int)] W fun e w' => e = .returned (.int .i64 cs) ∧ W = w' from fun W => by rw [hcs]; exact cmpInt_any _ _ W)
  rw [← hci, ← hcs]
  obtain ⟨r, hr⟩ : ∃ r, r = if (ci != 0) = true then ci else cs := ⟨_, rfl⟩
  rw [← hr]
  have HR := Lib.hid hr
  clear hr hci hcs
  go_enter Tryz.func86, Tryz.ntmps86
  go_upto_region 1 with fail
  refine boxed2e (w := w) (G := fun x => Code.wp _ _ _ _ x) ?_
  intro w1 hw1 h0 h1
  have HW1 := Lib.hid hw1
  have H0 := Lib.hid h0
  have H1 := Lib.hid h1
  have HX1 := Lib.hid (show Ext w0 w1 from by obtain ⟨os, e⟩ := hw1; rw [e]; exact hxw.grow_ _)
  clear hw1 h0 h1
  refine wp_region_held_drew (S := fun w' => Ext w0 w' ∧ Hold w' w.heap.size #[.int .i64 xp, .int .i64 (xi + 1)] ∧ Hold w' (w.heap.size + 1) #[.int .i64 yp, .int .i64 (yi + 1)]) (by kernel_rfl) ⟨HX1.out.drew, H0.out.drew, H1.out.drew⟩ (fun hHeld => ?_)
  refine heldTake 0 (v := ?_) rfl (by kernel_rfl) (by kernel_rfl) (by kernel_rfl) (fun _ _ _ h => h) (Or.inl ⟨by rfl, ?_⟩) (by assumption) ?_
  rotate_left
  · (intro w' hSw; obtain ⟨hS0, hSa, hSb⟩ := hSw; obtain ⟨lS, cS, _, _⟩ := hSa.box; obtain ⟨lU, cU, _, _⟩ := hSb.box; have hSS := Ext.refl w'; go_simp; try with_reducible rfl)
  simp only [Act.put, List.setIfInBounds_toArray, List.set_cons_zero, List.set_cons_succ]
  refine heldTake 1 (v := ?_) rfl (by kernel_rfl) (by kernel_rfl) (by kernel_rfl) (fun _ _ _ h => h) (Or.inl ⟨by rfl, ?_⟩) (by assumption) ?_
  rotate_left
  · (intro w' hSw; obtain ⟨hS0, hSa, hSb⟩ := hSw; obtain ⟨lS, cS, _, _⟩ := hSa.box; obtain ⟨lU, cU, _, _⟩ := hSb.box; have hSS := Ext.refl w'; go_simp; try with_reducible rfl)
  simp only [Act.put, List.setIfInBounds_toArray, List.set_cons_zero, List.set_cons_succ]
  refine heldTake 2 (v := ?_) rfl (by kernel_rfl) (by kernel_rfl) (by kernel_rfl) (fun _ _ _ h => h) (Or.inl ⟨by rfl, ?_⟩) (by assumption) ?_
  rotate_left
  · (intro w' hSw; obtain ⟨hS0, hSa, hSb⟩ := hSw; obtain ⟨lS, cS, _, _⟩ := hSa.box; obtain ⟨lU, cU, _, _⟩ := hSb.box; have hSS := Ext.refl w'; go_simp; try with_reducible rfl)
  simp only [Act.put, List.setIfInBounds_toArray, List.set_cons_zero, List.set_cons_succ]
  refine heldTake 3 (v := ?_) rfl (by kernel_rfl) (by kernel_rfl) (by kernel_rfl) (fun _ _ _ h => h) (Or.inl ⟨by rfl, ?_⟩) (by assumption) ?_
  rotate_left
  · (intro w' hSw; obtain ⟨hS0, hSa, hSb⟩ := hSw; obtain ⟨lS, cS, _, _⟩ := hSa.box; obtain ⟨lU, cU, _, _⟩ := hSb.box; have hSS := Ext.refl w'; go_simp; try with_reducible rfl)
  simp only [Act.put, List.setIfInBounds_toArray, List.set_cons_zero, List.set_cons_succ]
  refine heldTake 4 (v := ?_) rfl (by kernel_rfl) (by kernel_rfl) (by kernel_rfl) (fun _ _ _ h => h) (Or.inl ⟨by rfl, ?_⟩) (by assumption) ?_
  rotate_left
  · (intro w' hSw; obtain ⟨hS0, hSa, hSb⟩ := hSw; obtain ⟨lS, cS, _, _⟩ := hSa.box; obtain ⟨lU, cU, _, _⟩ := hSb.box; have hSS := Ext.refl w'; go_simp; try with_reducible rfl)
  simp only [Act.put, List.setIfInBounds_toArray, List.set_cons_zero, List.set_cons_succ]
  refine heldTake 5 (v := ?_) rfl (by kernel_rfl) (by kernel_rfl) (by kernel_rfl) (fun _ _ _ h => h) (Or.inl ⟨by rfl, ?_⟩) (by assumption) ?_
  rotate_left
  · (intro w' hSw; obtain ⟨hS0, hSa, hSb⟩ := hSw; obtain ⟨lS, cS, _, _⟩ := hSa.box; obtain ⟨lU, cU, _, _⟩ := hSb.box; have hSS := Ext.refl w'; go_simp; try with_reducible rfl)
  simp only [Act.put, List.setIfInBounds_toArray, List.set_cons_zero, List.set_cons_succ]
  refine heldTake 6 (v := ?_) rfl (by kernel_rfl) (by kernel_rfl) (by kernel_rfl) (fun _ _ _ h => h) (Or.inl ⟨by rfl, ?_⟩) (by assumption) ?_
  rotate_left
  · (intro w' hSw; obtain ⟨hS0, hSa, hSb⟩ := hSw; obtain ⟨lS, cS, _, _⟩ := hSa.box; obtain ⟨lU, cU, _, _⟩ := hSb.box; have hSS := Ext.refl w'; go_simp; try with_reducible rfl)
  simp only [Act.put, List.setIfInBounds_toArray, List.set_cons_zero, List.set_cons_succ]
  refine heldTake 7 (v := ?_) rfl (by kernel_rfl) (by kernel_rfl) (by kernel_rfl) (fun _ _ _ h => h) (Or.inl ⟨by rfl, ?_⟩) (by assumption) ?_
  rotate_left
  · (intro w' hSw; obtain ⟨hS0, hSa, hSb⟩ := hSw; obtain ⟨lS, cS, _, _⟩ := hSa.box; obtain ⟨lU, cU, _, _⟩ := hSb.box; have hSS := Ext.refl w'; go_simp; try with_reducible rfl)
  simp only [Act.put, List.setIfInBounds_toArray, List.set_cons_zero, List.set_cons_succ]
  refine heldTake 8 (v := ?_) rfl (by kernel_rfl) (by kernel_rfl) (by kernel_rfl) (fun _ _ _ h => h) (Or.inl ⟨by rfl, ?_⟩) (by assumption) ?_
  rotate_left
  · (intro w' hSw; obtain ⟨hS0, hSa, hSb⟩ := hSw; obtain ⟨lS, cS, _, _⟩ := hSa.box; obtain ⟨lU, cU, _, _⟩ := hSb.box; have hSS := Ext.refl w'; go_simp; try with_reducible rfl)
  simp only [Act.put, List.setIfInBounds_toArray, List.set_cons_zero, List.set_cons_succ]
  refine heldTake 9 (v := ?_) rfl (by kernel_rfl) (by kernel_rfl) (by kernel_rfl) (fun _ _ _ h => h) (Or.inl ⟨by rfl, ?_⟩) (by assumption) ?_
  rotate_left
  · (intro w' hSw; obtain ⟨hS0, hSa, hSb⟩ := hSw; obtain ⟨lS, cS, _, _⟩ := hSa.box; obtain ⟨lU, cU, _, _⟩ := hSb.box; have hSS := Ext.refl w'; go_simp; try with_reducible rfl)
  simp only [Act.put, List.setIfInBounds_toArray, List.set_cons_zero, List.set_cons_succ]
  refine heldTake 10 (v := ?_) rfl (by kernel_rfl) (by kernel_rfl) (by kernel_rfl) (fun _ _ _ h => h) (Or.inl ⟨by rfl, ?_⟩) (by assumption) ?_
  rotate_left
  · (intro w' hSw; obtain ⟨hS0, hSa, hSb⟩ := hSw; obtain ⟨lS, cS, _, _⟩ := hSa.box; obtain ⟨lU, cU, _, _⟩ := hSb.box; have hSS := Ext.refl w'; go_simp; try with_reducible rfl)
  simp only [Act.put, List.setIfInBounds_toArray, List.set_cons_zero, List.set_cons_succ]
  refine heldTake 11 (v := ?_) rfl (by kernel_rfl) (by kernel_rfl) (by kernel_rfl) (fun _ _ _ h => h) (Or.inl ⟨by rfl, ?_⟩) (by assumption) ?_
  rotate_left
  · (intro w' hSw; obtain ⟨hS0, hSa, hSb⟩ := hSw; obtain ⟨lS, cS, _, _⟩ := hSa.box; obtain ⟨lU, cU, _, _⟩ := hSb.box; have hSS := Ext.refl w'; go_simp; try with_reducible rfl)
  simp only [Act.put, List.setIfInBounds_toArray, List.set_cons_zero, List.set_cons_succ]
  refine heldTake 12 (v := ?_) rfl (by kernel_rfl) (by kernel_rfl) (by kernel_rfl) (fun _ _ _ h => h) (Or.inl ⟨by rfl, ?_⟩) (by assumption) ?_
  rotate_left
  · (intro w' hSw; obtain ⟨hS0, hSa, hSb⟩ := hSw; obtain ⟨lS, cS, _, _⟩ := hSa.box; obtain ⟨lU, cU, _, _⟩ := hSb.box; have hSS := Ext.refl w'; go_simp; try with_reducible rfl)
  simp only [Act.put, List.setIfInBounds_toArray, List.set_cons_zero, List.set_cons_succ]
  refine heldTake 13 (v := ?_) rfl (by kernel_rfl) (by kernel_rfl) (by kernel_rfl) (fun _ _ _ h => h) (Or.inl ⟨by rfl, ?_⟩) (by assumption) ?_
  rotate_left
  · (intro w' hSw; obtain ⟨hS0, hSa, hSb⟩ := hSw; obtain ⟨lS, cS, _, _⟩ := hSa.box; obtain ⟨lU, cU, _, _⟩ := hSb.box; have hSS := Ext.refl w'; go_simp; try with_reducible rfl)
  simp only [Act.put, List.setIfInBounds_toArray, List.set_cons_zero, List.set_cons_succ]
  refine heldTake 14 (v := ?_) rfl (by kernel_rfl) (by kernel_rfl) (by kernel_rfl) (fun _ _ _ h => h) (Or.inl ⟨by rfl, ?_⟩) (by assumption) ?_
  rotate_left
  · (intro w' hSw; obtain ⟨hS0, hSa, hSb⟩ := hSw; obtain ⟨lS, cS, _, _⟩ := hSa.box; obtain ⟨lU, cU, _, _⟩ := hSb.box; have hSS := Ext.refl w'; go_simp; try with_reducible rfl)
  simp only [Act.put, List.setIfInBounds_toArray, List.set_cons_zero, List.set_cons_succ]
  refine heldTake 15 (v := ?_) rfl (by kernel_rfl) (by kernel_rfl) (by kernel_rfl) (fun _ _ _ h => h) (Or.inl ⟨by rfl, ?_⟩) (by assumption) ?_
  rotate_left
  · (intro w' hSw; obtain ⟨hS0, hSa, hSb⟩ := hSw; obtain ⟨lS, cS, _, _⟩ := hSa.box; obtain ⟨lU, cU, _, _⟩ := hSb.box; have hSS := Ext.refl w'; go_simp; try with_reducible rfl)
  simp only [Act.put, List.setIfInBounds_toArray, List.set_cons_zero, List.set_cons_succ]
  refine heldTake 16 (v := ?_) rfl (by kernel_rfl) (by kernel_rfl) (by kernel_rfl) (fun _ _ _ h => h) (Or.inl ⟨by rfl, ?_⟩) (by assumption) ?_
  rotate_left
  · (intro w' hSw; obtain ⟨hS0, hSa, hSb⟩ := hSw; obtain ⟨lS, cS, _, _⟩ := hSa.box; obtain ⟨lU, cU, _, _⟩ := hSb.box; have hSS := Ext.refl w'; go_simp; try with_reducible rfl)
  simp only [Act.put, List.setIfInBounds_toArray, List.set_cons_zero, List.set_cons_succ]
  refine heldTake 17 (v := ?_) rfl (by kernel_rfl) (by kernel_rfl) (by kernel_rfl) (fun _ _ _ h => h) (Or.inl ⟨by rfl, ?_⟩) (by assumption) ?_
  rotate_left
  · (intro w' hSw; obtain ⟨hS0, hSa, hSb⟩ := hSw; obtain ⟨lS, cS, _, _⟩ := hSa.box; obtain ⟨lU, cU, _, _⟩ := hSb.box; have hSS := Ext.refl w'; go_simp; try with_reducible rfl)
  simp only [Act.put, List.setIfInBounds_toArray, List.set_cons_zero, List.set_cons_succ]
  refine heldTake 18 (v := ?_) rfl (by kernel_rfl) (by kernel_rfl) (by kernel_rfl) (fun _ _ _ h => h) (Or.inl ⟨by rfl, ?_⟩) (by assumption) ?_
  rotate_left
  · (intro w' hSw; obtain ⟨hS0, hSa, hSb⟩ := hSw; obtain ⟨lS, cS, _, _⟩ := hSa.box; obtain ⟨lU, cU, _, _⟩ := hSb.box; have hSS := Ext.refl w'; go_simp; try with_reducible rfl)
  simp only [Act.put, List.setIfInBounds_toArray, List.set_cons_zero, List.set_cons_succ]
  refine heldTake 19 (v := ?_) rfl (by kernel_rfl) (by kernel_rfl) (by kernel_rfl) (fun _ _ _ h => h) (Or.inl ⟨by rfl, ?_⟩) (by assumption) ?_
  rotate_left
  · (intro w' hSw; obtain ⟨hS0, hSa, hSb⟩ := hSw; obtain ⟨lS, cS, _, _⟩ := hSa.box; obtain ⟨lU, cU, _, _⟩ := hSb.box; have hSS := Ext.refl w'; go_simp; try with_reducible rfl)
  simp only [Act.put, List.setIfInBounds_toArray, List.set_cons_zero, List.set_cons_succ]
  refine heldTake 21 (v := ?_) rfl (by kernel_rfl) (by kernel_rfl) (by kernel_rfl) (fun _ _ _ h => h) (Or.inl ⟨by rfl, ?_⟩) (by assumption) ?_
  rotate_left
  · (intro w' hSw; obtain ⟨hS0, hSa, hSb⟩ := hSw; obtain ⟨lS, cS, _, _⟩ := hSa.box; obtain ⟨lU, cU, _, _⟩ := hSb.box; have hSS := Ext.refl w'; go_simp; try with_reducible rfl)
  simp only [Act.put, List.setIfInBounds_toArray, List.set_cons_zero, List.set_cons_succ]
  refine heldTake 22 (v := ?_) rfl (by kernel_rfl) (by kernel_rfl) (by kernel_rfl) (fun _ _ _ h => h) (Or.inl ⟨by rfl, ?_⟩) (by assumption) ?_
  rotate_left
  · (intro w' hSw; obtain ⟨hS0, hSa, hSb⟩ := hSw; obtain ⟨lS, cS, _, _⟩ := hSa.box; obtain ⟨lU, cU, _, _⟩ := hSb.box; have hSS := Ext.refl w'; go_simp; try with_reducible rfl)
  simp only [Act.put, List.setIfInBounds_toArray, List.set_cons_zero, List.set_cons_succ]
  refine heldTake 23 (v := ?_) rfl (by kernel_rfl) (by kernel_rfl) (by kernel_rfl) (fun _ _ _ h => h) (Or.inl ⟨by rfl, ?_⟩) (by assumption) ?_
  rotate_left
  · (intro w' hSw; obtain ⟨hS0, hSa, hSb⟩ := hSw; obtain ⟨lS, cS, _, _⟩ := hSa.box; obtain ⟨lU, cU, _, _⟩ := hSb.box; have hSS := Ext.refl w'; go_simp; try with_reducible rfl)
  simp only [Act.put, List.setIfInBounds_toArray, List.set_cons_zero, List.set_cons_succ]
  refine heldTake 24 (v := ?_) rfl (by kernel_rfl) (by kernel_rfl) (by kernel_rfl) (fun _ _ _ h => h) (Or.inl ⟨by rfl, ?_⟩) (by assumption) ?_
  rotate_left
  · (intro w' hSw; obtain ⟨hS0, hSa, hSb⟩ := hSw; obtain ⟨lS, cS, _, _⟩ := hSa.box; obtain ⟨lU, cU, _, _⟩ := hSb.box; have hSS := Ext.refl w'; go_simp; try with_reducible rfl)
  simp only [Act.put, List.setIfInBounds_toArray, List.set_cons_zero, List.set_cons_succ]
  refine wpAnyH_ready (rs := [20]) (by kernel_rfl) (by simp) ?_
  refine AllReadyH.cons rfl (fun K hK => ?_) AllReadyH.nil
  go_simp
  go_at_call 88
  refine (HI.out _).mono ?_
  rintro e w' ⟨rfl, rfl⟩
  refine hK.out _ _ ⟨HX1.out.drew, H0.out.drew, H1.out.drew⟩ (fun hHeld2 => ?_)
  clear hK K
  refine wpAnyH_ready (rs := [25]) (by kernel_rfl) (by simp) ?_
  refine AllReadyH.cons rfl (fun K hK => ?_) AllReadyH.nil
  go_simp
  go_at_call 88
  refine (HS.out _).mono ?_
  rintro e w' ⟨rfl, rfl⟩
  refine hK.out _ _ ⟨HX1.out.drew, H0.out.drew, H1.out.drew⟩ (fun hHeld2 => ?_)
  clear hK K
  refine wpAnyH_ready (rs := [26]) (by kernel_rfl) (by simp) ?_
  refine AllReadyH.cons rfl (fun K hK => ?_) AllReadyH.nil
  go_simp
  refine boxed1e (w := w1.drew) (G := fun x => K _ x) ?_
  intro w2 hw2 hx2 h2
  have HW2 := Lib.hid hw2
  have HE2 := Lib.hid hx2
  have H2 := Lib.hid (show Hold w2 w1.heap.size #[.int .i64 ci, .int .i64 cs] from h2)
  clear hw2 h2 hx2
  refine hK.out _ _ ⟨HX1.out.drew.trans HE2.out, H0.out.drew.ext HE2.out, H1.out.drew.ext HE2.out⟩ (fun hHeld2 => ?_)
  clear hK K
  refine wpAnyH_ready (rs := [27]) (by kernel_rfl) (by simp) ?_
  refine AllReadyH.cons rfl (fun K hK => ?_) AllReadyH.nil
  go_simp
  go_at_call 87
  refine (cmpOr_any _ _ ci cs (H2.out.cell0 0) (H2.out.cell0 1)).mono ?_
  rintro e w' ⟨he, rfl⟩
  rw [← HR.out] at he
  subst he
  refine hK.out _ _ ⟨HX1.out.drew.trans HE2.out, H0.out.drew.ext HE2.out, H1.out.drew.ext HE2.out⟩ (fun hHeld2 => ?_)
  clear hK K
  refine heldTake 28 (v := ?_) rfl (by kernel_rfl) (by kernel_rfl) (by kernel_rfl) (fun _ _ _ h => h) (Or.inl ⟨by rfl, ?_⟩) (by assumption) ?_
  rotate_left
  · (intro w' hSw; obtain ⟨hS0, hSa, hSb⟩ := hSw; obtain ⟨lS, cS, _, _⟩ := hSa.box; obtain ⟨lU, cU, _, _⟩ := hSb.box; have hSS := Ext.refl w'; go_simp; try with_reducible rfl)
  simp only [Act.put, List.setIfInBounds_toArray, List.set_cons_zero, List.set_cons_succ]
  refine wpAnyH_done (by kernel_rfl) ?_ _
  go_wp2_with fail
  go_ret
  refine ⟨rfl, 1, ?_⟩
  obtain ⟨os1, e1⟩ := HW1.out
  obtain ⟨os2, e2⟩ := HW2.out
  exact ⟨os1 ++ os2, by rw [e2, e1, Sort.drew_grow, Sort.grow_grow]; rfl⟩

end Go.Proofs.YteikcgfnkhoigaaGreat

namespace Go.Proofs.YteikcgfnkhoigaaGreat
open Go.RowKit Go.Shelf Go.Proofs

theorem flatMap_get {α : Type} [Inhabited α] {enc : α → List Value} {k : Nat} (hk : ∀ x, (enc x).length = k) (h0 : 0 < k) : ∀ (l : List α) (j : Nat), j < l.length * k → (l.flatMap enc)[j]? = some ((enc l[j / k]!)[j % k]!)
  | [], j, h => by simp at h
  | x :: l, j, h => by
    rw [List.flatMap_cons]
    by_cases hj : j < k
    · have hl : j < (enc x).length := by rw [hk]; exact hj
      rw [List.getElem?_append_left hl, Nat.div_eq_of_lt hj, Nat.mod_eq_of_lt hj, List.getElem?_eq_getElem hl]
      show _ = some ((enc x)[j]!)
      rw [getElem!_pos (enc x) j hl]
    · have h2 : j - k < l.length * k := by rw [List.length_cons, Nat.add_mul] at h; omega
      have e1 : j / k = (j - k) / k + 1 := by
        rw [Nat.div_eq_sub_div h0 (by omega)]
      have e2 : j % k = (j - k) % k := Nat.mod_eq_sub_mod (by omega)
      rw [List.getElem?_append_right (by rw [hk]; omega), hk, flatMap_get hk h0 l (j - k) h2, e1, e2]
      congr 2
theorem flatMap_len {α : Type} {enc : α → List Value} {k : Nat} (hk : ∀ x, (enc x).length = k) (l : List α) : (l.flatMap enc).length = l.length * k := by
  induction l with
  | nil => simp
  | cons x l ih => rw [List.flatMap_cons, List.length_append, hk, ih, List.length_cons, Nat.add_mul]; omega
/-- n elements of k cells, as a value hands them -/
def RowHas (w : World) (v : Value) (k n : Nat) (xs : List Value) : Prop :=
  (n = 0 ∧ ∃ a c, v = .slice a 0 c) ∨ ∃ g off cap, v = .slice (some ⟨g, off, none⟩) n cap ∧ g < w.heap.size ∧ ∀ j, j < n * k → w.cell? ⟨g, off + j, none⟩ = xs[j]?
theorem below_sortWorldK {α : Type} [Inhabited α] (enc : α → List Value) (k : Nat) (w : World) (B blk off m : Nat) (d : Array α) (os : Array Obj) (hb : B ≤ blk) (hB : B ≤ w.heap.size) : Below B w (sortWorldK enc k w blk off m d os) := by
  refine ⟨rfl, rfl, rfl, size_sortWorldK_c enc k w blk off m d os, fun i hi => ?_⟩
  unfold sortWorldK
  rw [Sort.heap_grow_old _ _ (by rw [Sort.size_putRowK]; exact Nat.lt_of_lt_of_le hi hB)]
  unfold Sort.putRowK Sort.putRow Sort.mapBlock
  rw [Array.getElem?_modify, if_neg (by omega)]
  rfl
theorem sort_que {α : Type} [Inhabited α] {P : Program} {ρ : Ren} (L : SlLaysF0.n6 P ρ) (k : Nat) (h0 : 0 < k) (aE : ∀ w, (isAgg (ρ.t 24)).run P w = .ok true w) (zE : ∀ w, (Go.sizeOf (ρ.t 24)).run P w = .ok k w) (enc : α → List Value) (hk : ∀ x, (enc x).length = k) (h1 : ∀ x, ∀ v ∈ enc x, v.oneCell' = true)
    (cf : α → α → Int) (hO : Sort.SWO (ltOf cf)) (g : Nat) (cb : Array Value) (w : World) (eg : ∀ args w, (callFunc g args).run P w = .ok (.enter g args) w) {base : Nat} {v : Value} {l : List α} (hq : Que w base k v l.length (l.flatMap enc)) (hB : base ≤ w.heap.size) (hl : l.length ≤ 1000000)
    (hcmp : ∀ blk off cap, v = .slice (some ⟨blk, off, none⟩) l.length cap → blk < w.heap.size → CmpLays P g cb enc k cf blk off l.length w) :
    Calls P (ρ.f 6) #[v, .func (.func g) #[] cb] w fun e w' => e = .returned (.tuple #[]) ∧ ∃ l' : List α, l'.Perm l ∧ l'.Pairwise (fun a b => ltOf cf b a = false) ∧ Below base w w' ∧ RowHas w' v k l'.length (l'.flatMap enc) := by
  rcases hq.val with ⟨ao, rfl, hn, ha⟩ | ⟨blk, off, cap, rfl, b1, b2, b3, b4, b5, b6⟩
  · refine (AnyF.slices_SortFunc_none { L with } ao 0 (.func (.func g) #[] cb) w).mono fun e w' ⟨he, hw⟩ => ?_
    subst hw
    obtain rfl : l = [] := List.eq_nil_of_length_eq_zero hn
    exact ⟨he, [], List.Perm.refl _, List.Pairwise.nil, Below.refl _ _, .inl ⟨rfl, ao, 0, rfl⟩⟩
  · have hH : Sort.HoldsK enc k w blk off l.toArray := by
      intro j hj
      have hj' : j < l.length * k := by simpa using hj
      rw [Sort.get_flatK enc k l.toArray j (by simpa using hj')]
      refine ⟨?_, (b6 j (Nat.lt_of_lt_of_le hj' (Nat.mul_le_mul_right _ b3))).2⟩
      rw [b5 j hj', flatMap_get hk h0 l j hj']
      simp
    have hcall := AnyQ.slices_SortFunc L k aE zE enc hk h1 cf hO g cb blk off cap l.toArray w eg (by simpa using hcmp blk off cap rfl b2) hH b2 (by simp; omega)
    have e : (Value.slice (some ⟨blk, off, none⟩) l.toArray.size cap) = .slice (some ⟨blk, off, none⟩) l.length cap := by simp
    rw [e] at hcall
    refine hcall.mono fun e w' ⟨he, d', n, os, hp, hs, hw⟩ => ?_
    obtain ⟨hsz, _, hperm⟩ := hp
    have hsz' : d'.size = l.length := by rw [hsz]; simp
    have hl' : d'.toList.length = l.length := by simpa using hsz'
    have hperm' : d'.toList.Perm l := by
      have e1 : d'.extract 0 l.toArray.size = d' := by rw [← hsz]; simp
      have e2 : l.toArray.extract 0 l.toArray.size = l.toArray := by simp
      rw [e1, e2] at hperm
      simpa using hperm
    refine ⟨he, d'.toList, hperm', ?_, by rw [hw]; exact below_sortWorldK _ _ _ _ _ _ _ _ _ b1 hB, .inr ⟨blk, off, cap, by rw [hl'], by rw [hw]; exact Nat.lt_of_lt_of_le b2 (size_sortWorldK_c enc k w blk off n d' os), fun j hj => ?_⟩⟩
    · rw [List.pairwise_iff_getElem]
      intro i j hi hj hij
      have := hs i j (Nat.zero_le _) hij (by rw [← hsz]; simpa using hj)
      rw [getElem!_pos d' j (by simpa using hj), getElem!_pos d' i (by simpa using hi)] at this
      simpa using this
    · have hh := holdsK_sortWorldK_c enc k w blk off l.toArray d' n os hH b2 hsz
      rw [← hw] at hh
      have hj' : j < d'.size * k := by simpa using hj
      have h2 := (hh j (by simpa using hj')).1
      rw [Sort.get_flatK enc k d' j hj'] at h2
      have hjk : j / k < d'.size := Nat.div_lt_of_lt_mul (by rw [Nat.mul_comm]; exact hj')
      have e9 : d'.toList[j / k]! = d'[j / k]! := by
        rw [getElem!_pos d' _ hjk, getElem!_pos d'.toList _ (by simpa using hjk)]; simp
      rw [h2, flatMap_get hk h0 d'.toList j (by simpa using hj'), e9]
      rfl

end Go.Proofs.YteikcgfnkhoigaaGreat

namespace Go.Proofs.YteikcgfnkhoigaaGreat
open Go.RowKit Go.Shelf

def encE (x : Int × Int) : List Value := [.int .i64 x.1, .int .i64 x.2]
def encI {T : Tr} (x : T.Id) : List Value := [.int .i64 x.1.1, .int .i64 (x.1.2 + 1)]
theorem encI_cells {T : Tr} (l : List T.Id) : evCells (l.map fun x => evI x.1) = l.flatMap encI := by
  induction l with
  | nil => rfl
  | cons x l ih => show [_, _] ++ evCells (l.map fun x => evI x.1) = _; rw [ih]; rfl
theorem encI_one {T : Tr} : ∀ x : T.Id, ∀ v ∈ encI x, v.oneCell' = true := by
  intro x v hv
  simp [encI] at hv
  rcases hv with rfl | rfl <;> rfl
theorem Que.cap {w : World} {base size n c : Nat} {a : Option Addr} {xs : List Value} (h : Que w base size (.slice a n c) n xs) : n ≤ c := by
  rcases h.val with ⟨ao, hv, hn, _⟩ | ⟨g, off, cap, hv, _, _, h3, _⟩
  · omega
  · cases hv; exact h3
/-- the place of an event in the total order -/
def Tr.stI (T : Tr) (rows : Nat → List Int) (x : T.Id) : Int := stOf rows x.1
def Tr.prI (T : Tr) (x : T.Id) : Int := (x.1.1 : Int)
def TotalPost (T : TM) (w : World) (e : Ending) (w' : World) : Prop := Ext w w' ∧
  ((¬ T.toTr.Valid ∧ e = .returned (.tuple #[.slice none 0 0, .int .i64 1])) ∨
   (T.toTr.Valid ∧ ∃ (rows : Nat → List Int) (l : List T.toTr.Id) (v : Value), T.toTr.Stamps rows ∧ e = .returned (.tuple #[v, .int .i64 0]) ∧ l.Perm T.toTr.evs ∧ l.Pairwise (fun a b => ¬ tLt (T.toTr.stI rows) T.toTr.prI b a) ∧
     RowHas w' v 2 l.length (evCells (l.map fun x => evI x.1)) ∧ ∃ a c, v = .slice a l.length c ∧ l.length ≤ c))
set_option maxRecDepth 100000 in
set_option maxHeartbeats 1000000 in
theorem total_no (w : World) (T : TM) (hT : T.At w) (hV : ¬ T.toTr.Valid) : Calls Tryz.prog 35 #[T.val] w (TotalPost T w) := by
  have HS := Lib.hid (show ∀ W, Ext w W → Calls Tryz.prog 45 #[T.val] W fun e w' => e = .returned (.tuple #[.slice none 0 0, .int .i64 1]) ∧ Ext W w' from fun W h =>
    (stamps_no W T (hT.ext h) hV).mono fun e w' ⟨hx, h⟩ => by
      rcases h with ⟨_, h⟩ | ⟨h, _⟩
      · exact ⟨h, hx⟩
      · exact absurd h hV)
  have HV := Lib.hid hV
  clear hT hV
  simp only [TM.val] at HS ⊢
  go_enter Tryz.func35, Tryz.ntmps35
  go_upto_region 1 with fail
  refine boxed1 (w := w) (G := fun x => Code.wp _ _ _ _ x) ?_
  intro w1 hx1 hs1 ⟨l0, c0, _, _⟩
  have hx11 : Ext w1 w1 := Ext.refl _
  clear hs1
  go_wp2_with fail
  go_at_call 45
  refine (HS.out _ hx1).mono ?_
  rintro e w2 ⟨rfl, hx2⟩
  go_upto_region 2 with fail
  refine boxed1 (w := w2) (G := fun x => Code.wp _ _ _ _ x) ?_
  intro w3 hx3 hs3 ⟨l3, c3, _, _⟩
  go_wp2_with fail
  go_ret2
  exact ⟨hx1.trans (hx2.trans hx3), .inl ⟨HV.out, rfl⟩⟩
/-- the loops' state -/
structure TtI (T : TM) (w3 : World) (k i : Nat) (v : Value) (wr : World) : Prop where
  hx : Ext w3 wr
  own : Que wr w3.heap.size 2 v (tot T.en k + i) (evCells (T.toTr.evL k i))
theorem cmpE_lt' {T : Tr} {M : MM} {rows : Nat → List Int} (hv : ∀ k i, M.val k i = (rows k).getD i 0) (x y : T.Id) : ltOf (fun a b : T.Id => cmpE M.toMx a.1 b.1) x y = decide (T.stI rows x < T.stI rows y ∨ (T.stI rows x = T.stI rows y ∧ T.prI x < T.prI y)) := by
  unfold ltOf
  refine decide_eq_decide.2 ((cmpE_lt M.toMx x.1 y.1).trans ?_)
  unfold tLt Tr.stI Tr.prI stOf
  simp only [hv]
theorem swoE {T : Tr} {M : MM} {rows : Nat → List Int} (hv : ∀ k i, M.val k i = (rows k).getD i 0) : Sort.SWO (ltOf fun a b : T.Id => cmpE M.toMx a.1 b.1) where
  irrefl x := by rw [cmpE_lt' hv]; simp
  trans x y z h1 h2 := by
    rw [cmpE_lt' hv, decide_eq_true_iff] at h1 h2 ⊢
    omega
  ntrans x y z h1 h2 := by
    rw [cmpE_lt' hv, decide_eq_false_iff_not] at h1 h2 ⊢
    omega
set_option maxRecDepth 100000 in
set_option maxHeartbeats 2000000 in
theorem total_yes (w : World) (T : TM) (hT : T.At w) (hV : T.toTr.Valid) (hE : ∀ k, k < T.n → T.en k ≤ 1000000) : Calls Tryz.prog 35 #[T.val] w (TotalPost T w) := by
  have HS := Lib.hid (fun W (h : Ext w W) => stamps_yes W T (hT.ext h) hV hE)
  have hn8 := hV.n8
  have hE8 := fun k (hk : k < T.n) => hV.en64 hk
  have HTS := Lib.hid (show ∀ k, k ≤ T.n → tot T.en k ≤ k * 64 from fun k hk => tot_small (f := T.en) (n := k) (c := 64) fun j hj => hE8 j (by omega))
  have HV := Lib.hid hV
  have HE8 := Lib.hid hE8
  obtain ⟨j0, hj0, hy0, hy1, hy2⟩ := info_parts infoEv
  simp only [TM.val] at HS ⊢
  clear hT hV hE hE8
  go_enter Tryz.func35, Tryz.ntmps35
  go_upto_region 1 with fail
  refine boxed1 (w := w) (G := fun x => Code.wp _ _ _ _ x) ?_
  intro w1 hx1 hs1 ⟨l0, c0, _, _⟩
  have hx11 : Ext w1 w1 := Ext.refl _
  clear hs1
  go_wp2_with fail
  go_at_call 45
  refine (HS.out _ hx1).mono ?_
  rintro e w2 ⟨hx2, hp⟩
  rcases hp with ⟨h, _⟩ | ⟨_, base, cap, rows, vs, hbase, rfl, hst, hR⟩
  · exact absurd HV.out h
  have HR := Lib.hid hR
  obtain ⟨M, hM⟩ : ∃ M, M = stMM base T.n cap rows vs := ⟨_, rfl⟩
  have HMA := Lib.hid (show M.At w2 from by rw [hM]; exact hst.mm)
  have HMV := Lib.hid (show ∀ k i, M.val k i = (rows k).getD i 0 from fun k i => by rw [hM]; rfl)
  have HMR := Lib.hid (show ∀ k, k < T.n → M.rn k = T.en k from fun k hk => by rw [hM]; exact hR.len k hk)
  have HMN := Lib.hid (show M.a = some ⟨base, 0, none⟩ ∧ M.n = T.n ∧ M.cap = cap from by rw [hM]; exact ⟨rfl, rfl, rfl⟩)
  clear hst hR hM
  go_upto_region 2 with fail
  refine boxed1 (w := w2) (G := fun x => Code.wp _ _ _ _ x) ?_
  intro w3 hx3 hs3 ⟨l3, c3, f3, k3⟩
  have hx33 : Ext w3 w3 := Ext.refl _
  have HB3 := Lib.hid (show Hold w3 w2.heap.size #[.slice (some ⟨base, 0, none⟩) T.n cap] from k3)
  have HM3 := Lib.hid (HMA.out.ext hx3)
  clear hs3 k3 l0 c0
  go_wp2_with fail
  go_loopg [6, 20] T.n (fun gg v6 v20 wr => ∃ k : Nat, k ≤ T.n ∧ gg = T.n - k ∧ v20 = .int .i64 k ∧ TtI T w3 k 0 v6 wr)
  case atStart => exact ⟨0, by omega, rfl, rfl, hx33, Que.nil _ _ _⟩
  case round =>
    obtain ⟨k, hk, rfl, rfl, hI⟩ := hrel
    have hxr := hI.hx
    have HI := Lib.hid hI
    have hrr : Ext wr wr := Ext.refl _
    clear hI
    by_cases hlt : k < T.n
    · have hlt' : (k : Int) < (T.n : Int) := by omega
      have hkM : k < M.n := by rw [HMN.out.2.1]; exact hlt
      obtain ⟨ra, hra⟩ : ∃ a, a = M.ra k := ⟨_, rfl⟩
      obtain ⟨rc, hrc⟩ : ∃ a, a = M.rc k := ⟨_, rfl⟩
      have pM := HM3.out.p0
      have p0 : ∀ w', Ext w3 w' → w'.cell? ⟨base, k, none⟩ = some (.slice ra (T.en k) rc) := fun w' h => by
        have h1 := HM3.out.p0 w' h k hkM
        have h2 := HM3.out.pa (by omega)
        rw [HMN.out.1] at h2
        simp only [Option.some.injEq, Addr.mk.injEq, and_true] at h2
        rw [← h2.1, ← h2.2, Nat.zero_add] at h1
        rw [h1, HMR.out k hlt, hra, hrc]
      have pb : ∀ w', Ext w3 w' → base < w'.heap.size := fun w' h => by
        have h1 := HM3.out.pb (by omega) w' h
        have h2 := HM3.out.pa (by omega)
        rw [HMN.out.1] at h2
        simp only [Option.some.injEq, Addr.mk.injEq, and_true] at h2
        rw [← h2.1] at h1
        exact h1
      have hen := HE8.out k hlt
      have htk := HTS.out k (by omega)
      clear hra hrc pM l3 c3 f3
      go_wp2_with fail
      go_loopg [6, 27] (T.en k) (fun gg v6 v27 wi => ∃ i : Nat, i ≤ T.en k ∧ gg = T.en k - i ∧ v27 = .int .i64 i ∧ TtI T w3 k i v6 wi)
      case atStart => exact ⟨0, by omega, rfl, rfl, HI.out⟩
      case round =>
        obtain ⟨i, hi, rfl, rfl, hI⟩ := hrel
        have hxi := hI.hx
        have HII := Lib.hid hI
        by_cases hli : i < T.en k
        · have hli' : (i : Int) < (T.en k : Int) := by omega
          obtain ⟨a6, c6, rfl⟩ := hI.own.slice
          clear hI
          go_wp2_with (at_builtin; refine wpList_append_que _ rfl _ _ 66 66 rfl (base := w3.heap.size) (e := 65) (size := 2) j0 (.agg #[.int .i64 0, .int .i64 0]) 16 Tryz.underlying66 hj0 hy0 hy1 hy2 rfl rfl (v := .slice a6 (tot T.en k + i) c6) (n := tot T.en k + i) (xs := evCells (T.toTr.evL k i)) (by exact HII.out.own.ext (Ext.alloc _ _)) (by rw [World.size_alloc]; have := hxi.le; omega) _ 1 [.int .i64 k, .int .i64 (i + 1)] rfl (by exact Src.ofSlice _ Tryz.underlying66 ⟨wr.heap.size, 0, none⟩ 1 1 _ rfl (news_ok wr _ _) (by intro u hu; simp at hu; rcases hu with rfl | rfl <;> rfl)) (by unfold maxLen; omega) (by omega) ?_; rintro v8 w8 hq8 hg8 -; obtain ⟨a8, cp8, rfl⟩ := hq8.slice; have H8 := Lib.hid (And.intro hq8 hg8); clear hq8 hg8)
          go_roundg (T.en k - (i + 1))
          case rel =>
            refine ⟨i + 1, by omega, rfl, by go_num, (hxi.alloc' _).below.grown H8.out.2 (by rw [World.size_alloc]; have := hxi.le; omega) HII.out.own.block, ?_⟩
            rw [Tr.evL_succ _ _ _ hlt hli, evCells_snoc]; exact H8.out.1
          case measure => omega
        · have hie : i = T.en k := by omega
          subst hie
          clear hI
          go_wp2_with fail
          go_roundg (T.n - (k + 1))
          case rel => exact ⟨k + 1, by omega, rfl, by go_num, HII.out.hx, by have h := HII.out.own; unfold Tr.evL at h ⊢; rw [Tr.evsTo_next] at h; exact h⟩
          case measure => omega
    · have hke : k = T.n := by omega
      subst hke
      have HOW := Lib.hid (show Que wr w3.heap.size 2 u6 T.toTr.evs.length (T.toTr.evs.flatMap encI) from by
        have h := HI.out.own
        rw [← encI_cells, T.toTr.evs_tot]; exact h)
      obtain ⟨a6, c6, rfl⟩ := HOW.out.slice
      have hsort : Calls Tryz.prog 85 #[.slice a6 T.toTr.evs.length c6, .func (.func 86) #[] #[.pointer (some ⟨w2.heap.size, 0, none⟩)]] wr fun e w' =>
          e = .returned (.tuple #[]) ∧ ∃ l' : List T.toTr.Id, l'.Perm T.toTr.evs ∧ l'.Pairwise (fun a b => ltOf (fun a b : T.toTr.Id => cmpE M.toMx a.1 b.1) b a = false) ∧ Below w3.heap.size wr w' ∧ RowHas w' (.slice a6 T.toTr.evs.length c6) 2 l'.length (l'.flatMap encI) := by
        by_cases h0 : T.toTr.evs = []
        · rw [h0]
          exact (AnyF.slices_SortFunc_none sortEv a6 c6 _ wr).mono fun e w' ⟨he, hw⟩ => by
            subst hw
            exact ⟨he, [], List.Perm.refl _, List.Pairwise.nil, Below.refl _ _, .inl ⟨rfl, a6, c6, rfl⟩⟩
        · obtain ⟨x0, hx0⟩ : ∃ x, x ∈ T.toTr.evs := by
            cases h : T.toTr.evs with
            | nil => exact absurd h h0
            | cons x l => exact ⟨x, List.mem_cons_self⟩
          haveI : Inhabited T.toTr.Id := ⟨x0⟩
          have hlen : T.toTr.evs.length ≤ 1000000 := by rw [T.toTr.evs_tot]; have := HTS.out T.n (Nat.le_refl _); omega
          refine sort_que sortEv 2 (by decide) Tryz.isAgg65 Tryz.sizeOf65 encI (fun _ => rfl) encI_one (fun a b : T.toTr.Id => cmpE M.toMx a.1 b.1) (swoE HMV.out) 86 #[.pointer (some ⟨w2.heap.size, 0, none⟩)] wr (enters_of Tryz.func86 (by kernel_rfl) rfl) HOW.out hxr.le hlen ?_
          intro blk off cap' hv hblk m os dk hdk x y
          have hbase : w3.heap.size ≤ blk := HOW.out.block blk (by rw [hv]; rfl)
          refine total1_any w3 M HM3.out w2.heap.size (by rw [HMN.out.1, HMN.out.2.1, HMN.out.2.2]; exact HB3.out) x.1 y.1 ?_ ?_ _ (Below.trans hxr (below_sortWorldK _ _ _ _ _ _ _ _ _ hbase hxr.le))
          · rw [HMN.out.2.1]; exact ⟨x.2.1, by rw [HMR.out _ x.2.1]; exact x.2.2⟩
          · rw [HMN.out.2.1]; exact ⟨y.2.1, by rw [HMR.out _ y.2.1]; exact y.2.2⟩
      have HSO := Lib.hid hsort
      clear hsort
      go_wp2_with fail
      go_at_call 85
      refine HSO.out.mono ?_
      rintro e w5 ⟨rfl, l', hperm, hpw, hbel, hrow⟩
      have HF := Lib.hid (And.intro hperm (And.intro hpw (And.intro hbel hrow)))
      clear hperm hpw hbel hrow
      go_wp2_with fail
      go_ret2
      refine ⟨hx1.trans (hx2.trans (hx3.trans (Below.trans hxr HF.out.2.2.1))), .inr ⟨HV.out, rows, l', _, HR.out, rfl, HF.out.1, HF.out.2.1.imp fun {x y} h => ?_, by rw [encI_cells]; exact HF.out.2.2.2, a6, c6, (by rw [HF.out.1.length_eq]; rfl), by rw [HF.out.1.length_eq]; exact HOW.out.cap⟩⟩
      rw [cmpE_lt' HMV.out] at h
      have h2 := of_decide_eq_false h
      exact h2

end Go.Proofs.YteikcgfnkhoigaaGreat
