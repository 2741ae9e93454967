/- Contract of the comparison that predtype.Vars hands to slices.SortFunc. slices.SortFunc at terms: the laying (a tool of the kit has written it; numbers turned to names). slices.SortFunc at a slice of the call's own, of structs. Nothing of the program. Contract of predtype.Vars. -/
import Derived.Test.YtdplphoohnnbcaaGreatDoorJa
import Derived.Test.YtdplphoohnnbcaaGreatDoorHa
import Derived.Shelf.SlSortCmp.InsertionK
import Derived.Shelf.SlLaysF0
import Derived.Test.YtdplphoohnnbcaaGreatDoorHk
import Derived.Shelf.SlSortCmp.NoneTotal
import Derived.Test.YtdplphoohnnbcaaGreatDoorHh
namespace Go.Proofs.YtdplphoohnnbcaaGreatDoor
open Go.RowKit Go.Shelf

theorem boxed2e {w : World} {c d : Array Value} {tc td : TypeId} {G : World → Prop}
    (h : ∀ w2, (∃ os, w2 = Sort.grow w os) → Hold w2 w.heap.size c → Hold w2 (w.heap.size + 1) d → G w2) : G ((w.alloc (.cells c tc)).alloc (.cells d td)) := by
  refine h _ ⟨_, by rw [Sort.alloc_eq_grow, Sort.alloc_eq_grow, Sort.grow_grow]⟩ ?_ ?_
  · exact (Hold.new w c tc).ext (Ext.alloc _ _)
  · have := Hold.new (w.alloc (.cells c tc)) d td
    rw [World.size_alloc] at this; exact this
theorem boxed1e {w : World} {c : Array Value} {tc : TypeId} {G : World → Prop}
    (h : ∀ w2, (∃ os, w2 = Sort.grow w os) → Ext w w2 → Hold w2 w.heap.size c → G w2) : G (w.alloc (.cells c tc)) :=
  h _ ⟨_, by rw [Sort.alloc_eq_grow]⟩ (Ext.alloc _ _) (Hold.new w c tc)
/-- a term's cells -/
def encT (x : Trm) : List Value := [.int .i64 x.1, .string x.2.1, .int .i64 x.2.2]
set_option maxRecDepth 100000 in
set_option maxHeartbeats 1000000 in
theorem vars2_any (x y : Trm) (w : World) : Calls Tryz.prog 43 #[.agg #[.int .i64 x.1, .string x.2.1, .int .i64 x.2.2], .agg #[.int .i64 y.1, .string y.2.1, .int .i64 y.2.2]] w
    fun e w' => e = .returned (.int .i64 (cmpT x y)) ∧ ∃ q os', w' = Sort.grow (w.drewN q) os' := by
  obtain ⟨xp, xs, xc⟩ := x
  obtain ⟨yp, ys, yc⟩ := y
  have HI := Lib.hid (fun W => cmpInt_any xp yp W)
  have HS := Lib.hid (fun W => cmpStr_any xs ys W)
  have HT := Lib.hid (show cmpT (xp, xs, xc) (yp, ys, yc) = if (Lib.compareInt xp yp != 0) = true then Lib.compareInt xp yp else Lib.compareBytes xs.data.toList ys.data.toList from rfl)
  rw [HT.out]
  clear HT
  generalize Lib.compareInt xp yp = ci at HI ⊢
  generalize Lib.compareBytes xs.data.toList ys.data.toList = cs at HS ⊢
  obtain ⟨r, hr⟩ : ∃ r, r = if (ci != 0) = true then ci else cs := ⟨_, rfl⟩
  rw [← hr]
  have HR := Lib.hid hr
  clear hr
  go_enter Tryz.func43, Tryz.ntmps43
  go_upto_region 1 with fail
  refine boxed2e (w := w) (G := fun x => Code.wp _ _ _ _ x) ?_
  intro w1 hw1 h0 h1
  have HW1 := Lib.hid hw1
  have H0 := Lib.hid h0
  have H1 := Lib.hid h1
  clear hw1 h0 h1
  refine wp_region_held_drew (S := fun w' => Hold w' w.heap.size #[.int .i64 xp, .string xs, .int .i64 xc] ∧ Hold w' (w.heap.size + 1) #[.int .i64 yp, .string ys, .int .i64 yc]) (by kernel_rfl) ⟨H0.out.drew, H1.out.drew⟩ (fun hHeld => ?_)
  refine heldTake 0 (v := ?_) rfl (by kernel_rfl) (by kernel_rfl) (by kernel_rfl) (fun _ _ _ h => h) (Or.inl ⟨by rfl, ?_⟩) (by assumption) ?_
  rotate_left
  · (intro w' hSw; obtain ⟨hSa, hSb⟩ := hSw; obtain ⟨lS, cS, _, _⟩ := hSa.box; obtain ⟨lU, cU, _, _⟩ := hSb.box; have hSS := Ext.refl w'; go_simp; try with_reducible rfl)
  simp only [Act.put, List.setIfInBounds_toArray, List.set_cons_zero, List.set_cons_succ]
  refine heldTake 1 (v := ?_) rfl (by kernel_rfl) (by kernel_rfl) (by kernel_rfl) (fun _ _ _ h => h) (Or.inl ⟨by rfl, ?_⟩) (by assumption) ?_
  rotate_left
  · (intro w' hSw; obtain ⟨hSa, hSb⟩ := hSw; obtain ⟨lS, cS, _, _⟩ := hSa.box; obtain ⟨lU, cU, _, _⟩ := hSb.box; have hSS := Ext.refl w'; go_simp; try with_reducible rfl)
  simp only [Act.put, List.setIfInBounds_toArray, List.set_cons_zero, List.set_cons_succ]
  refine heldTake 2 (v := ?_) rfl (by kernel_rfl) (by kernel_rfl) (by kernel_rfl) (fun _ _ _ h => h) (Or.inl ⟨by rfl, ?_⟩) (by assumption) ?_
  rotate_left
  · (intro w' hSw; obtain ⟨hSa, hSb⟩ := hSw; obtain ⟨lS, cS, _, _⟩ := hSa.box; obtain ⟨lU, cU, _, _⟩ := hSb.box; have hSS := Ext.refl w'; go_simp; try with_reducible rfl)
  simp only [Act.put, List.setIfInBounds_toArray, List.set_cons_zero, List.set_cons_succ]
  refine heldTake 3 (v := ?_) rfl (by kernel_rfl) (by kernel_rfl) (by kernel_rfl) (fun _ _ _ h => h) (Or.inl ⟨by rfl, ?_⟩) (by assumption) ?_
  rotate_left
  · (intro w' hSw; obtain ⟨hSa, hSb⟩ := hSw; obtain ⟨lS, cS, _, _⟩ := hSa.box; obtain ⟨lU, cU, _, _⟩ := hSb.box; have hSS := Ext.refl w'; go_simp; try with_reducible rfl)
  simp only [Act.put, List.setIfInBounds_toArray, List.set_cons_zero, List.set_cons_succ]
  refine heldTake 5 (v := ?_) rfl (by kernel_rfl) (by kernel_rfl) (by kernel_rfl) (fun _ _ _ h => h) (Or.inl ⟨by rfl, ?_⟩) (by assumption) ?_
  rotate_left
  · (intro w' hSw; obtain ⟨hSa, hSb⟩ := hSw; obtain ⟨lS, cS, _, _⟩ := hSa.box; obtain ⟨lU, cU, _, _⟩ := hSb.box; have hSS := Ext.refl w'; go_simp; try with_reducible rfl)
  simp only [Act.put, List.setIfInBounds_toArray, List.set_cons_zero, List.set_cons_succ]
  refine heldTake 6 (v := ?_) rfl (by kernel_rfl) (by kernel_rfl) (by kernel_rfl) (fun _ _ _ h => h) (Or.inl ⟨by rfl, ?_⟩) (by assumption) ?_
  rotate_left
  · (intro w' hSw; obtain ⟨hSa, hSb⟩ := hSw; obtain ⟨lS, cS, _, _⟩ := hSa.box; obtain ⟨lU, cU, _, _⟩ := hSb.box; have hSS := Ext.refl w'; go_simp; try with_reducible rfl)
  simp only [Act.put, List.setIfInBounds_toArray, List.set_cons_zero, List.set_cons_succ]
  refine heldTake 7 (v := ?_) rfl (by kernel_rfl) (by kernel_rfl) (by kernel_rfl) (fun _ _ _ h => h) (Or.inl ⟨by rfl, ?_⟩) (by assumption) ?_
  rotate_left
  · (intro w' hSw; obtain ⟨hSa, hSb⟩ := hSw; obtain ⟨lS, cS, _, _⟩ := hSa.box; obtain ⟨lU, cU, _, _⟩ := hSb.box; have hSS := Ext.refl w'; go_simp; try with_reducible rfl)
  simp only [Act.put, List.setIfInBounds_toArray, List.set_cons_zero, List.set_cons_succ]
  refine heldTake 8 (v := ?_) rfl (by kernel_rfl) (by kernel_rfl) (by kernel_rfl) (fun _ _ _ h => h) (Or.inl ⟨by rfl, ?_⟩) (by assumption) ?_
  rotate_left
  · (intro w' hSw; obtain ⟨hSa, hSb⟩ := hSw; obtain ⟨lS, cS, _, _⟩ := hSa.box; obtain ⟨lU, cU, _, _⟩ := hSb.box; have hSS := Ext.refl w'; go_simp; try with_reducible rfl)
  simp only [Act.put, List.setIfInBounds_toArray, List.set_cons_zero, List.set_cons_succ]
  refine wpAnyH_ready (rs := [4]) (by kernel_rfl) (by simp) ?_
  refine AllReadyH.cons rfl (fun K hK => ?_) AllReadyH.nil
  go_simp
  go_at_call 45
  refine (HI.out _).mono ?_
  rintro e w' ⟨rfl, rfl⟩
  refine hK.out _ _ ⟨H0.out.drew, H1.out.drew⟩ (fun hHeld2 => ?_)
  clear hK K
  refine wpAnyH_ready (rs := [9]) (by kernel_rfl) (by simp) ?_
  refine AllReadyH.cons rfl (fun K hK => ?_) AllReadyH.nil
  go_simp
  go_at_call 46
  refine (HS.out _).mono ?_
  rintro e w' ⟨rfl, rfl⟩
  refine hK.out _ _ ⟨H0.out.drew, H1.out.drew⟩ (fun hHeld2 => ?_)
  clear hK K
  refine wpAnyH_ready (rs := [10]) (by kernel_rfl) (by simp) ?_
  refine AllReadyH.cons rfl (fun K hK => ?_) AllReadyH.nil
  go_simp
  refine boxed1e (w := w1.drew) (G := fun x => K _ x) ?_
  intro w2 hw2 hx2 h2
  have HW2 := Lib.hid hw2
  have HE2 := Lib.hid hx2
  have H2 := Lib.hid (show Hold w2 w1.heap.size #[.int .i64 ci, .int .i64 cs] from h2)
  clear hw2 h2 hx2
  refine hK.out _ _ ⟨H0.out.drew.ext HE2.out, H1.out.drew.ext HE2.out⟩ (fun hHeld2 => ?_)
  clear hK K
  refine wpAnyH_ready (rs := [11]) (by kernel_rfl) (by simp) ?_
  refine AllReadyH.cons rfl (fun K hK => ?_) AllReadyH.nil
  go_simp
  go_at_call 44
  refine (cmpOr_any _ _ ci cs (H2.out.cell0 0) (H2.out.cell0 1)).mono ?_
  rintro e w' ⟨he, rfl⟩
  rw [← HR.out] at he
  subst he
  refine hK.out _ _ ⟨H0.out.drew.ext HE2.out, H1.out.drew.ext HE2.out⟩ (fun hHeld2 => ?_)
  clear hK K
  refine heldTake 12 (v := ?_) rfl (by kernel_rfl) (by kernel_rfl) (by kernel_rfl) (fun _ _ _ h => h) (Or.inl ⟨by rfl, ?_⟩) (by assumption) ?_
  rotate_left
  · (intro w' hSw; obtain ⟨hSa, hSb⟩ := hSw; obtain ⟨lS, cS, _, _⟩ := hSa.box; obtain ⟨lU, cU, _, _⟩ := hSb.box; have hSS := Ext.refl w'; go_simp; try with_reducible rfl)
  simp only [Act.put, List.setIfInBounds_toArray, List.set_cons_zero, List.set_cons_succ]
  refine wpAnyH_done (by kernel_rfl) ?_ _
  go_wp2_with fail
  go_ret
  refine ⟨rfl, 1, ?_⟩
  obtain ⟨os1, e1⟩ := HW1.out
  obtain ⟨os2, e2⟩ := HW2.out
  exact ⟨os1 ++ os2, by rw [e2, e1, Sort.drew_grow, Sort.grow_grow]; rfl⟩
theorem cmpLaysT (blk off size : Nat) (w : World) : CmpLays Tryz.prog 43 #[] encT 3 cmpT blk off size w :=
  fun _ _ _ _ x y => vars2_any x y _
theorem ltOf_cmpT (x y : Trm) : ltOf cmpT x y = decide (kLt x.key y.key) := by
  unfold ltOf
  exact decide_eq_decide.2 (cmpT_lt x y)
theorem swoT : Sort.SWO (ltOf cmpT) where
  irrefl x := by rw [ltOf_cmpT]; simpa using kLt_irrefl _
  trans x y z h1 h2 := by rw [ltOf_cmpT] at *; simp at *; exact kLt_trans h1 h2
  ntrans x y z h1 h2 := by
    rw [ltOf_cmpT] at *
    simp at *
    intro h
    rcases kLt_total x.key y.key with h3 | h3 | h3
    · exact h1 h3
    · rw [h3] at h; exact h2 h
    · rcases kLt_total y.key z.key with h4 | h4 | h4
      · exact h2 h4
      · rw [h4] at h3; exact kLt_irrefl _ (kLt_trans h h3)
      · exact kLt_irrefl _ (kLt_trans h (kLt_trans h4 h3))

end Go.Proofs.YtdplphoohnnbcaaGreatDoor

namespace Go.Proofs.YtdplphoohnnbcaaGreatDoor
open Go.Shelf Go.Proofs
def sortTm_ren : Go.Shelf.Ren := ⟨fun | 6 => 42 | 15 => 83 | 14 => 82 | 28 => 118 | 29 => 119 | 20 => 110 | 21 => 111 | 22 => 112 | 23 => 113 | 24 => 114 | 25 => 115 | 26 => 116 | 27 => 117 | 46 => 140 | 47 => 141 | 48 => 142 | 49 => 143 | 50 => 144 | 57 => 157 | n => n, fun | 22 => 44 | 24 => 49 | 25 => 83 | 3 => 3 | 39 => 111 | 0 => 0 | 53 => 146 | 55 => 148 | 4 => 4 | 46 => 139 | 45 => 138 | 50 => 143 | 5 => 5 | 9 => 9 | 66 => 169 | 70 => 63 | 76 => 181 | 77 => 90 | n => n, fun | n => n⟩
theorem sortTm : Go.Proofs.SlLaysF0.n6 Tryz.prog sortTm_ren := {
  mixed := by kernel_rfl
  f6 := ⟨Tryz.f42.name, by decide, Tryz.func42.trans (congrArg some (by kernel_rfl))⟩
  f14 := ⟨Tryz.f82.name, by decide, Tryz.func82.trans (congrArg some (by kernel_rfl))⟩
  f15 := Tryz.func83.trans (congrArg some (by kernel_rfl))
  f20 := ⟨Tryz.f110.name, by decide, Tryz.func110.trans (congrArg some (by kernel_rfl))⟩
  f21 := ⟨Tryz.f111.name, by decide, Tryz.func111.trans (congrArg some (by kernel_rfl))⟩
  f22 := ⟨Tryz.f112.name, by decide, Tryz.func112.trans (congrArg some (by kernel_rfl))⟩
  f23 := ⟨Tryz.f113.name, by decide, Tryz.func113.trans (congrArg some (by kernel_rfl))⟩
  f24 := ⟨Tryz.f114.name, by decide, Tryz.func114.trans (congrArg some (by kernel_rfl))⟩
  f25 := ⟨Tryz.f115.name, by decide, Tryz.func115.trans (congrArg some (by kernel_rfl))⟩
  f26 := ⟨Tryz.f116.name, by decide, Tryz.func116.trans (congrArg some (by kernel_rfl))⟩
  f27 := ⟨Tryz.f117.name, by decide, Tryz.func117.trans (congrArg some (by kernel_rfl))⟩
  f28 := Tryz.func118.trans (congrArg some (by kernel_rfl))
  f29 := Tryz.func119.trans (congrArg some (by kernel_rfl))
  f46 := ⟨Tryz.f140.name, by decide, Tryz.func140.trans (congrArg some (by kernel_rfl))⟩
  f47 := Tryz.func141.trans (congrArg some (by kernel_rfl))
  f48 := Tryz.func142.trans (congrArg some (by kernel_rfl))
  f49 := ⟨Tryz.f143.name, by decide, Tryz.func143.trans (congrArg some (by kernel_rfl))⟩
  f50 := ⟨Tryz.f144.name, by decide, Tryz.func144.trans (congrArg some (by kernel_rfl))⟩
  f57 := ⟨Tryz.f157.name, by decide, Tryz.func157.trans (congrArg some (by kernel_rfl))⟩
  t0 := Tryz.underlying0
  a0 := Tryz.isAgg0
  z0 := Tryz.sizeOf0
  v0 := Tryz.zeroValue0
  t3 := Tryz.underlying3
  a3 := Tryz.isAgg3
  z3 := Tryz.sizeOf3
  v3 := Tryz.zeroValue3
  t4 := Tryz.underlying4
  a4 := Tryz.isAgg4
  z4 := Tryz.sizeOf4
  v4 := Tryz.zeroValue4
  t5 := Tryz.underlying5
  a5 := Tryz.isAgg5
  z5 := Tryz.sizeOf5
  v5 := Tryz.zeroValue5
  t9 := Tryz.underlying9
  a9 := Tryz.isAgg9
  z9 := Tryz.sizeOf9
  v9 := Tryz.zeroValue9
  t22 := Tryz.underlying44
  a22 := Tryz.isAgg44
  z22 := Tryz.sizeOf44
  v22 := Tryz.zeroValue44
  t25 := Tryz.underlying83
  a25 := Tryz.isAgg83
  z25 := Tryz.sizeOf83
  v25 := Tryz.zeroValue83
  t39 := Tryz.underlying111
  a39 := Tryz.isAgg111
  z39 := Tryz.sizeOf111
  v39 := Tryz.zeroValue111
  t45 := Tryz.underlying138
  a45 := Tryz.isAgg138
  z45 := Tryz.sizeOf138
  v45 := Tryz.zeroValue138
  t46 := Tryz.underlying139
  a46 := Tryz.isAgg139
  z46 := Tryz.sizeOf139
  v46 := Tryz.zeroValue139
  t50 := Tryz.underlying143
  a50 := Tryz.isAgg143
  z50 := Tryz.sizeOf143
  v50 := Tryz.zeroValue143
  t53 := Tryz.underlying146
  a53 := Tryz.isAgg146
  z53 := Tryz.sizeOf146
  v53 := Tryz.zeroValue146
  t55 := Tryz.underlying148
  a55 := Tryz.isAgg148
  z55 := Tryz.sizeOf148
  v55 := Tryz.zeroValue148
  t66 := Tryz.underlying169
  a66 := Tryz.isAgg169
  z66 := Tryz.sizeOf169
  v66 := Tryz.zeroValue169
  t70 := Tryz.underlying63
  a70 := Tryz.isAgg63
  z70 := Tryz.sizeOf63
  v70 := Tryz.zeroValue63
  t76 := Tryz.underlying181
  a76 := Tryz.isAgg181
  z76 := Tryz.sizeOf181
  v76 := Tryz.zeroValue181
  t77 := Tryz.underlying90
  a77 := Tryz.isAgg90
  z77 := Tryz.sizeOf90
  v77 := Tryz.zeroValue90 }

end Go.Proofs.YtdplphoohnnbcaaGreatDoor

namespace Go.Proofs.YtdplphoohnnbcaaGreatDoor
open Go.RowKit Go.Shelf Go.Proofs

theorem flatMap_get {α : Type} [Inhabited α] {enc : α → List Value} {k : Nat} (hk : ∀ x, (enc x).length = k) (h0 : 0 < k) : ∀ (l : List α) (j : Nat), j < l.length * k → (l.flatMap enc)[j]? = some ((enc l[j / k]!)[j % k]!)
  | [], j, h => by simp at h
  | x :: l, j, h => by
    rw [List.flatMap_cons]
    by_cases hj : j < k
    · have hl : j < (enc x).length := by rw [hk]; exact hj
      rw [List.getElem?_append_left hl, Nat.div_eq_of_lt hj, Nat.mod_eq_of_lt hj, List.getElem?_eq_getElem hl]
      show _ = some ((enc x)[j]!)
      rw [getElem!_pos (enc x) j hl]
    · have h2 : j - k < l.length * k := by rw [List.length_cons, Nat.add_mul] at h; omega
      have e1 : j / k = (j - k) / k + 1 := by
        rw [Nat.div_eq_sub_div h0 (by omega)]
      have e2 : j % k = (j - k) % k := Nat.mod_eq_sub_mod (by omega)
      rw [List.getElem?_append_right (by rw [hk]; omega), hk, flatMap_get hk h0 l (j - k) h2, e1, e2]
      congr 2
theorem flatMap_len {α : Type} {enc : α → List Value} {k : Nat} (hk : ∀ x, (enc x).length = k) (l : List α) : (l.flatMap enc).length = l.length * k := by
  induction l with
  | nil => simp
  | cons x l ih => rw [List.flatMap_cons, List.length_append, hk, ih, List.length_cons, Nat.add_mul]; omega
/-- n elements of k cells, as a value hands them -/
def RowHas (w : World) (v : Value) (k n : Nat) (xs : List Value) : Prop :=
  (n = 0 ∧ ∃ a c, v = .slice a 0 c) ∨ ∃ g off cap, v = .slice (some ⟨g, off, none⟩) n cap ∧ g < w.heap.size ∧ ∀ j, j < n * k → w.cell? ⟨g, off + j, none⟩ = xs[j]?
theorem below_sortWorldK {α : Type} [Inhabited α] (enc : α → List Value) (k : Nat) (w : World) (B blk off m : Nat) (d : Array α) (os : Array Obj) (hb : B ≤ blk) (hB : B ≤ w.heap.size) : Below B w (sortWorldK enc k w blk off m d os) := by
  refine ⟨rfl, rfl, rfl, size_sortWorldK_c enc k w blk off m d os, fun i hi => ?_⟩
  unfold sortWorldK
  rw [Sort.heap_grow_old _ _ (by rw [Sort.size_putRowK]; exact Nat.lt_of_lt_of_le hi hB)]
  unfold Sort.putRowK Sort.putRow Sort.mapBlock
  rw [Array.getElem?_modify, if_neg (by omega)]
  rfl
theorem sort_que {α : Type} [Inhabited α] {P : Program} {ρ : Ren} (L : SlLaysF0.n6 P ρ) (k : Nat) (h0 : 0 < k) (aE : ∀ w, (isAgg (ρ.t 24)).run P w = .ok true w) (zE : ∀ w, (Go.sizeOf (ρ.t 24)).run P w = .ok k w) (enc : α → List Value) (hk : ∀ x, (enc x).length = k) (h1 : ∀ x, ∀ v ∈ enc x, v.oneCell' = true)
    (cf : α → α → Int) (hO : Sort.SWO (ltOf cf)) (g : Nat) (cb : Array Value) (w : World) (eg : ∀ args w, (callFunc g args).run P w = .ok (.enter g args) w) {base : Nat} {v : Value} {l : List α} (hq : Que w base k v l.length (l.flatMap enc)) (hB : base ≤ w.heap.size) (hl : l.length ≤ 1000000)
    (hcmp : ∀ blk off cap, v = .slice (some ⟨blk, off, none⟩) l.length cap → blk < w.heap.size → CmpLays P g cb enc k cf blk off l.length w) :
    Calls P (ρ.f 6) #[v, .func (.func g) #[] cb] w fun e w' => e = .returned (.tuple #[]) ∧ ∃ l' : List α, l'.Perm l ∧ l'.Pairwise (fun a b => ltOf cf b a = false) ∧ Below base w w' ∧ RowHas w' v k l'.length (l'.flatMap enc) := by
  rcases hq.val with ⟨ao, rfl, hn, ha⟩ | ⟨blk, off, cap, rfl, b1, b2, b3, b4, b5, b6⟩
  · refine (AnyF.slices_SortFunc_none { L with } ao 0 (.func (.func g) #[] cb) w).mono fun e w' ⟨he, hw⟩ => ?_
    subst hw
    obtain rfl : l = [] := List.eq_nil_of_length_eq_zero hn
    exact ⟨he, [], List.Perm.refl _, List.Pairwise.nil, Below.refl _ _, .inl ⟨rfl, ao, 0, rfl⟩⟩
  · have hH : Sort.HoldsK enc k w blk off l.toArray := by
      intro j hj
      have hj' : j < l.length * k := by simpa using hj
      rw [Sort.get_flatK enc k l.toArray j (by simpa using hj')]
      refine ⟨?_, (b6 j (Nat.lt_of_lt_of_le hj' (Nat.mul_le_mul_right _ b3))).2⟩
      rw [b5 j hj', flatMap_get hk h0 l j hj']
      simp
    have hcall := AnyQ.slices_SortFunc L k aE zE enc hk h1 cf hO g cb blk off cap l.toArray w eg (by simpa using hcmp blk off cap rfl b2) hH b2 (by simp; omega)
    have e : (Value.slice (some ⟨blk, off, none⟩) l.toArray.size cap) = .slice (some ⟨blk, off, none⟩) l.length cap := by simp
    rw [e] at hcall
    refine hcall.mono fun e w' ⟨he, d', n, os, hp, hs, hw⟩ => ?_
    obtain ⟨hsz, _, hperm⟩ := hp
    have hsz' : d'.size = l.length := by rw [hsz]; simp
    have hl' : d'.toList.length = l.length := by simpa using hsz'
    have hperm' : d'.toList.Perm l := by
      have e1 : d'.extract 0 l.toArray.size = d' := by rw [← hsz]; simp
      have e2 : l.toArray.extract 0 l.toArray.size = l.toArray := by simp
      rw [e1, e2] at hperm
      simpa using hperm
    refine ⟨he, d'.toList, hperm', ?_, by rw [hw]; exact below_sortWorldK _ _ _ _ _ _ _ _ _ b1 hB, .inr ⟨blk, off, cap, by rw [hl'], by rw [hw]; exact Nat.lt_of_lt_of_le b2 (size_sortWorldK_c enc k w blk off n d' os), fun j hj => ?_⟩⟩
    · rw [List.pairwise_iff_getElem]
      intro i j hi hj hij
      have := hs i j (Nat.zero_le _) hij (by rw [← hsz]; simpa using hj)
      rw [getElem!_pos d' j (by simpa using hj), getElem!_pos d' i (by simpa using hi)] at this
      simpa using this
    · have hh := holdsK_sortWorldK_c enc k w blk off l.toArray d' n os hH b2 hsz
      rw [← hw] at hh
      have hj' : j < d'.size * k := by simpa using hj
      have h2 := (hh j (by simpa using hj')).1
      rw [Sort.get_flatK enc k d' j hj'] at h2
      have hjk : j / k < d'.size := Nat.div_lt_of_lt_mul (by rw [Nat.mul_comm]; exact hj')
      have e9 : d'.toList[j / k]! = d'[j / k]! := by
        rw [getElem!_pos d' _ hjk, getElem!_pos d'.toList _ (by simpa using hjk)]; simp
      rw [h2, flatMap_get hk h0 d'.toList j (by simpa using hj'), e9]
      rfl

end Go.Proofs.YtdplphoohnnbcaaGreatDoor

namespace Go.Proofs.YtdplphoohnnbcaaGreatDoor
open Go.RowKit Go.Shelf

theorem tmCells_enc (l : List Trm) : tmCells l = l.flatMap encT := rfl
theorem encT_one : ∀ x : Trm, ∀ v ∈ encT x, v.oneCell' = true := by
  intro x v hv
  simp [encT] at hv
  rcases hv with rfl | rfl | rfl <;> rfl
instance : Inhabited Trm := ⟨(0, ⟨#[]⟩, 0)⟩
def VarsPost (p : Pr) (w : World) (e : Ending) (w' : World) : Prop :=
  Ext w w' ∧ ∃ (v : Value) (c : Int), e = .returned (.tuple #[v, .int .i64 c]) ∧ ((¬ p.Formed ∧ c = 1 ∧ v = .slice none 0 0) ∨ (p.Formed ∧ c = 0 ∧ RowHas w' v 3 (sortedT (p.foldP stepTm [])).length (tmCells (sortedT (p.foldP stepTm [])))))
set_option maxRecDepth 100000 in
set_option maxHeartbeats 2000000 in
theorem pVars_any (w : World) (hTab : TabAt w) (p : Pr) (hp : p.At w) : Calls Tryz.prog 16 #[p.val] w (VarsPost p w) := by
  have hF := fun W (h : Ext w W) => formed_any' W (hTab.ext h) p (hp.ext h)
  have HP := Lib.hid hp
  simp only [Pr.val] at hF ⊢
  have HF := Lib.hid hF
  clear hF hp hTab
  go_enter Tryz.func16, Tryz.ntmps16
  go_upto_region 1 with fail
  refine boxed1 (w := w) (G := fun x => Code.wp _ _ _ _ x) ?_
  intro w1 hx1 hs1 ⟨l0, c0, f0, k0⟩
  have hx11 : Ext w1 w1 := Ext.refl _
  clear hs1 k0
  go_wp2_with fail
  go_at_call 28
  refine (HF.out _ hx1).mono ?_
  rintro e w2 ⟨b, rfl, hb, hx2⟩
  have HB := Lib.hid hb
  have hx12 : Ext w1 w2 := hx2
  have hxw2 := hx1.trans hx2
  clear hb
  cases b with
  | false =>
    have HN := Lib.hid (show ¬ p.Formed from fun h => by have := HB.out.2 h; cases this)
    clear HB
    go_wp2_with fail
    go_ret2
    exact ⟨hxw2, _, 1, rfl, .inl ⟨HN.out, rfl, rfl⟩⟩
  | true =>
    have HFF := Lib.hid (HB.out.1 rfl)
    clear HB
    go_upto_region 4 with fail
    refine boxed1 (w := w2) (G := fun x => Code.wp _ _ _ _ x) ?_
    intro w3 hx3 hs3 ⟨l3, c3, f3, k3⟩
    have hx13 := hx12.trans hx3
    have hx33 : Ext w3 w3 := Ext.refl _
    have HS3 := Lib.hid (show VrS w2 w2.heap.size [] w3 from ⟨hx3, Nat.le_refl _, _, k3, Que.nil _ _ _, (fun g hg => by cases hg)⟩)
    have hE := each2_any (σ := List VK) w2 (w2.heap.size + 1) (RowIn w2.heap.size) 39 #[.pointer (some ⟨w2.heap.size, 0, none⟩)] (enters_of Tryz.func39 (by kernel_rfl) rfl) (VrS w2 w2.heap.size) (fun _ => True) stepTm (fun _ => True) (fun _ => True) List.length 500 stepTm_len
      (fun s w' h => by obtain ⟨_, _, v, ho, _⟩ := h; exact ho.lt) (fun s w' h => h.hx) (fun s a b h x => h.ext x) (fun s a b h x => h.keep x) (fun s a b k h x hk => h.fresh x k hk)
      (fun q hq _ s w' hS hlt => vars1_any w2 w2.heap.size (Nat.le_refl _) q hq s w' hS hlt) p (HP.out.ext hxw2) (Pr.All.mono (fun _ _ => trivial) HP.out) [] w3 HS3.out (by have := HFF.out.1; simp; omega)
    simp only [Pr.val] at hE
    have HE := Lib.hid hE
    clear hE hs3 k3
    go_wp2_with fail
    go_at_call 38
    refine HE.out.mono ?_
    rintro e w4 ⟨_, b, rfl, hy, hn⟩
    cases b with
    | false => exact absurd (Pr.All.mono (fun _ _ => trivial) HP.out) (hn rfl).1
    | true =>
      have HS4 := Lib.hid (hy rfl).2
      clear hy hn l0 c0 f0 l3 c3 f3 HE
      obtain ⟨hx4, _, v, ho, hown, hlt⟩ := HS4.out
      obtain ⟨a, cp, rfl⟩ := hown.slice
      have hgl := gather_len (p.foldP stepTm [])
      have hfl := foldP_m (m := List.length) stepTm_len p []
      have hcnt := HFF.out.1
      have hxw4 := hxw2.trans hx4
      obtain ⟨l4, c4, f4, _⟩ := ho.box
      have hx44 : Ext w4 w4 := Ext.refl _
      have hsort := sort_que sortTm 3 (by decide) Tryz.isAgg49 Tryz.sizeOf49 encT (fun _ => rfl) encT_one cmpT swoT 43 #[] w4 (enters_of Tryz.func43 (by kernel_rfl) rfl) (base := w2.heap.size + 1) (v := .slice a (gather (p.foldP stepTm [])).length cp) (l := gather (p.foldP stepTm [])) hown (ho.lt) (by simp at hfl; omega)
        (fun blk off cap _ _ => cmpLaysT blk off _ w4)
      change Calls Tryz.prog 42 _ _ _ at hsort
      have HSO := Lib.hid hsort
      have HO := Lib.hid ho
      clear hsort hown hlt hgl hfl hcnt ho
      go_wp2_with fail
      go_at_call 42
      refine HSO.out.mono ?_
      rintro e w5 ⟨rfl, l', hperm, hpw, hbel, hrow⟩
      have ho5 := Hold.below HO.out hbel (Nat.lt_succ_self _)
      obtain ⟨l5, c5, f5, _⟩ := ho5.box
      have hx55 : Ext w5 w5 := Ext.refl _
      have HXW := Lib.hid (show Ext w w5 from Below.trans hxw4 (Below.mono hbel (by have := hxw2.le; omega)))
      have HR := Lib.hid (show RowHas w5 (.slice a (gather (p.foldP stepTm [])).length cp) 3 (sortedT (p.foldP stepTm [])).length (tmCells (sortedT (p.foldP stepTm []))) from by
        have e := gather_sorted hperm (hpw.imp fun {x y} h => by rw [ltOf_cmpT] at h; exact of_decide_eq_false h)
        rw [← e]; exact hrow)
      clear hperm hpw hbel hrow ho5 l4 c4 f4
      go_wp2_with fail
      go_ret2
      exact ⟨HXW.out, _, 0, rfl, .inr ⟨HFF.out, rfl, HR.out⟩⟩

end Go.Proofs.YtdplphoohnnbcaaGreatDoor
