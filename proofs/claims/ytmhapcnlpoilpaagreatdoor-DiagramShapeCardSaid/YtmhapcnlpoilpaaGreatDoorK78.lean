/- Contract: antecederef56.Draw. -/
import Derived.Test.YtmhapcnlpoilpaaGreatDoorK77
import Derived.Test.YtmhapcnlpoilpaaGreatDoorK18
namespace Go.Proofs.YtmhapcnlpoilpaaGreatDoor
open Go.RowKit Go.Shelf
attribute [local go_sem] Oper.semAt_some
theorem step_make_fullD {P : Program} {w : World} {ops : Array Oper} {o : Oper} {a : Act} {K : Act → World → Prop} {Q : Exit → Act → World → Prop} {E : Prop}
    (hg : o.guard = none) (l c : Operand) (t : TypeId) (hop : o.op = Op.makeSlice t l c)
    (base : Nat) (e : TypeId) (i : TypeInfo) (z : Value) (size : Nat) (h1 : P.underlying t = some (.slice e)) (h2 : P.info? e = some i) (h3 : i.zero = some z) (h4 : i.size = size)
    (kl kc : IntKind) (L C : Int) (n : Nat) (hl : a.eval l = .int kl L) (hc : a.eval c = .int kc C) (hL : L = (n : Int)) (hC : C = (n : Int)) (b2 : i.bytes * n ≤ 281474976710656) (b3 : n ≤ maxLen) (b4 : base ≤ w.heap.size)
    (hK : ∀ w', w'.ownsRow base e size (.slice (some ⟨w.heap.size, 0, none⟩) n n) n (madeCells z.cells (n * size)).toList → w.grownBy w' none → K (a.put o.dst (.slice (some ⟨w.heap.size, 0, none⟩) n n)) w') :
    if Region.wanted o (yielded ops a.tmps) = true then Oper.wp P o a w K Q else E := by
 have hw : Region.wanted o (yielded ops a.tmps) = true := by simp [Region.wanted, hg]
 rw [if_pos hw]
 obtain ⟨w', hrun, r1, r2⟩ := run_make_full (P := P) w base t e i z size h1 h2 h3 h4 kl kc n b2 b3 b4
 subst hL
 subst hC
 unfold Oper.wp
 simp [execOp, hop, hl, hc, hrun, Result.andThen]
 exact hK w' r1 r2
theorem IRow.num {w : World} {g n : Nat} {f : Nat → Int} (h : IRow w g n f) (hn : n ≤ 1000) : NumAt w n (some ⟨g, 0, none⟩) g 0 f :=
 ⟨by omega, fun _ => rfl, fun _ => h.lt, fun k hk => by rw [Nat.zero_add]; exact h.c k hk⟩
set_option maxRecDepth 100000 in
set_option maxHeartbeats 2000000 in
theorem rdraw56_any (w : World) (T : TM) (hT : T.At w) (hV : T.toTr.Valid) (rows : Nat → List Int) (hR : T.toTr.Stamps rows) (mI : Int) (hmo : T.toTr.Most rows mI) (mN : Nat) (hmI : mI = mN) :
    Calls Tryz.prog 16 #[T.val] w fun e w' => e = .returned (.string (bts (T.toTr.dra (fun p i => (rows p).getD i 0 - 1) mN (T.toTr.nw T.n) (T.toTr.wd T.n) none T.n))) ∧ Ext w w' := by
 obtain ⟨j0, hj0, hy0, hy1, hy2⟩ := info_parts infoInt
 have hn8 := hV.n8
 have hn1 := hV.n1
 have HC := Lib.hid (fun W (x : Ext w W) g (h : IRow W g T.n fun _ => 0) => rcut56_any W T (hT.ext x) hV rows hR mI hmo mN hmI (some ⟨g, 0, none⟩) g 0 T.n (fun _ => 0) (h.num (by omega)) (fun p _ => ⟨Int.le_refl _, Int.natCast_nonneg _⟩) _ rfl)
 simp only [TM.val] at HC ⊢
 clear hT hV hR hmo
 go_enter Tryz.func16, Tryz.ntmps16
 go_upto_region 1 with fail
 refine boxed1 (w := w) (G := fun x => Code.wp _ _ _ _ x) ?_
 intro w5 hx1 hs1 ⟨l0, c0, _, _⟩
 have hx11 : Ext w5 w5 := Ext.refl _
 clear hs1
 refine wp_region_held_drew (S := fun w' => Ext w5 w') (by kernel_rfl) (Ext.refl _).drew (fun hHeld => ?_)
 refine heldTake 0 (v := ?_) rfl (by kernel_rfl) (by kernel_rfl) (by kernel_rfl) (fun _ _ _ h => h) (Or.inl ⟨by rfl, ?_⟩) (by assumption) ?_
 rotate_left
 ·(intro w' hSw; (try dsimp only at hSw); go_simp; try with_reducible rfl)
 try simp only [Act.put, List.setIfInBounds_toArray, List.set_cons_zero, List.set_cons_succ]
 refine heldTake 1 (v := ?_) rfl (by kernel_rfl) (by kernel_rfl) (by kernel_rfl) (fun _ _ _ h => h) (Or.inl ⟨by rfl, ?_⟩) (by assumption) ?_
 rotate_left
 ·(intro w' hSw; (try dsimp only at hSw); go_simp; try with_reducible rfl)
 try simp only [Act.put, List.setIfInBounds_toArray, List.set_cons_zero, List.set_cons_succ]
 refine heldTake 2 (v := ?_) rfl (by kernel_rfl) (by kernel_rfl) (by kernel_rfl) (fun _ _ _ h => h) (Or.inl ⟨by rfl, ?_⟩) (by assumption) ?_
 rotate_left
 ·(intro w' hSw; (try dsimp only at hSw); go_simp; try with_reducible rfl)
 try simp only [Act.put, List.setIfInBounds_toArray, List.set_cons_zero, List.set_cons_succ]
 refine heldTake 3 (v := ?_) rfl (by kernel_rfl) (by kernel_rfl) (by kernel_rfl) (fun _ _ _ h => h) (Or.inl ⟨by rfl, ?_⟩) (by assumption) ?_
 rotate_left
 ·(intro w' hSw; (try dsimp only at hSw); go_simp; try with_reducible rfl)
 try simp only [Act.put, List.setIfInBounds_toArray, List.set_cons_zero, List.set_cons_succ]
 refine wpAnyH_ready (rs := [4]) (by kernel_rfl) (by simp) ?_
 refine AllReadyH.cons rfl (fun K hK => ?_) AllReadyH.nil
 refine step_make_fullD rfl _ _ 25 rfl w5.heap.size 3 j0 (.int .i64 0) 1 Tryz.underlying25 hj0 hy0 hy1 .i64 .i64 _ _ T.n (by rfl) (by rfl) rfl rfl (by rw [hy2]; omega) (by unfold maxLen; omega) (Nat.le_refl _) ?_
 intro w6 hown6 hg6
 have hx56 : Ext w5 w6 := (Ext.refl w5).drew.trans ((Below.refl _ _).grown hg6 (Nat.le_refl _) (by simp))
 refine hK.out _ _ ?_ (fun hHeld2 => ?_)
 ·exact hx56
 clear hK K
 try simp only [Act.put, List.setIfInBounds_toArray]
 have hC := HC.out w6 (hx1.trans hx56) _ (IRow.made hown6)
 clear hown6 hg6
 refine wpAnyH_ready (rs := [5]) (by kernel_rfl) (by simp) ?_
 refine AllReadyH.cons rfl (fun K hK => ?_) AllReadyH.nil
 go_simp
 go_at_call 18
 refine hC.mono ?_
 rintro e w7 ⟨rfl, hx7⟩
 have hx57 := hx56.trans hx7
 refine hK.out _ _ ?_ (fun hHeld3 => ?_)
 ·exact hx57
 clear hK K
 try simp only [Act.put, List.setIfInBounds_toArray, List.set_cons_zero, List.set_cons_succ]
 refine wpAnyH_ready (rs := [6]) (by kernel_rfl) (by simp) ?_
 refine AllReadyH.cons rfl (fun K hK => ?_) AllReadyH.nil
 go_simp
 refine hK.out _ _ ?_ (fun hHeld4 => ?_)
 ·exact hx57
 clear hK K
 try simp only [Act.put, List.setIfInBounds_toArray, List.set_cons_zero, List.set_cons_succ]
 refine wpAnyH_done (by kernel_rfl) ?_ _
 clear hHeld hHeld2 hHeld3 hHeld4 hC
 go_wp2_with fail
 go_ret
 exact ⟨by rw [← Tr.refD_none (v := fun _ => 0) fun p _ => Int.le_refl _]; rfl, hx1.trans hx57⟩
end Go.Proofs.YtmhapcnlpoilpaaGreatDoor
