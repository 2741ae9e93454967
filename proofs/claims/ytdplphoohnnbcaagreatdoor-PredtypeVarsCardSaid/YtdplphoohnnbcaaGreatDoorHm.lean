/- Contract of variable.values: the values of a variable in all states. Contracts: slices.Min, slices.Max at []int; variable.index, find, Range. -/
import Derived.Test.YtdplphoohnnbcaaGreatDoorHl
import Derived.Test.YtdplphoohnnbcaaGreatDoorHf
import Derived.Test.YtdplphoohnnbcaaGreatDoorHg
namespace Go.Proofs.YtdplphoohnnbcaaGreatDoor
open Go.RowKit Go.Shelf
attribute [local go_sem] Oper.semAt_some

theorem wpIn_append_of {F : Fence} {n : Nat} {P : Program} {o : Oper} {a : Act} {K : Act → World → Prop} {Q : Exit → Act → World → Prop} {w w' : World} {s x : Operand} {t tx : TypeId} {v xv r : Value}
    (hop : o.op = .call { callee := .builtin .append, args := #[s, x], argTypes := #[t, tx] }) (hv : a.eval s = v) (hx : a.eval x = xv) (hrun : (Builtin.append_ #[t, tx] o.type #[v, xv]).run P w = .ok r w') (hK : K (a.put o.dst r) w') : o.wpIn F n P a w K Q := by
  unfold Oper.wpIn
  refine ⟨by simp [Oper.about, hop, resolve, Target.leads, Sem.run_pure], ?_⟩
  rw [Oper.semAt_plain F _ _ (by rw [hop]; intro c hc; cases hc)]
  simp [execOp, hop, resolve, invoke, builtin, hv, hx, hrun, Result.andThen]
  exact hK
def Tr.stV (T : Tr) (p v : Nat) (ks : List Nat) : List Int := ks.map fun k => T.st p v k
theorem Que.put {W : World} {base size : Nat} {v : Value} {n : Nat} {xs : List Value} (h : Que W base size v n xs) {l : Nat} {o : Obj} (o' : Obj) (ho : W.heap[l]? = some o) (hc : o.isCells = false) : Que (W.putObj l o') base size v n xs := by
  refine ⟨h.len, ?_⟩
  rcases h.val with hv | ⟨g, off, cap, hv, h1, h2, h3, h4, h5, h6⟩
  · exact .inl hv
  · by_cases e : g = l
    · subst e
      have hz : ¬ 0 < cap * size := fun h0 => by
        have := (h6 0 h0).1
        simp only [World.cell?, ho] at this
        cases o <;> simp_all [Obj.isCells]
      have hnz : n * size ≤ cap * size := Nat.mul_le_mul_right _ h3
      exact .inr ⟨g, off, cap, hv, h1, by rw [put_size]; exact h2, h3, h4, fun j hj => by omega, fun j hj => by omega⟩
    · have eb := put_other (W := W) (o := o') e
      refine .inr ⟨g, off, cap, hv, h1, by rw [put_size]; exact h2, h3, h4, fun j hj => ?_, fun j hj => ?_⟩
      · exact (World.cell?_of_block (w := W) (a := ⟨g, off + j, none⟩) eb).trans (h5 j hj)
      · rw [World.cell?_of_block (w := W) (a := ⟨g, off + j, none⟩) eb, World.frozen?_of_block (w := W) (a := ⟨g, off + j, none⟩) eb]
        exact h6 j hj
theorem Que.lt' {w : World} {base size : Nat} {v : Value} {n : Nat} {xs : List Value} (h : Que w base size v n xs) (h0 : 0 < n) : ∀ k, v.ownBlock = some k → k < w.heap.size := by
  intro k e
  rcases h.val with ⟨_, _, hz, _⟩ | ⟨g, off, cap, rfl, _, h2, _⟩
  · omega
  · cases e; exact h2
theorem Que.shape {w : World} {base size : Nat} {v : Value} {n : Nat} {xs : List Value} (h : Que w base size v n xs) (h0 : 0 < n) : ∃ g off cap, v = .slice (some ⟨g, off, none⟩) n cap ∧ base ≤ g ∧ g < w.heap.size ∧ n ≤ cap ∧ ∀ j, j < n * size → w.cell? ⟨g, off + j, none⟩ = xs[j]? := by
  rcases h.val with ⟨_, _, hz, _⟩ | ⟨g, off, cap, hv, h1, h2, h3, _, h5, _⟩
  · omega
  · exact ⟨g, off, cap, hv, h1, h2, h3, h5⟩
/-- what the loop's body keeps: the box of the list, the list, the box of the index -/
structure VvI (w : World) (T : Tr) (p v b0 b1 Bo : Nat) (D : Nat → Prop) (pre : List StX) (W : World) : Prop where
  bl : Ext w W
  sz : Bo ≤ W.heap.size
  ex : ∃ u, (∀ k, D k ↔ k = b0 ∨ k = b1 ∨ u.ownBlock = some k) ∧ Hold W b0 #[u] ∧ Hold W b1 #[.int .i64 v] ∧ Que W Bo 1 u pre.length (intCells (T.stV p v (pre.map Prod.fst))) ∧ (pre = [] → u = .slice none 0 0)
theorem VvI.dep {w : World} {T : Tr} {p v b0 b1 Bo : Nat} (h0 : w.heap.size ≤ b0) (h1 : w.heap.size ≤ b1) (hB : w.heap.size ≤ Bo) : Dep w.heap.size (VvI w T p v b0 b1 Bo) := by
  refine ⟨fun D pre W ⟨_, _, u, hD, k0, k1, ho, hn⟩ k hk => ?_, fun D pre W W' ⟨bl, sz, u, hD, k0, k1, ho, hn⟩ hb hs => ⟨Below.trans bl hb, Nat.le_trans sz hb.size, u, hD, ?_, ?_, ho.same' hb.size fun g e => hs g ((hD g).2 (.inr (.inr e))), hn⟩⟩
  · rcases (hD k).1 hk with rfl | rfl | h
    · exact ⟨h0, k0.lt⟩
    · exact ⟨h1, k1.lt⟩
    · refine ⟨Nat.le_trans hB (ho.block k h), ho.lt' ?_ k h⟩
      cases pre with
      | nil => rw [hn rfl] at h; cases h
      | cons x r => simp
  · obtain ⟨t, ht⟩ := k0; exact ⟨t, (hs b0 ((hD b0).2 (.inl rfl))).trans ht⟩
  · obtain ⟨t, ht⟩ := k1; exact ⟨t, (hs b1 ((hD b1).2 (.inr (.inl rfl)))).trans ht⟩
/-- the append of a round -/
theorem VvI.push {w : World} {T : Tr} {p v b0 b1 Bo : Nat} {D : Nat → Prop} {pre : List StX} {x : StX} {W W1 W2 : World} {u u' : Value} (bl : Ext w W) (sz : Bo ≤ W.heap.size) (hD : ∀ k, D k ↔ k = b0 ∨ k = b1 ∨ u.ownBlock = some k) (k0 : Hold W b0 #[u]) (k1 : Hold W b1 #[.int .i64 v])
    (ho : Que W Bo 1 u pre.length (intCells (T.stV p v (pre.map Prod.fst)))) (x1 : Ext W W1) (ho' : Que W2 Bo 1 u' (pre.length + 1) (intCells (T.stV p v (pre.map Prod.fst)) ++ [.int .i64 (T.st p v x.1)])) (hg : W1.grownBy W2 u.ownBlock) (hu : u'.ownBlock = u.ownBlock ∨ u'.ownBlock = some W1.heap.size)
    (hb0 : b0 < Bo) (hb1 : b1 < Bo) (hne : b0 ≠ b1) (h0 : w.heap.size ≤ b0) (hB : w.heap.size ≤ Bo) :
    ∀ W3, W3 = W2.setCell ⟨b0, 0, none⟩ u' → Below w.heap.size W W3 ∧ Others D W W3 ∧ ∃ D', VvI w T p v b0 b1 Bo D' (pre ++ [x]) W3 ∧ Grew D D' W := by
  rintro W3 rfl
  have hb12 : Below w.heap.size W W2 := (Below.mono x1 bl.le).grown hg (Nat.le_trans bl.le x1.le) fun k e => Nat.le_trans hB (ho.block k e)
  have hb : Below w.heap.size W (W2.setCell ⟨b0, 0, none⟩ u') := hb12.setCell h0 _
  have hk : ∀ k, k < W.heap.size → u.ownBlock ≠ some k → W2.heap[k]? = W.heap[k]? := fun k h1 h2 => (hg.block k (Nat.lt_of_lt_of_le h1 x1.le) (fun e => h2 e.symm)).trans (x1.block k h1)
  have k0' : Hold W2 b0 #[u] := by
    obtain ⟨t, ht⟩ := k0
    exact ⟨t, (hk b0 (Hold.lt ⟨t, ht⟩) (fun e => by have := ho.block b0 e; omega)).trans ht⟩
  have k1' : Hold W2 b1 #[.int .i64 v] := by
    obtain ⟨t, ht⟩ := k1
    exact ⟨t, (hk b1 (Hold.lt ⟨t, ht⟩) (fun e => by have := ho.block b1 e; omega)).trans ht⟩
  refine ⟨hb, fun k h1 h2 => ?_, fun k => k = b0 ∨ k = b1 ∨ u'.ownBlock = some k, ⟨Below.trans bl hb, Nat.le_trans sz hb.size, u', fun _ => Iff.rfl, k0'.set 0 u', k1'.other _ _ (fun e => hne e.symm), ?_, fun h => by simp at h⟩, fun k h => ?_⟩
  · rw [Below.heap_setCell _ _ _ _ (fun e => h2 ((hD k).2 (.inl e)))]
    exact hk k h1 fun e => h2 ((hD k).2 (.inr (.inr e)))
  · rw [List.map_append, List.length_append]
    unfold Tr.stV intCells at ho' ⊢
    rw [List.map_append, List.map_append]
    exact ho'.same' (by rw [World.size_setCell]; exact Nat.le_refl _) fun g e => Below.heap_setCell _ _ _ _ (fun e2 => by have e2 : g = b0 := e2; have := ho'.block g e; omega)
  · rcases h with h | h | h
    · exact .inl ((hD k).2 (.inl h))
    · exact .inl ((hD k).2 (.inr (.inl h)))
    · rcases hu with e | e
      · exact .inl ((hD k).2 (.inr (.inr (e ▸ h))))
      · rw [e] at h; cases h; exact .inr x1.le
def ValPost (T : Tr) (p v : Nat) (w : World) (e : Ending) (w' : World) : Prop := Ext w w' ∧ ∃ u, e = .returned u ∧ Que w' w.heap.size 1 u (T.en p + 1) (intCells (T.stV p v (List.range (T.en p + 1))))
set_option maxRecDepth 100000 in
set_option maxHeartbeats 4000000 in
theorem values_any (w : World) (T : TM) (hT : T.At w) (hV : T.toTr.Valid) (p : Nat) (hp : p < T.n) (v : Nat) (hv : v < T.vn p) :
    Calls Tryz.prog 122 #[T.pr p, .int .i64 v] w (ValPost T.toTr p v w) := by
  refine (callsIn_wide (n := 4)).1 ?_
  obtain ⟨i0, hi0, hz0, hz1, hz2⟩ := info_parts infoInt
  have HT := Lib.hid hT
  have HV := Lib.hid hV
  clear hT hV
  refine callsIn_of_wp_marks Tryz.func122 rfl trivial ?_ rfl
  simp only [Tryz.ntmps122, List.size_toArray, List.length_cons, List.length_nil, Nat.reduceAdd, Nat.reduceSub, Array.replicate_succ, Array.replicate_zero, List.push_toArray, List.append_toArray, List.nil_append, List.cons_append]
  gi_upto_region 2 with fail
  refine boxed3 (w := w) (G := fun x => Code.wpIn _ _ _ _ _ _ x) ?_
  intro w1 hx1 hs1 ⟨l0, c0, _, k0⟩ ⟨l1, c1, f1, k1⟩ ⟨l2, c2, f2, k2⟩
  have hx11 : Ext w1 w1 := Ext.refl _
  have HS := Lib.hid hs1
  have HK0 := Lib.hid k0
  have HK1 := Lib.hid k1
  have HK2 := Lib.hid k2
  clear hs1 k0 k1 k2
  gi_wp2_with fail
  refine ⟨trivial, ?_⟩
  gi_at_call 146
  refine CallsIn.mono (callsIn_wide.2 (states_any T p w1)) ?_
  rintro e w2 ⟨rfl, t2, hw2⟩
  have hx2 : Ext w1 w2 := by rw [hw2]; exact Ext.alloc _ _
  have hb2 : Hold w2 w1.heap.size (T.prc p) := by rw [hw2]; exact Hold.new _ _ _
  have hsz : w2.heap.size = w1.heap.size + 1 := by rw [hw2]; simp
  have hx12 : Ext w w2 := hx1.trans hx2
  have hI0 : VvI w T.toTr p v (w.heap.size + 1 + 1) (w.heap.size + 1) w2.heap.size (fun k => k = w.heap.size + 1 + 1 ∨ k = w.heap.size + 1 ∨ (Value.slice none 0 0).ownBlock = some k) [] w2 :=
    ⟨hx12, Nat.le_refl _, _, fun _ => Iff.rfl, Hold.ext HK2.out hx2, Hold.ext HK1.out hx2, Que.nil _ _ _, fun _ => rfl⟩
  have HSZ := Lib.hid hsz
  clear hw2 c0 c1 c2 f1 f2 l0 l1 l2 hsz
  gi_wp2_with fail
  refine wpIn_rangeD rfl (by omega) (gf := 159) (lb := #[.pointer (some ⟨w1.heap.size, 0, none⟩)]) rfl trivial (enters_of Tryz.func159 (by kernel_rfl) rfl)
    (states_seq 3 (by omega) w T HT.out HV.out p hp w2 hx12 w1.heap.size hb2) (Ext.refl _) hx12.le hb2.lt (fun _ => rfl)
    (VvI w T.toTr p v (w.heap.size + 1 + 1) (w.heap.size + 1) w2.heap.size) (fun _ _ _ => False) (fun k => k = w.heap.size + 1 + 1 ∨ k = w.heap.size + 1 ∨ (Value.slice none 0 0).ownBlock = some k)
    (fun h => by have := HS.out; rcases h with h | h | h
                 · omega
                 · omega
                 · cases h)
    (VvI.dep (by omega) (by omega) hx12.le) (fun _ _ _ _ _ _ h => h.elim) hI0
    (fun x a' W => StE T.toTr p w.heap.size x W ∧ a' = { tmps := #[T.pr p, .int .i64 v, .pointer (some ⟨w.heap.size, 0, none⟩), .pointer (some ⟨w.heap.size + 1, 0, none⟩), .slice none 0 0, .pointer (some ⟨w.heap.size + 1 + 1, 0, none⟩), undef, x.2, T.pr p, .func (.func 159) #[] #[.pointer (some ⟨w1.heap.size, 0, none⟩)], .int .i64 x.1, x.2, undef, undef, undef, undef, undef, undef, undef, undef], defers := [] })
    (fun x a' W l o o' ⟨hE, e⟩ _ ho hc => ⟨⟨hE.1, hE.2.put o' ho hc⟩, e⟩) ?assign ?body ?done ?stop
  case assign =>
    rintro l D pre x W K hI hE hK
    gi_wp2
    exact hK _ _ (Ext.refl _) ⟨hE, rfl⟩
  case body =>
    rintro l D pre ⟨xk, xv⟩ a' W ⟨bl, sz, u, hD, k0, k1, ho, hn⟩ ⟨⟨hE1, hE2⟩, rfl⟩ hlt
    dsimp only at hE1 hE2
    have hen := HV.out.en64 hp
    obtain ⟨g, off, cap, rfl, hg1, hg2, hg3, hg4⟩ := hE2.shape (by omega)
    obtain ⟨y, hy⟩ : ∃ y, y = T.toTr.st p v xk := ⟨_, rfl⟩
    have hcy : W.cell? ⟨g, off + v, none⟩ = some (.int .i64 y) := by
      rw [hg4 v (by omega), hy]
      unfold intCells
      rw [List.getElem?_map, T.toTr.stL_get p xk v hv]; rfl
    have HY := Lib.hid hy
    have hv' : (v : Int) < (T.vn p : Int) := by omega
    have c0 := k0.cell0 0
    have c1 := k1.cell0 0
    simp only [List.getElem?_toArray, List.getElem?_cons_zero] at c0 c1
    have hlt0 := k0.lt
    have hW2 : w2.heap.size ≤ W.heap.size := sz
    have hq0 := (ho.ext (Ext.drew (Ext.refl W))).ext (Ext.alloc W.drew (.cells #[.int .i64 y] 3))
    obtain ⟨u', w6, hrun, hq6, hg6, hu6⟩ := run_append_que (P := Tryz.prog) 112 112 112 3 i0 (.int .i64 0) 1 8 Tryz.underlying112 hi0 hz0 hz1 hz2 rfl hq0 (by rw [World.size_alloc]; exact Nat.le_succ_of_le hW2) (.slice (some ⟨W.heap.size, 0, none⟩) 1 1) 1 [.int .i64 y]
      (Src.ofSlice _ Tryz.underlying112 ⟨W.heap.size, 0, none⟩ 1 1 [.int .i64 y] rfl (news_ok W.drew [.int .i64 y] 3) (by intro u hu; simp at hu; subst hu; rfl)) (by unfold maxLen; omega) (by omega)
    obtain ⟨g', off', cap', rfl, _⟩ := hq6.shape (by omega)
    have x1 : Ext W (W.drew.alloc (.cells #[.int .i64 y] 3)) := (Ext.drew (Ext.refl W)).alloc' _
    have hb0' : w.heap.size + 1 + 1 < w2.heap.size := by have := HS.out; have := hx2.le; omega
    have HP := Lib.hid (VvI.push (x := (xk, .slice (some ⟨g, off, none⟩) (T.vn p) cap)) bl sz hD k0 k1 ho x1 (by
      have := hq6
      rw [hy] at this
      exact this) hg6 hu6 hb0' (by omega) (by omega) (by omega) hx12.le)
    have k06 : Hold w6 (w.heap.size + 1 + 1) #[u] := by
      obtain ⟨t, ht⟩ := k0
      refine ⟨t, (hg6.block _ (Nat.lt_of_lt_of_le (Hold.lt ⟨t, ht⟩) x1.le) (fun e => ?_)).trans ((x1.block _ (Hold.lt ⟨t, ht⟩)).trans ht)⟩
      have := ho.block _ e.symm; omega
    obtain ⟨l6, c6, f6, _⟩ := k06.box
    have hx66 : Ext w6 w6 := Ext.refl _
    clear hq0 hq6 hg6 hu6 k06 k0 k1 ho hn hD hE1 hE2 hy hg4 hI0 hg3
    have hmix : Tryz.prog.follows .mixedOrders = true := by kernel_rfl
    gi_wp2
    refine wpIn_region_any hmix ?_
    change wpAnyIn _ _ _ _ _ _ _ _ _ (World.drew _)
    refine wpAnyIn_ready (rs := [0, 1, 2]) (by kernel_rfl) (by simp) ?_
    refine AllReadyIn.cons rfl (fun K hK => ?_) (AllReadyIn.cons rfl (fun K hK => ?_) (AllReadyIn.cons rfl (fun K hK => ?_) AllReadyIn.nil))
    · skip
      go_simp
      refine hK _ _ ?_
      clear hK K
      refine wpAnyIn_ready (rs := [1, 2]) (by kernel_rfl) (by simp) ?_
      refine AllReadyIn.cons rfl (fun K hK => ?_) (AllReadyIn.cons rfl (fun K hK => ?_) AllReadyIn.nil)
      · skip
        go_simp
        refine hK _ _ ?_
        clear hK K
        refine wpAnyIn_ready (rs := [2]) (by kernel_rfl) (by simp) ?_
        refine AllReadyIn.cons rfl (fun K hK => ?_) AllReadyIn.nil
        go_simp
        refine hK _ _ ?_
        clear hK K
        refine wpAnyIn_ready (rs := [3]) (by kernel_rfl) (by simp) ?_
        refine AllReadyIn.cons rfl (fun K hK => ?_) AllReadyIn.nil
        go_simp
        refine hK _ _ ?_
        clear hK K
        refine wpAnyIn_ready (rs := [4]) (by kernel_rfl) (by simp) ?_
        refine AllReadyIn.cons rfl (fun K hK => ?_) AllReadyIn.nil
        go_simp
        refine hK _ _ ?_
        clear hK K
        refine wpAnyIn_ready (rs := [5]) (by kernel_rfl) (by simp) ?_
        refine AllReadyIn.cons rfl (fun K hK => ?_) AllReadyIn.nil
        go_simp
        refine hK _ _ ?_
        clear hK K
        refine wpAnyIn_ready (rs := [6]) (by kernel_rfl) (by simp) ?_
        refine BigFrame.allReadyIn_want (i := 6) rfl rfl (fun K hK => ?_) AllReadyIn.nil
        refine wpIn_append_of rfl rfl rfl hrun ?_
        refine hK _ _ ?_
        clear hK K
        refine wpAnyIn_ready (rs := [7]) (by kernel_rfl) (by simp) ?_
        refine AllReadyIn.cons rfl (fun K hK => ?_) AllReadyIn.nil
        go_simp
        refine hK _ _ ?_
        clear hK K
        refine wpAnyIn_done (by kernel_rfl) ?_ _
        exact HP.out _ rfl
      · skip
        go_simp
        refine hK _ _ ?_
        clear hK K
        refine wpAnyIn_ready (rs := [1]) (by kernel_rfl) (by simp) ?_
        refine AllReadyIn.cons rfl (fun K hK => ?_) AllReadyIn.nil
        go_simp
        refine hK _ _ ?_
        clear hK K
        refine wpAnyIn_ready (rs := [3]) (by kernel_rfl) (by simp) ?_
        refine AllReadyIn.cons rfl (fun K hK => ?_) AllReadyIn.nil
        go_simp
        refine hK _ _ ?_
        clear hK K
        refine wpAnyIn_ready (rs := [4]) (by kernel_rfl) (by simp) ?_
        refine AllReadyIn.cons rfl (fun K hK => ?_) AllReadyIn.nil
        go_simp
        refine hK _ _ ?_
        clear hK K
        refine wpAnyIn_ready (rs := [5]) (by kernel_rfl) (by simp) ?_
        refine AllReadyIn.cons rfl (fun K hK => ?_) AllReadyIn.nil
        go_simp
        refine hK _ _ ?_
        clear hK K
        refine wpAnyIn_ready (rs := [6]) (by kernel_rfl) (by simp) ?_
        refine BigFrame.allReadyIn_want (i := 6) rfl rfl (fun K hK => ?_) AllReadyIn.nil
        refine wpIn_append_of rfl rfl rfl hrun ?_
        refine hK _ _ ?_
        clear hK K
        refine wpAnyIn_ready (rs := [7]) (by kernel_rfl) (by simp) ?_
        refine AllReadyIn.cons rfl (fun K hK => ?_) AllReadyIn.nil
        go_simp
        refine hK _ _ ?_
        clear hK K
        refine wpAnyIn_done (by kernel_rfl) ?_ _
        exact HP.out _ rfl
    · skip
      go_simp
      refine hK _ _ ?_
      clear hK K
      refine wpAnyIn_ready (rs := [0, 2]) (by kernel_rfl) (by simp) ?_
      refine AllReadyIn.cons rfl (fun K hK => ?_) (AllReadyIn.cons rfl (fun K hK => ?_) AllReadyIn.nil)
      · skip
        go_simp
        refine hK _ _ ?_
        clear hK K
        refine wpAnyIn_ready (rs := [2]) (by kernel_rfl) (by simp) ?_
        refine AllReadyIn.cons rfl (fun K hK => ?_) AllReadyIn.nil
        go_simp
        refine hK _ _ ?_
        clear hK K
        refine wpAnyIn_ready (rs := [3]) (by kernel_rfl) (by simp) ?_
        refine AllReadyIn.cons rfl (fun K hK => ?_) AllReadyIn.nil
        go_simp
        refine hK _ _ ?_
        clear hK K
        refine wpAnyIn_ready (rs := [4]) (by kernel_rfl) (by simp) ?_
        refine AllReadyIn.cons rfl (fun K hK => ?_) AllReadyIn.nil
        go_simp
        refine hK _ _ ?_
        clear hK K
        refine wpAnyIn_ready (rs := [5]) (by kernel_rfl) (by simp) ?_
        refine AllReadyIn.cons rfl (fun K hK => ?_) AllReadyIn.nil
        go_simp
        refine hK _ _ ?_
        clear hK K
        refine wpAnyIn_ready (rs := [6]) (by kernel_rfl) (by simp) ?_
        refine BigFrame.allReadyIn_want (i := 6) rfl rfl (fun K hK => ?_) AllReadyIn.nil
        refine wpIn_append_of rfl rfl rfl hrun ?_
        refine hK _ _ ?_
        clear hK K
        refine wpAnyIn_ready (rs := [7]) (by kernel_rfl) (by simp) ?_
        refine AllReadyIn.cons rfl (fun K hK => ?_) AllReadyIn.nil
        go_simp
        refine hK _ _ ?_
        clear hK K
        refine wpAnyIn_done (by kernel_rfl) ?_ _
        exact HP.out _ rfl
      · skip
        go_simp
        refine hK _ _ ?_
        clear hK K
        refine wpAnyIn_ready (rs := [0, 3]) (by kernel_rfl) (by simp) ?_
        refine AllReadyIn.cons rfl (fun K hK => ?_) (AllReadyIn.cons rfl (fun K hK => ?_) AllReadyIn.nil)
        · skip
          go_simp
          refine hK _ _ ?_
          clear hK K
          refine wpAnyIn_ready (rs := [3]) (by kernel_rfl) (by simp) ?_
          refine AllReadyIn.cons rfl (fun K hK => ?_) AllReadyIn.nil
          go_simp
          refine hK _ _ ?_
          clear hK K
          refine wpAnyIn_ready (rs := [4]) (by kernel_rfl) (by simp) ?_
          refine AllReadyIn.cons rfl (fun K hK => ?_) AllReadyIn.nil
          go_simp
          refine hK _ _ ?_
          clear hK K
          refine wpAnyIn_ready (rs := [5]) (by kernel_rfl) (by simp) ?_
          refine AllReadyIn.cons rfl (fun K hK => ?_) AllReadyIn.nil
          go_simp
          refine hK _ _ ?_
          clear hK K
          refine wpAnyIn_ready (rs := [6]) (by kernel_rfl) (by simp) ?_
          refine BigFrame.allReadyIn_want (i := 6) rfl rfl (fun K hK => ?_) AllReadyIn.nil
          refine wpIn_append_of rfl rfl rfl hrun ?_
          refine hK _ _ ?_
          clear hK K
          refine wpAnyIn_ready (rs := [7]) (by kernel_rfl) (by simp) ?_
          refine AllReadyIn.cons rfl (fun K hK => ?_) AllReadyIn.nil
          go_simp
          refine hK _ _ ?_
          clear hK K
          refine wpAnyIn_done (by kernel_rfl) ?_ _
          exact HP.out _ rfl
        · skip
          go_simp
          refine hK _ _ ?_
          clear hK K
          refine wpAnyIn_ready (rs := [0, 4]) (by kernel_rfl) (by simp) ?_
          refine AllReadyIn.cons rfl (fun K hK => ?_) (AllReadyIn.cons rfl (fun K hK => ?_) AllReadyIn.nil)
          · skip
            go_simp
            refine hK _ _ ?_
            clear hK K
            refine wpAnyIn_ready (rs := [4]) (by kernel_rfl) (by simp) ?_
            refine AllReadyIn.cons rfl (fun K hK => ?_) AllReadyIn.nil
            go_simp
            refine hK _ _ ?_
            clear hK K
            refine wpAnyIn_ready (rs := [5]) (by kernel_rfl) (by simp) ?_
            refine AllReadyIn.cons rfl (fun K hK => ?_) AllReadyIn.nil
            go_simp
            refine hK _ _ ?_
            clear hK K
            refine wpAnyIn_ready (rs := [6]) (by kernel_rfl) (by simp) ?_
            refine BigFrame.allReadyIn_want (i := 6) rfl rfl (fun K hK => ?_) AllReadyIn.nil
            refine wpIn_append_of rfl rfl rfl hrun ?_
            refine hK _ _ ?_
            clear hK K
            refine wpAnyIn_ready (rs := [7]) (by kernel_rfl) (by simp) ?_
            refine AllReadyIn.cons rfl (fun K hK => ?_) AllReadyIn.nil
            go_simp
            refine hK _ _ ?_
            clear hK K
            refine wpAnyIn_done (by kernel_rfl) ?_ _
            exact HP.out _ rfl
          · skip
            go_simp
            refine hK _ _ ?_
            clear hK K
            refine wpAnyIn_ready (rs := [0, 5]) (by kernel_rfl) (by simp) ?_
            refine AllReadyIn.cons rfl (fun K hK => ?_) (AllReadyIn.cons rfl (fun K hK => ?_) AllReadyIn.nil)
            · skip
              go_simp
              refine hK _ _ ?_
              clear hK K
              refine wpAnyIn_ready (rs := [5]) (by kernel_rfl) (by simp) ?_
              refine AllReadyIn.cons rfl (fun K hK => ?_) AllReadyIn.nil
              go_simp
              refine hK _ _ ?_
              clear hK K
              refine wpAnyIn_ready (rs := [6]) (by kernel_rfl) (by simp) ?_
              refine BigFrame.allReadyIn_want (i := 6) rfl rfl (fun K hK => ?_) AllReadyIn.nil
              refine wpIn_append_of rfl rfl rfl hrun ?_
              refine hK _ _ ?_
              clear hK K
              refine wpAnyIn_ready (rs := [7]) (by kernel_rfl) (by simp) ?_
              refine AllReadyIn.cons rfl (fun K hK => ?_) AllReadyIn.nil
              go_simp
              refine hK _ _ ?_
              clear hK K
              refine wpAnyIn_done (by kernel_rfl) ?_ _
              exact HP.out _ rfl
            · skip
              go_simp
              refine hK _ _ ?_
              clear hK K
              refine wpAnyIn_ready (rs := [0]) (by kernel_rfl) (by simp) ?_
              refine AllReadyIn.cons rfl (fun K hK => ?_) AllReadyIn.nil
              go_simp
              refine hK _ _ ?_
              clear hK K
              refine wpAnyIn_ready (rs := [6]) (by kernel_rfl) (by simp) ?_
              refine BigFrame.allReadyIn_want (i := 6) rfl rfl (fun K hK => ?_) AllReadyIn.nil
              refine wpIn_append_of rfl rfl rfl hrun ?_
              refine hK _ _ ?_
              clear hK K
              refine wpAnyIn_ready (rs := [7]) (by kernel_rfl) (by simp) ?_
              refine AllReadyIn.cons rfl (fun K hK => ?_) AllReadyIn.nil
              go_simp
              refine hK _ _ ?_
              clear hK K
              refine wpAnyIn_done (by kernel_rfl) ?_ _
              exact HP.out _ rfl
    · skip
      go_simp
      refine hK _ _ ?_
      clear hK K
      refine wpAnyIn_ready (rs := [0, 1]) (by kernel_rfl) (by simp) ?_
      refine AllReadyIn.cons rfl (fun K hK => ?_) (AllReadyIn.cons rfl (fun K hK => ?_) AllReadyIn.nil)
      · skip
        go_simp
        refine hK _ _ ?_
        clear hK K
        refine wpAnyIn_ready (rs := [1]) (by kernel_rfl) (by simp) ?_
        refine AllReadyIn.cons rfl (fun K hK => ?_) AllReadyIn.nil
        go_simp
        refine hK _ _ ?_
        clear hK K
        refine wpAnyIn_ready (rs := [3]) (by kernel_rfl) (by simp) ?_
        refine AllReadyIn.cons rfl (fun K hK => ?_) AllReadyIn.nil
        go_simp
        refine hK _ _ ?_
        clear hK K
        refine wpAnyIn_ready (rs := [4]) (by kernel_rfl) (by simp) ?_
        refine AllReadyIn.cons rfl (fun K hK => ?_) AllReadyIn.nil
        go_simp
        refine hK _ _ ?_
        clear hK K
        refine wpAnyIn_ready (rs := [5]) (by kernel_rfl) (by simp) ?_
        refine AllReadyIn.cons rfl (fun K hK => ?_) AllReadyIn.nil
        go_simp
        refine hK _ _ ?_
        clear hK K
        refine wpAnyIn_ready (rs := [6]) (by kernel_rfl) (by simp) ?_
        refine BigFrame.allReadyIn_want (i := 6) rfl rfl (fun K hK => ?_) AllReadyIn.nil
        refine wpIn_append_of rfl rfl rfl hrun ?_
        refine hK _ _ ?_
        clear hK K
        refine wpAnyIn_ready (rs := [7]) (by kernel_rfl) (by simp) ?_
        refine AllReadyIn.cons rfl (fun K hK => ?_) AllReadyIn.nil
        go_simp
        refine hK _ _ ?_
        clear hK K
        refine wpAnyIn_done (by kernel_rfl) ?_ _
        exact HP.out _ rfl
      · skip
        go_simp
        refine hK _ _ ?_
        clear hK K
        refine wpAnyIn_ready (rs := [0, 3]) (by kernel_rfl) (by simp) ?_
        refine AllReadyIn.cons rfl (fun K hK => ?_) (AllReadyIn.cons rfl (fun K hK => ?_) AllReadyIn.nil)
        · skip
          go_simp
          refine hK _ _ ?_
          clear hK K
          refine wpAnyIn_ready (rs := [3]) (by kernel_rfl) (by simp) ?_
          refine AllReadyIn.cons rfl (fun K hK => ?_) AllReadyIn.nil
          go_simp
          refine hK _ _ ?_
          clear hK K
          refine wpAnyIn_ready (rs := [4]) (by kernel_rfl) (by simp) ?_
          refine AllReadyIn.cons rfl (fun K hK => ?_) AllReadyIn.nil
          go_simp
          refine hK _ _ ?_
          clear hK K
          refine wpAnyIn_ready (rs := [5]) (by kernel_rfl) (by simp) ?_
          refine AllReadyIn.cons rfl (fun K hK => ?_) AllReadyIn.nil
          go_simp
          refine hK _ _ ?_
          clear hK K
          refine wpAnyIn_ready (rs := [6]) (by kernel_rfl) (by simp) ?_
          refine BigFrame.allReadyIn_want (i := 6) rfl rfl (fun K hK => ?_) AllReadyIn.nil
          refine wpIn_append_of rfl rfl rfl hrun ?_
          refine hK _ _ ?_
          clear hK K
          refine wpAnyIn_ready (rs := [7]) (by kernel_rfl) (by simp) ?_
          refine AllReadyIn.cons rfl (fun K hK => ?_) AllReadyIn.nil
          go_simp
          refine hK _ _ ?_
          clear hK K
          refine wpAnyIn_done (by kernel_rfl) ?_ _
          exact HP.out _ rfl
        · skip
          go_simp
          refine hK _ _ ?_
          clear hK K
          refine wpAnyIn_ready (rs := [0, 4]) (by kernel_rfl) (by simp) ?_
          refine AllReadyIn.cons rfl (fun K hK => ?_) (AllReadyIn.cons rfl (fun K hK => ?_) AllReadyIn.nil)
          · skip
            go_simp
            refine hK _ _ ?_
            clear hK K
            refine wpAnyIn_ready (rs := [4]) (by kernel_rfl) (by simp) ?_
            refine AllReadyIn.cons rfl (fun K hK => ?_) AllReadyIn.nil
            go_simp
            refine hK _ _ ?_
            clear hK K
            refine wpAnyIn_ready (rs := [5]) (by kernel_rfl) (by simp) ?_
            refine AllReadyIn.cons rfl (fun K hK => ?_) AllReadyIn.nil
            go_simp
            refine hK _ _ ?_
            clear hK K
            refine wpAnyIn_ready (rs := [6]) (by kernel_rfl) (by simp) ?_
            refine BigFrame.allReadyIn_want (i := 6) rfl rfl (fun K hK => ?_) AllReadyIn.nil
            refine wpIn_append_of rfl rfl rfl hrun ?_
            refine hK _ _ ?_
            clear hK K
            refine wpAnyIn_ready (rs := [7]) (by kernel_rfl) (by simp) ?_
            refine AllReadyIn.cons rfl (fun K hK => ?_) AllReadyIn.nil
            go_simp
            refine hK _ _ ?_
            clear hK K
            refine wpAnyIn_done (by kernel_rfl) ?_ _
            exact HP.out _ rfl
          · skip
            go_simp
            refine hK _ _ ?_
            clear hK K
            refine wpAnyIn_ready (rs := [0, 5]) (by kernel_rfl) (by simp) ?_
            refine AllReadyIn.cons rfl (fun K hK => ?_) (AllReadyIn.cons rfl (fun K hK => ?_) AllReadyIn.nil)
            · skip
              go_simp
              refine hK _ _ ?_
              clear hK K
              refine wpAnyIn_ready (rs := [5]) (by kernel_rfl) (by simp) ?_
              refine AllReadyIn.cons rfl (fun K hK => ?_) AllReadyIn.nil
              go_simp
              refine hK _ _ ?_
              clear hK K
              refine wpAnyIn_ready (rs := [6]) (by kernel_rfl) (by simp) ?_
              refine BigFrame.allReadyIn_want (i := 6) rfl rfl (fun K hK => ?_) AllReadyIn.nil
              refine wpIn_append_of rfl rfl rfl hrun ?_
              refine hK _ _ ?_
              clear hK K
              refine wpAnyIn_ready (rs := [7]) (by kernel_rfl) (by simp) ?_
              refine AllReadyIn.cons rfl (fun K hK => ?_) AllReadyIn.nil
              go_simp
              refine hK _ _ ?_
              clear hK K
              refine wpAnyIn_done (by kernel_rfl) ?_ _
              exact HP.out _ rfl
            · skip
              go_simp
              refine hK _ _ ?_
              clear hK K
              refine wpAnyIn_ready (rs := [0]) (by kernel_rfl) (by simp) ?_
              refine AllReadyIn.cons rfl (fun K hK => ?_) AllReadyIn.nil
              go_simp
              refine hK _ _ ?_
              clear hK K
              refine wpAnyIn_ready (rs := [6]) (by kernel_rfl) (by simp) ?_
              refine BigFrame.allReadyIn_want (i := 6) rfl rfl (fun K hK => ?_) AllReadyIn.nil
              refine wpIn_append_of rfl rfl rfl hrun ?_
              refine hK _ _ ?_
              clear hK K
              refine wpAnyIn_ready (rs := [7]) (by kernel_rfl) (by simp) ?_
              refine AllReadyIn.cons rfl (fun K hK => ?_) AllReadyIn.nil
              go_simp
              refine hK _ _ ?_
              clear hK K
              refine wpAnyIn_done (by kernel_rfl) ?_ _
              exact HP.out _ rfl
  case done =>
    rintro D D' xs W hD hS ⟨bl, sz, u, hD', k0, k1, ho, hn⟩ hnD hK
    have c0 := k0.cell0 0
    simp only [List.getElem?_toArray, List.getElem?_cons_zero] at c0
    have hlen : xs.length = T.en p + 1 := by have := congrArg List.length hS; simpa using this
    have HP := Lib.hid (show ValPost T.toTr p v w (.returned u) (W.putObj D (.deferred none)) from ⟨Below.trans bl (below_put _ (by have := hx12.le; omega)), u, rfl, by
      have h := (ho.put (.deferred none) hK rfl).mono hx12.le
      rw [hlen, hS] at h; exact h⟩)
    clear k0 k1 ho hn hD' hS hlen hI0 bl
    gi_wp2
    refine ⟨by simp, .inl ⟨_, _, rfl, run_takeDeferred (ds := []) hK, ?_⟩⟩
    exact ⟨_, results_tmp (t := 4) rfl _ _ _, HP.out⟩
  case stop =>
    rintro D c pre W hD hpre hX hK
    exact hX.elim

end Go.Proofs.YtdplphoohnnbcaaGreatDoor

namespace Go.Proofs.YtdplphoohnnbcaaGreatDoor
open Go.RowKit Go.Shelf

set_option maxRecDepth 100000 in
set_option maxHeartbeats 1000000 in
theorem min_any (w : World) (g off n cap : Nat) (f : Nat → Int) (hn : 1 ≤ n) (hn2 : n ≤ 1000000) (hc : ∀ j, j < n → w.cell? ⟨g, off + j, none⟩ = some (.int .i64 (f j))) :
    Calls Tryz.prog 91 #[.slice (some ⟨g, off, none⟩) n cap] w fun e w' => w = w' ∧ ∃ x : Int, e = .returned (.int .i64 x) ∧ (∃ j, j < n ∧ f j = x) ∧ ∀ j, j < n → x ≤ f j := by
  have hc0 : w.cell? ⟨g, off, none⟩ = some (.int .i64 (f 0)) := by have := hc 0 (by omega); simpa using this
  have HC := Lib.hid hc
  clear hc
  obtain ⟨x0, hx0⟩ : ∃ x, x = f 0 := ⟨_, rfl⟩
  rw [← hx0] at hc0
  have HX := Lib.hid hx0
  clear hx0
  have hn' : ¬ (n : Int) < 1 := by omega
  have hn'' : ¬ n < 1 := by omega
  have hn3 : 0 < n := by omega
  go_enter Tryz.func91, Tryz.ntmps91
  go_wp2
  go_loop [3, 4] (fun v3 v4 => ∃ (k : Nat) (x : Int), 1 ≤ k ∧ k ≤ n ∧ v4 = .int .i64 k ∧ v3 = .int .i64 x ∧ (∃ j, j < k ∧ f j = x) ∧ ∀ j, j < k → x ≤ f j) (fun _ v4 => n - (intOf v4).toNat)
  case atStart => exact ⟨1, x0, by omega, by omega, rfl, rfl, ⟨0, by omega, HX.out.symm⟩, fun j hj => by rw [show j = 0 by omega, HX.out]; exact Int.le_refl _⟩
  case round =>
    obtain ⟨k, x, hk1, hk, rfl, rfl, hex, hall⟩ := hrel
    have HEX := Lib.hid hex
    have HALL := Lib.hid hall
    clear hex hall
    by_cases hlt : k < n
    · obtain ⟨y, hy⟩ : ∃ y, y = f k := ⟨_, rfl⟩
      have hck : w.cell? ⟨g, off + k, none⟩ = some (.int .i64 y) := by rw [hy]; exact HC.out k hlt
      have HY := Lib.hid hy
      clear hy
      go_wp2
      go_round
      case rel =>
        refine ⟨k + 1, _, by omega, by omega, by go_num, rfl, ?_, fun j hj => ?_⟩
        · by_cases e : y < x
          · exact ⟨k, by omega, by rw [if_pos e]; exact HY.out.symm⟩
          · obtain ⟨j, hj, e'⟩ := HEX.out
            exact ⟨j, by omega, by rw [if_neg e]; exact e'⟩
        · by_cases e : j = k
          · subst e; rw [← HY.out]; split <;> omega
          · have := HALL.out j (by omega); split <;> omega
      case measure => simp [intOf]; omega
    · have hke : k = n := by omega
      subst hke
      go_wp2
      go_ret
      exact ⟨rfl, x, rfl, HEX.out, HALL.out⟩
set_option maxRecDepth 100000 in
set_option maxHeartbeats 1000000 in
theorem max_any (w : World) (g off n cap : Nat) (f : Nat → Int) (hn : 1 ≤ n) (hn2 : n ≤ 1000000) (hc : ∀ j, j < n → w.cell? ⟨g, off + j, none⟩ = some (.int .i64 (f j))) :
    Calls Tryz.prog 92 #[.slice (some ⟨g, off, none⟩) n cap] w fun e w' => w = w' ∧ ∃ x : Int, e = .returned (.int .i64 x) ∧ (∃ j, j < n ∧ f j = x) ∧ ∀ j, j < n → f j ≤ x := by
  have hc0 : w.cell? ⟨g, off, none⟩ = some (.int .i64 (f 0)) := by have := hc 0 (by omega); simpa using this
  have HC := Lib.hid hc
  clear hc
  obtain ⟨x0, hx0⟩ : ∃ x, x = f 0 := ⟨_, rfl⟩
  rw [← hx0] at hc0
  have HX := Lib.hid hx0
  clear hx0
  have hn' : ¬ (n : Int) < 1 := by omega
  have hn'' : ¬ n < 1 := by omega
  have hn3 : 0 < n := by omega
  go_enter Tryz.func92, Tryz.ntmps92
  go_wp2
  go_loop [3, 4] (fun v3 v4 => ∃ (k : Nat) (x : Int), 1 ≤ k ∧ k ≤ n ∧ v4 = .int .i64 k ∧ v3 = .int .i64 x ∧ (∃ j, j < k ∧ f j = x) ∧ ∀ j, j < k → f j ≤ x) (fun _ v4 => n - (intOf v4).toNat)
  case atStart => exact ⟨1, x0, by omega, by omega, rfl, rfl, ⟨0, by omega, HX.out.symm⟩, fun j hj => by rw [show j = 0 by omega, HX.out]; exact Int.le_refl _⟩
  case round =>
    obtain ⟨k, x, hk1, hk, rfl, rfl, hex, hall⟩ := hrel
    have HEX := Lib.hid hex
    have HALL := Lib.hid hall
    clear hex hall
    by_cases hlt : k < n
    · obtain ⟨y, hy⟩ : ∃ y, y = f k := ⟨_, rfl⟩
      have hck : w.cell? ⟨g, off + k, none⟩ = some (.int .i64 y) := by rw [hy]; exact HC.out k hlt
      have HY := Lib.hid hy
      clear hy
      go_wp2
      go_round
      case rel =>
        refine ⟨k + 1, _, by omega, by omega, by go_num, rfl, ?_, fun j hj => ?_⟩
        · by_cases e : x < y
          · exact ⟨k, by omega, by rw [if_pos e]; exact HY.out.symm⟩
          · obtain ⟨j, hj, e'⟩ := HEX.out
            exact ⟨j, by omega, by rw [if_neg e]; exact e'⟩
        · by_cases e : j = k
          · subst e; rw [← HY.out]; split <;> omega
          · have := HALL.out j (by omega); split <;> omega
      case measure => simp [intOf]; omega
    · have hke : k = n := by omega
      subst hke
      go_wp2
      go_ret
      exact ⟨rfl, x, rfl, HEX.out, HALL.out⟩

set_option maxHeartbeats 400000 in
theorem index1_any (w : World) (s nm : ByteArray) (v1 : Value) (bx : Nat) (hc : w.cell? ⟨bx, 0, none⟩ = some (.string nm)) :
    Calls Tryz.prog 158 #[.agg #[.string s, v1], .pointer (some ⟨bx, 0, none⟩)] w fun e w' => e = .returned (.bool (strEq s nm)) ∧ Ext w w' := by
  have hlt := cell_lt hc
  dsimp only at hlt
  go_enter Tryz.func158, Tryz.ntmps158
  go_wp2
  go_ret
  exact ⟨ret_bool (by simp [strEq]), Ext.alloc _ _⟩
/-- the index of a variable; -1 if there is none -/
def Tr.varI (T : Tr) (p : Nat) (nm : ByteArray) : Int := idxI (fun v => strEq (T.vname p v) nm) (T.vn p)
theorem idxI_cases (p : Nat → Bool) (n : Nat) : (idxI p n = -1 ∧ ∀ i, i < n → p i = false) ∨ ∃ k, k < n ∧ p k = true ∧ idxI p n = (k : Int) := by
  rcases noneB_or_first p n with h | ⟨k, h1, h2, h3⟩
  · exact .inl ⟨idxI_none h, h⟩
  · exact .inr ⟨k, h1, h2, idxI_hit h1 h2 h3⟩
set_option maxRecDepth 100000 in
set_option maxHeartbeats 1000000 in
theorem index_any (w : World) (T : TM) (hT : T.At w) (p : Nat) (hp : p < T.n) (nm : ByteArray) :
    Calls Tryz.prog 145 #[T.pr p, .string nm] w fun e w' => e = .returned (.int .i64 (T.toTr.varI p nm)) ∧ Ext w w' := by
  have hvn := hT.V.hv p hp
  have HT := Lib.hid hT
  clear hT
  go_enter Tryz.func145, Tryz.ntmps145
  go_upto_region 1 with fail
  refine boxed2 (w := w) (G := fun x => Code.wp _ _ _ _ x) ?_
  intro w1 hx1 hs1 ⟨l0, c0, _, _⟩ ⟨l1, c1, _, _⟩
  have hx11 : Ext w1 w1 := Ext.refl _
  clear hs1
  have hI := idx_Var w1 (T.va p) (T.vb p) (T.vo p) (T.vn p) (T.vc p) (fun v => .string (T.vname p v)) (fun v => .int .i64 (T.vinit p v)) 158 #[.pointer (some ⟨w.heap.size + 1, 0, none⟩)] (fun v => strEq (T.vname p v) nm)
    hvn (fun h => HT.out.V.va p hp h) (fun w' h v hv => HT.out.V.v0 w' (hx1.trans h) p v hp hv) (fun w' h v hv => HT.out.V.v1 w' (hx1.trans h) p v hp hv) (enters_of Tryz.func158 (by kernel_rfl) rfl)
    (fun v hv w' h => index1_any w' _ nm _ _ (by exact c1 w' h 0))
  go_wp2_with fail
  go_at_call 133
  refine hI.mono ?_
  rintro e w2 ⟨rfl, hx2⟩
  have hx12 := hx1.trans hx2
  clear hI
  go_wp2_with fail
  go_ret
  exact ⟨rfl, hx12⟩
/-- what variable.find says: x the index, c the error -/
def Tr.VFindIs (T : Tr) (p : Int) (nm : ByteArray) (x c : Int) : Prop :=
  (¬ T.Valid ∧ x = 0 ∧ c = 1) ∨ (T.Valid ∧ ¬ (0 ≤ p ∧ p < T.n) ∧ x = 0 ∧ c = 2) ∨ (T.Valid ∧ 0 ≤ p ∧ p < T.n ∧ T.varI p.toNat nm = -1 ∧ x = 0 ∧ c = 13) ∨
    (T.Valid ∧ 0 ≤ p ∧ p < T.n ∧ ∃ v : Nat, v < T.vn p.toNat ∧ strEq (T.vname p.toNat v) nm = true ∧ T.varI p.toNat nm = v ∧ x = v ∧ c = 0)
def FindVPost (T : Tr) (p : Int) (nm : ByteArray) (w : World) (e : Ending) (w' : World) : Prop := Ext w w' ∧ ∃ x c : Int, e = .returned (.tuple #[.int .i64 x, .int .i64 c]) ∧ T.VFindIs p nm x c
set_option maxRecDepth 100000 in
set_option maxHeartbeats 1000000 in
theorem vfind_any (w : World) (T : TM) (hT : T.At w) (p : Int) (nm : ByteArray) :
    Calls Tryz.prog 121 #[T.val, .int .i64 p, .string nm] w (FindVPost T.toTr p nm w) := by
  have hn := hT.P.hn
  have HT := Lib.hid hT
  clear hT
  obtain ⟨ta, hta⟩ : ∃ a, a = T.a := ⟨_, rfl⟩
  have hV := fun W (h : Ext w W) => valid_any W T (HT.out.ext h)
  simp only [TM.val] at hV ⊢
  rw [← hta] at hV ⊢
  have HTA := Lib.hid hta
  have HVV := Lib.hid hV
  clear hta hV
  go_enter Tryz.func121, Tryz.ntmps121
  go_upto_region 1 with fail
  refine boxed1 (w := w) (G := fun x => Code.wp _ _ _ _ x) ?_
  intro w1 hx1 hs1 ⟨l0, c0, _, _⟩
  have hx11 : Ext w1 w1 := Ext.refl _
  clear hs1
  go_wp2_with fail
  go_at_call 27
  refine (HVV.out w1 hx1).mono ?_
  rintro e w2 ⟨b, rfl, hb, hx2⟩
  have HB := Lib.hid hb
  have hx02 := hx1.trans hx2
  clear hb
  cases b with
  | false =>
    have HN := Lib.hid (show ¬ T.toTr.Valid from fun h => by have := HB.out.2 h; cases this)
    clear HB
    go_wp2_with fail
    go_ret2
    exact ⟨hx02, 0, 1, rfl, .inl ⟨HN.out, rfl, rfl⟩⟩
  | true =>
    have HV := Lib.hid (HB.out.1 rfl)
    clear HB
    by_cases h0 : p < 0
    · have d0 : decide (p < 0) = true := decide_eq_true h0
      go_wp2_with fail
      go_ret2
      exact ⟨hx02, 0, 2, rfl, .inr (.inl ⟨HV.out, by omega, rfl, rfl⟩)⟩
    · have d0 : decide (p < 0) = false := decide_eq_false h0
      by_cases h1 : (T.n : Int) ≤ p
      · have d1 : decide ((T.n : Int) ≤ p) = true := decide_eq_true h1
        go_wp2_with fail
        go_ret2
        exact ⟨hx02, 0, 2, rfl, .inr (.inl ⟨HV.out, by omega, rfl, rfl⟩)⟩
      · obtain ⟨k, rfl⟩ : ∃ k : Nat, p = k := ⟨p.toNat, by omega⟩
        have hk : k < T.n := by omega
        have hk' : (k : Int) < (T.n : Int) := by omega
        have d1 : decide ((T.n : Int) ≤ (k : Int)) = false := decide_eq_false (by omega)
        have d1' : decide (T.n ≤ k) = false := decide_eq_false (by omega)
        have d2 : decide ((k : Int) < 0) = false := decide_eq_false (by omega)
        obtain rfl : ta = some ⟨T.b, T.off, none⟩ := by rw [HTA.out]; exact HT.out.P.pa (by omega)
        have pb := HT.out.P.pb (by omega)
        have p0 : ∀ w', Ext w w' → w'.cell? ⟨T.b, T.off + k * 3, none⟩ = some (.string (T.name k)) := fun w' h => HT.out.P.p0 w' h k hk
        have p1 : ∀ w', Ext w w' → w'.cell? ⟨T.b, T.off + k * 3 + 1, none⟩ = some (.slice (T.va k) (T.vn k) (T.vc k)) := fun w' h => HT.out.P.p1 w' h k hk
        have p2 : ∀ w', Ext w w' → w'.cell? ⟨T.b, T.off + k * 3 + 2, none⟩ = some (.slice (T.ea k) (T.en k) (T.ec k)) := fun w' h => HT.out.P.p2 w' h k hk
        have hI := index_any w2 T (HT.out.ext hx02) k hk nm
        clear h0 h1
        rcases idxI_cases (fun v => strEq (T.vname k v) nm) (T.vn k) with ⟨hn1, _⟩ | ⟨v, hv1, hv2, hv3⟩
        · have hi : T.toTr.varI k nm = -1 := hn1
          have HI := Lib.hid hi
          rw [hi] at hI
          clear hn1 hi
          go_wp2_with fail
          go_at_call 145
          refine hI.mono ?_
          rintro e w3 ⟨rfl, hx3⟩
          have hx03 := hx02.trans hx3
          clear hI
          go_wp2_with fail
          go_ret2
          exact ⟨hx03, 0, 13, rfl, .inr (.inr (.inl ⟨HV.out, by omega, by omega, HI.out, rfl, rfl⟩))⟩
        · have hi : T.toTr.varI k nm = v := hv3
          have HI := Lib.hid hi
          rw [hi] at hI
          have HV2 := Lib.hid hv2
          clear hv3 hi hv2
          go_wp2_with fail
          go_at_call 145
          refine hI.mono ?_
          rintro e w3 ⟨rfl, hx3⟩
          have hx03 := hx02.trans hx3
          clear hI
          go_wp2_with fail
          go_ret2
          exact ⟨hx03, v, 0, rfl, .inr (.inr (.inr ⟨HV.out, by omega, by omega, v, hv1, HV2.out, HI.out, rfl, rfl⟩))⟩

end Go.Proofs.YtdplphoohnnbcaaGreatDoor
