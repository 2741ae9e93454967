/- Contract of predtype.resolve: nodes with parts; all nodes. Contract of predtype.Resolve. -/
import Derived.Test.YtdplphoohnnbcaaDoorIw
import Derived.Test.YtdplphoohnnbcaaDoorHa
import Derived.Deep.LoopGhost
import Derived.Test.YtdplphoohnnbcaaDoorHu
namespace Go.Proofs.YtdplphoohnnbcaaDoor
open Go.RowKit Go.Shelf

theorem RowOwn.put6 {w : World} {g off n : Nat} {q : Nat → Pr} (h : RowOwn w g off n q) {i : Nat} (hi : i < n) (r : Pr) :
    RowOwn (Go.Proofs.YtdplphoohnnbcaaDoor.put6 w g (off + i * 6) (.int .i64 r.kind) (.int .i64 r.num) (.int .i64 r.proc) (.int .i64 r.peer) (.string r.name) (.slice r.a r.len r.cap)) g off n fun j => if j = i then r else q j := h.put hi r
/-- a node whose parts are turned -/
def Pr.withKids (p : Pr) (g off c : Nat) (q : Nat → Pr) : Pr := .mk p.kind p.num p.proc p.peer p.name (some ⟨g, off, none⟩) g off c p.len q
theorem Pr.withKids_held {p : Pr} {g off c : Nat} {q : Nat → Pr} {B : Nat} {w : World} (hf : p.Fine) (hc : p.len ≤ c) (hB : B ≤ g) (hr : RowOwn w g off p.len q) (hq : ∀ i, i < p.len → (q i).HeldFrom (g + 1) w) : (p.withKids g off c q).HeldFrom B w :=
  (Pr.All_eq _ _).2 ⟨⟨⟨hf.kindI, hf.numI, hf.procI, hf.peerI, hf.nameI, hf.hn, hc⟩, fun _ => ⟨rfl, hB, hr.lt, hr.at_⟩⟩, fun i hi => (hq i hi).mono (by omega)⟩
theorem Tr.can_kids {T : Tr} {p : Pr} (hk : ¬ (2 ≤ p.kind ∧ p.kind ≤ 4)) : T.Can p ↔ ∀ i, i < p.len → T.Can (p.kid i) := by
  constructor
  · exact fun h i hi => h.kid hi
  · exact fun h => (Pr.All_eq _ p).2 ⟨by unfold Tr.RsOk; rw [Tr.rsN_unnamed hk]; simp, h⟩
theorem Tr.rsv_kids {T : Tr} {p : Pr} (hk : ¬ (2 ≤ p.kind ∧ p.kind ≤ 4)) {g off c : Nat} {q : Nat → Pr} (h : ∀ i, i < p.len → T.Rsv (p.kid i) (q i)) : T.Rsv p (p.withKids g off c q) :=
  (Tr.Rsv_eq _ _ _).2 ⟨rfl, rfl, Tr.rsN_unnamed hk, rfl, h⟩
/-- the loop's state -/
structure RsS (T : TM) (p : Pr) (w wr : World) (g off c : Nat) (i : Nat) (ok : Bool) (q : Nat → Pr) : Prop where
  hx : Ext w wr
  ht : Hold wr w.heap.size #[.slice T.a T.n T.cap]
  hp : Hold wr (w.heap.size + 1) #[.int .i64 p.kind, .int .i64 p.num, .int .i64 p.proc, .int .i64 p.peer, .string p.name, .slice (some ⟨g, off, none⟩) p.len c]
  hr : Hold wr (w.heap.size + 1 + 1) #[.int .i64 0, .int .i64 0, .int .i64 0, .int .i64 0, .string ⟨#[]⟩, .slice none 0 0]
  row : RowOwn wr g off p.len q
  old : ∀ j, i ≤ j → j < p.len → q j = p.kid j
  new : ∀ j, j < i → (q j).HeldFrom (g + 1) wr
  can : ok = true ↔ ∀ j, j < i → T.toTr.Can (p.kid j)
  rsv : ok = true → ∀ j, j < i → T.toTr.Rsv (p.kid j) (q j)
theorem RsS.next {T : TM} {p : Pr} {w wr w5 : World} {g off c i : Nat} {ok b : Bool} {q : Nat → Pr} {r : Pr} (h : RsS T p w wr g off c i ok q) (hg : w.heap.size + 1 + 1 < g) (hi : i < p.len) (hx : Ext wr w5)
    (hh : r.HeldFrom wr.heap.size w5) (hc : b = true ↔ T.toTr.Can (p.kid i)) (hv : b = true → T.toTr.Rsv (p.kid i) r) :
    RsS T p w (Go.Proofs.YtdplphoohnnbcaaDoor.put6 w5 g (off + i * 6) (.int .i64 r.kind) (.int .i64 r.num) (.int .i64 r.proc) (.int .i64 r.peer) (.string r.name) (.slice r.a r.len r.cap)) g off c (i + 1) (ok && b) fun j => if j = i then r else q j := by
  refine ⟨(h.hx.trans hx).put6 (by omega) _ _ _ _ _ _ _, (h.ht.ext hx).put6 (by omega) _ _ _ _ _ _ _, (h.hp.ext hx).put6 (by omega) _ _ _ _ _ _ _, (h.hr.ext hx).put6 (by omega) _ _ _ _ _ _ _, (h.row.ext hx).put6 hi r, fun j h1 h2 => ?_, fun j hj => ?_, ?_, fun ho j hj => ?_⟩
  · rw [if_neg (by omega)]; exact h.old j (by omega) h2
  · by_cases e : j = i
    · rw [if_pos e]; exact (hh.mono (by have := h.row.lt; omega)).put6 (by omega) _ _ _ _ _ _ _
    · rw [if_neg e]; exact ((h.new j (by omega)).ext hx).put6 (by omega) _ _ _ _ _ _ _
  · rw [Bool.and_eq_true, h.can, hc]
    constructor
    · rintro ⟨h1, h2⟩ j hj
      by_cases e : j = i
      · subst e; exact h2
      · exact h1 j (by omega)
    · exact fun h1 => ⟨fun j hj => h1 j (by omega), h1 i (by omega)⟩
  · obtain ⟨h1, h2⟩ := Bool.and_eq_true_iff.1 ho
    by_cases e : j = i
    · subst e; rw [if_pos rfl]; exact hv h2
    · rw [if_neg e]; exact h.rsv h1 j (by omega)
theorem setw6 {w : World} {g o : Nat} {v0 v1 v2 v3 v4 v5 : Value} {G : World → Prop} (h : ∀ w7, w7 = put6 w g o v0 v1 v2 v3 v4 v5 → G w7) :
    G ((((((w.setCell ⟨g, o, none⟩ v0).setCell ⟨g, o + 1, none⟩ v1).setCell ⟨g, o + 2, none⟩ v2).setCell ⟨g, o + 3, none⟩ v3).setCell ⟨g, o + 4, none⟩ v4).setCell ⟨g, o + 5, none⟩ v5) := h _ rfl
set_option maxRecDepth 100000 in
set_option maxHeartbeats 4000000 in
theorem resolveN_any (w0 : World) (T : TM) (p : Pr) (hp : p.NodeAt w0) (h0 : 0 < p.len) (hl : p.len ≤ 1000) (hk : ¬ (2 ≤ p.kind ∧ p.kind ≤ 4)) (w : World) (hx : Ext w0 w)
    (ih : ∀ i, i < p.len → ∀ W, Ext w0 W → Calls Tryd.prog 44 #[T.val, (p.kid i).val] W (RslPost T.toTr (p.kid i) W)) :
    Calls Tryd.prog 44 #[T.val, p.val] w (RslPost T.toTr p w) := by
  have HN := Lib.hid (show namedB p.kind = false from by simp only [namedB, Bool.and_eq_false_iff, decide_eq_false_iff_not]; omega)
  have HF := Lib.hid hp.fine
  have HCK := Lib.hid (Tr.can_kids (T := T.toTr) hk)
  have HRK := Lib.hid (fun g off c q h => Tr.rsv_kids (T := T.toTr) (p := p) hk (g := g) (off := off) (c := c) (q := q) h)
  have HCL := Lib.hid (fun W (h : Ext w0 W) => clonep_any w0 W p hp h h0 hl)
  have HIH := Lib.hid ih
  simp only [Pr.val, TM.val]
  clear hp h0 hk ih
  go_enter Tryd.func44, Tryd.ntmps44
  go_upto_region 1 with fail
  refine boxed3 (w := w) (G := fun x => Code.wp _ _ _ _ x) ?_
  intro w1 hx1 hs1 ⟨l0, c0, f0, k0⟩ ⟨l1, c1, f1, k1⟩ ⟨l2, c2, f2, k2⟩
  have hx11 : Ext w1 w1 := Ext.refl _
  have HK0 := Lib.hid (show Hold w1 w.heap.size _ from k0)
  have HK1 := Lib.hid (show Hold w1 (w.heap.size + 1) _ from k1)
  have HK2 := Lib.hid (show Hold w1 (w.heap.size + 1 + 1) _ from k2)
  clear hs1 k0 k1 k2
  go_wp2_with fail
  go_at_call 69
  refine (named_any _ _).mono ?_
  rintro e w' ⟨rfl, rfl⟩
  rw [HN.out]
  go_wp2_with fail
  go_at_call 73
  refine (HCL.out _ (hx.trans hx1)).mono ?_
  rintro e w2 ⟨g, off, c', rfl, hg, hc', hown, hx2⟩
  have hg' : w.heap.size + 1 + 1 < g := Nat.lt_of_lt_of_le HK2.out.lt hg
  have hx22 : Ext w2 w2 := Ext.refl _
  have HT2 := Lib.hid (Hold.ext HK0.out hx2)
  have HP2 := Lib.hid (Hold.ext HK1.out hx2)
  have HR2 := Lib.hid (Hold.ext HK2.out hx2)
  have HOWN := Lib.hid hown
  have hxw2 := Ext.trans hx1 hx2
  obtain ⟨l6, c6, f6, _⟩ := HP2.out.box
  clear hown
  go_upto_region 17 with fail
  refine setw1 (w := w2) (G := fun x => Code.wp _ _ _ _ x) ?_
  intro w3 hw3
  have HS3 := Lib.hid (show RsS T p w w3 g off c' 0 true p.kid from by
    refine ⟨?_, ?_, ?_, ?_, ?_, fun _ _ _ => rfl, fun j hj => absurd hj (Nat.not_lt_zero _), ⟨fun _ j hj => absurd hj (Nat.not_lt_zero _), fun _ => rfl⟩, fun _ j hj => absurd hj (Nat.not_lt_zero _)⟩
    · rw [hw3]; exact hxw2.setCell (by show w.heap.size ≤ w.heap.size + 1; omega) _
    · rw [hw3]; exact HT2.out.other _ _ (by show w.heap.size ≠ w.heap.size + 1; omega)
    · rw [hw3]; simpa using HP2.out.set 5 _
    · rw [hw3]; exact HR2.out.other _ _ (by show w.heap.size + 1 + 1 ≠ w.heap.size + 1; omega)
    · rw [hw3]; exact HOWN.out.other _ _ (by show g ≠ w.heap.size + 1; omega))
  obtain ⟨l7, c7, f7, _⟩ := HS3.out.hp.box
  have hx33 : Ext w3 w3 := Ext.refl _
  clear hw3 l6 c6 f6 l0 c0 f0 l1 c1 f1 l2 c2 f2
  go_wp2_with fail
  go_loopg [6, 13, 14, 109] p.len (fun gg v6 v13 v14 v wr => ∃ (i : Nat) (ok : Bool) (q : Nat → Pr), i ≤ p.len ∧ gg = p.len - i ∧ v = .int .i64 i ∧ v6 = .bool ok ∧ (∃ u, v13 = u) ∧ (∃ u, v14 = u) ∧ RsS T p w wr g off c' i ok q)
  case atStart => exact ⟨0, true, p.kid, by omega, rfl, rfl, rfl, ⟨_, rfl⟩, ⟨_, rfl⟩, HS3.out⟩
  case round =>
    obtain ⟨i, ok, q, hi, rfl, rfl, rfl, ⟨u1, rfl⟩, ⟨u2, rfl⟩, hS⟩ := hrel
    have HS := Lib.hid hS
    have hxwr := hS.hx
    clear hS l7 c7 f7
    obtain ⟨lt, ct, _, _⟩ := HS.out.ht.box
    obtain ⟨lp, cp, fp, _⟩ := HS.out.hp.box
    obtain ⟨lr, cr, fr, _⟩ := HS.out.hr.box
    have hxrr : Ext wr wr := Ext.refl _
    by_cases hlt : i < p.len
    · have hlt' : (i : Int) < (p.len : Int) := by omega
      have hq : q i = p.kid i := HS.out.old i (Nat.le_refl _) hlt
      have hrow : ∀ w', Ext wr w' → ∀ c, c < 6 → w'.cell? ⟨g, off + i * 6 + c, none⟩ = some (cellOf (p.kid i) c) := fun w' h c hc => by rw [← hq]; exact (HS.out.row.at_.ext h) i hlt c hc
      have k0 : ∀ w', Ext wr w' → w'.cell? ⟨g, off + i * 6, none⟩ = some (.int .i64 (p.kid i).kind) := fun w' h => hrow w' h 0 (by decide)
      have k1 : ∀ w', Ext wr w' → w'.cell? ⟨g, off + i * 6 + 1, none⟩ = some (.int .i64 (p.kid i).num) := fun w' h => hrow w' h 1 (by decide)
      have k2 : ∀ w', Ext wr w' → w'.cell? ⟨g, off + i * 6 + 2, none⟩ = some (.int .i64 (p.kid i).proc) := fun w' h => hrow w' h 2 (by decide)
      have k3 : ∀ w', Ext wr w' → w'.cell? ⟨g, off + i * 6 + 3, none⟩ = some (.int .i64 (p.kid i).peer) := fun w' h => hrow w' h 3 (by decide)
      have k4 : ∀ w', Ext wr w' → w'.cell? ⟨g, off + i * 6 + 4, none⟩ = some (.string (p.kid i).name) := fun w' h => hrow w' h 4 (by decide)
      have k5 : ∀ w', Ext wr w' → w'.cell? ⟨g, off + i * 6 + 5, none⟩ = some (.slice (p.kid i).a (p.kid i).len (p.kid i).cap) := fun w' h => hrow w' h 5 (by decide)
      have kg : ∀ w', Ext wr w' → g < w'.heap.size := fun w' h => Nat.lt_of_lt_of_le HS.out.row.lt h.le
      have z0 : ∀ w', Ext wr w' → w'.frozen? ⟨g, off + i * 6, none⟩ = false := fun w' h => (HS.out.row.ext h).thaw (i * 6) (by omega)
      have z1 : ∀ w', Ext wr w' → w'.frozen? ⟨g, off + i * 6 + 1, none⟩ = false := fun w' h => by have := (HS.out.row.ext h).thaw (i * 6 + 1) (by omega); rw [← Nat.add_assoc] at this; exact this
      have z2 : ∀ w', Ext wr w' → w'.frozen? ⟨g, off + i * 6 + 2, none⟩ = false := fun w' h => by have := (HS.out.row.ext h).thaw (i * 6 + 2) (by omega); rw [← Nat.add_assoc] at this; exact this
      have z3 : ∀ w', Ext wr w' → w'.frozen? ⟨g, off + i * 6 + 3, none⟩ = false := fun w' h => by have := (HS.out.row.ext h).thaw (i * 6 + 3) (by omega); rw [← Nat.add_assoc] at this; exact this
      have z4 : ∀ w', Ext wr w' → w'.frozen? ⟨g, off + i * 6 + 4, none⟩ = false := fun w' h => by have := (HS.out.row.ext h).thaw (i * 6 + 4) (by omega); rw [← Nat.add_assoc] at this; exact this
      have z5 : ∀ w', Ext wr w' → w'.frozen? ⟨g, off + i * 6 + 5, none⟩ = false := fun w' h => by have := (HS.out.row.ext h).thaw (i * 6 + 5) (by omega); rw [← Nat.add_assoc] at this; exact this
      have hc := HIH.out i hlt wr.drew ((hx.trans hxwr).drew)
      simp only [Pr.val, TM.val] at hc
      have hxd : Ext wr wr.drew := (Ext.refl wr).drew
      clear hq hrow
      go_upto_region 21 with fail
      refine wp_region_held_drew (S := fun w' => Ext w w' ∧ Hold w' w.heap.size #[.slice T.a T.n T.cap] ∧ Hold w' (w.heap.size + 1) #[.int .i64 p.kind, .int .i64 p.num, .int .i64 p.proc, .int .i64 p.peer, .string p.name, .slice (some ⟨g, off, none⟩) p.len c']) (by kernel_rfl) ⟨hxwr.drew, HS.out.ht.drew, HS.out.hp.drew⟩ (fun hHeld => ?_)
      refine heldTake 0 (v := ?_) rfl (by kernel_rfl) (by kernel_rfl) (by kernel_rfl) (fun _ _ _ h => h) (Or.inl ⟨by rfl, ?_⟩) (by assumption) ?_
      rotate_left
      · (intro w' hSw; obtain ⟨hSa, hSb, hSc⟩ := hSw; obtain ⟨lS, cS, _, _⟩ := hSb.box; obtain ⟨lU, cU, _, _⟩ := hSc.box; have hSS := Ext.refl w'; go_simp; try with_reducible rfl)
      simp only [Act.put, List.setIfInBounds_toArray, List.set_cons_zero, List.set_cons_succ]
      refine heldTake 1 (v := ?_) rfl (by kernel_rfl) (by kernel_rfl) (by kernel_rfl) (fun _ _ _ h => h) (Or.inl ⟨by rfl, ?_⟩) (by assumption) ?_
      rotate_left
      · (intro w' hSw; obtain ⟨hSa, hSb, hSc⟩ := hSw; obtain ⟨lS, cS, _, _⟩ := hSb.box; obtain ⟨lU, cU, _, _⟩ := hSc.box; have hSS := Ext.refl w'; go_simp; try with_reducible rfl)
      simp only [Act.put, List.setIfInBounds_toArray, List.set_cons_zero, List.set_cons_succ]
      refine heldTake 2 (v := ?_) rfl (by kernel_rfl) (by kernel_rfl) (by kernel_rfl) (fun _ _ _ h => h) (Or.inl ⟨by rfl, ?_⟩) (by assumption) ?_
      rotate_left
      · (intro w' hSw; obtain ⟨hSa, hSb, hSc⟩ := hSw; obtain ⟨lS, cS, _, _⟩ := hSb.box; obtain ⟨lU, cU, _, _⟩ := hSc.box; have hSS := Ext.refl w'; go_simp; try with_reducible rfl)
      simp only [Act.put, List.setIfInBounds_toArray, List.set_cons_zero, List.set_cons_succ]
      refine heldTake 3 (v := ?_) rfl (by kernel_rfl) (by kernel_rfl) (by kernel_rfl) (fun _ _ _ h => h) (Or.inl ⟨by rfl, ?_⟩) (by assumption) ?_
      rotate_left
      · (intro w' hSw; obtain ⟨hSa, hSb, hSc⟩ := hSw; obtain ⟨lS, cS, _, _⟩ := hSb.box; obtain ⟨lU, cU, _, _⟩ := hSc.box; have hSS := Ext.refl w'; go_simp; try with_reducible rfl)
      simp only [Act.put, List.setIfInBounds_toArray, List.set_cons_zero, List.set_cons_succ]
      refine heldTake 4 (v := ?_) rfl (by kernel_rfl) (by kernel_rfl) (by kernel_rfl) (fun _ _ _ h => h) (Or.inl ⟨by rfl, ?_⟩) (by assumption) ?_
      rotate_left
      · (intro w' hSw; obtain ⟨hSa, hSb, hSc⟩ := hSw; obtain ⟨lS, cS, _, _⟩ := hSb.box; obtain ⟨lU, cU, _, _⟩ := hSc.box; have hSS := Ext.refl w'; go_simp; try with_reducible rfl)
      simp only [Act.put, List.setIfInBounds_toArray, List.set_cons_zero, List.set_cons_succ]
      refine heldTake 5 (v := ?_) rfl (by kernel_rfl) (by kernel_rfl) (by kernel_rfl) (fun _ _ _ h => h) (Or.inl ⟨by rfl, ?_⟩) (by assumption) ?_
      rotate_left
      · (intro w' hSw; obtain ⟨hSa, hSb, hSc⟩ := hSw; obtain ⟨lS, cS, _, _⟩ := hSb.box; obtain ⟨lU, cU, _, _⟩ := hSc.box; have hSS := Ext.refl w'; go_simp; try with_reducible rfl)
      simp only [Act.put, List.setIfInBounds_toArray, List.set_cons_zero, List.set_cons_succ]
      refine heldTake 6 (v := ?_) rfl (by kernel_rfl) (by kernel_rfl) (by kernel_rfl) (fun _ _ _ h => h) (Or.inl ⟨by rfl, ?_⟩) (by assumption) ?_
      rotate_left
      · (intro w' hSw; obtain ⟨hSa, hSb, hSc⟩ := hSw; obtain ⟨lS, cS, _, _⟩ := hSb.box; obtain ⟨lU, cU, _, _⟩ := hSc.box; have hSS := Ext.refl w'; go_simp; try with_reducible rfl)
      simp only [Act.put, List.setIfInBounds_toArray, List.set_cons_zero, List.set_cons_succ]
      refine heldTake 7 (v := ?_) rfl (by kernel_rfl) (by kernel_rfl) (by kernel_rfl) (fun _ _ _ h => h) (Or.inl ⟨by rfl, ?_⟩) (by assumption) ?_
      rotate_left
      · (intro w' hSw; obtain ⟨hSa, hSb, hSc⟩ := hSw; obtain ⟨lS, cS, _, _⟩ := hSb.box; obtain ⟨lU, cU, _, _⟩ := hSc.box; have hSS := Ext.refl w'; go_simp; try with_reducible rfl)
      simp only [Act.put, List.setIfInBounds_toArray, List.set_cons_zero, List.set_cons_succ]
      refine wpAnyH_ready (rs := [8]) (by kernel_rfl) (by simp) ?_
      refine AllReadyH.cons rfl (fun K hK => ?_) AllReadyH.nil
      go_simp
      refine hK.out _ _ ⟨hxwr.drew, HS.out.ht.drew, HS.out.hp.drew⟩ (fun hHeld2 => ?_)
      clear hK K
      refine wpAnyH_ready (rs := [9]) (by kernel_rfl) (by simp) ?_
      refine AllReadyH.cons rfl (fun K hK => ?_) AllReadyH.nil
      go_simp
      go_at_call 44
      refine hc.mono ?_
      rintro e w5 ⟨hx5, r, b, rfl, hh, hcan, hrsv⟩
      have hx15 : Ext wr w5 := hxd.trans hx5
      refine hK.out _ _ ⟨hxwr.trans hx15, HS.out.ht.ext hx15, HS.out.hp.ext hx15⟩ (fun hHeld2 => ?_)
      clear hK K
      have HN5 := Lib.hid (HS.out.next (b := b) hg' hlt hx15 hh hcan hrsv)
      have hx55 : Ext w5 w5 := Ext.refl _
      clear hc hh hcan hrsv
      refine heldTake 10 (v := ?_) rfl (by kernel_rfl) (by kernel_rfl) (by kernel_rfl) (fun _ _ _ h => h) (Or.inl ⟨by rfl, ?_⟩) (by assumption) ?_
      rotate_left
      · (intro w' hSw; obtain ⟨hSa, hSb, hSc⟩ := hSw; obtain ⟨lS, cS, _, _⟩ := hSb.box; obtain ⟨lU, cU, _, _⟩ := hSc.box; have hSS := Ext.refl w'; go_simp; try with_reducible rfl)
      simp only [Act.put, List.setIfInBounds_toArray, List.set_cons_zero, List.set_cons_succ]
      refine heldTake 11 (v := ?_) rfl (by kernel_rfl) (by kernel_rfl) (by kernel_rfl) (fun _ _ _ h => h) (Or.inl ⟨by rfl, ?_⟩) (by assumption) ?_
      rotate_left
      · (intro w' hSw; obtain ⟨hSa, hSb, hSc⟩ := hSw; obtain ⟨lS, cS, _, _⟩ := hSb.box; obtain ⟨lU, cU, _, _⟩ := hSc.box; have hSS := Ext.refl w'; go_simp; try with_reducible rfl)
      simp only [Act.put, List.setIfInBounds_toArray, List.set_cons_zero, List.set_cons_succ]
      refine heldTake 12 (v := ?_) rfl (by kernel_rfl) (by kernel_rfl) (by kernel_rfl) (fun _ _ _ h => h) (Or.inl ⟨by rfl, ?_⟩) (by assumption) ?_
      rotate_left
      · (intro w' hSw; obtain ⟨hSa, hSb, hSc⟩ := hSw; obtain ⟨lS, cS, _, _⟩ := hSb.box; obtain ⟨lU, cU, _, _⟩ := hSc.box; have hSS := Ext.refl w'; go_simp; try with_reducible rfl)
      simp only [Act.put, List.setIfInBounds_toArray, List.set_cons_zero, List.set_cons_succ]
      refine heldTake 13 (v := ?_) rfl (by kernel_rfl) (by kernel_rfl) (by kernel_rfl) (fun _ _ _ h => h) (Or.inl ⟨by rfl, ?_⟩) (by assumption) ?_
      rotate_left
      · (intro w' hSw; obtain ⟨hSa, hSb, hSc⟩ := hSw; obtain ⟨lS, cS, _, _⟩ := hSb.box; obtain ⟨lU, cU, _, _⟩ := hSc.box; have hSS := Ext.refl w'; go_simp; try with_reducible rfl)
      simp only [Act.put, List.setIfInBounds_toArray, List.set_cons_zero, List.set_cons_succ]
      refine wpAnyH_ready (rs := [14]) (by kernel_rfl) (by simp) ?_
      refine AllReadyH.cons rfl (fun K hK => ?_) AllReadyH.nil
      go_simp
      refine setw6 (w := w5) (g := g) (o := off + i * 6) (G := fun x => K _ x) ?_
      intro w6 hw6
      have HN6 := Lib.hid (show RsS T p w w6 g off c' (i + 1) (ok && b) _ from by rw [hw6]; exact HN5.out)
      refine hK.out _ _ ⟨HN6.out.hx, HN6.out.ht, HN6.out.hp⟩ (fun hHeld2 => ?_)
      clear hK K hw6
      refine heldTake 15 (v := ?_) rfl (by kernel_rfl) (by kernel_rfl) (by kernel_rfl) (fun _ _ _ h => h) (Or.inl ⟨by rfl, ?_⟩) (by assumption) ?_
      rotate_left
      · (intro w' hSw; obtain ⟨hSa, hSb, hSc⟩ := hSw; obtain ⟨lS, cS, _, _⟩ := hSb.box; obtain ⟨lU, cU, _, _⟩ := hSc.box; have hSS := Ext.refl w'; go_simp; try with_reducible rfl)
      simp only [Act.put, List.setIfInBounds_toArray, List.set_cons_zero, List.set_cons_succ]
      refine wpAnyH_done (by kernel_rfl) ?_ _
      have hx66 : Ext w6 w6 := Ext.refl _
      clear k0 k1 k2 k3 k4 k5 kg z0 z1 z2 z3 z4 z5 lt ct lp cp fp lr cr fr HN5
      cases ok with
      | false =>
        skip
        go_wp2_with fail
        go_roundg (p.len - (i + 1))
        case rel => exact ⟨i + 1, _, _, by omega, rfl, by go_num, rfl, ⟨_, rfl⟩, ⟨_, rfl⟩, HN6.out⟩
        case measure => omega
      | true =>
        cases b with
        | false =>
          skip
          go_wp2_with fail
          go_roundg (p.len - (i + 1))
          case rel => exact ⟨i + 1, _, _, by omega, rfl, by go_num, rfl, ⟨_, rfl⟩, ⟨_, rfl⟩, HN6.out⟩
          case measure => omega
        | true =>
          skip
          go_wp2_with fail
          go_roundg (p.len - (i + 1))
          case rel => exact ⟨i + 1, _, _, by omega, rfl, by go_num, rfl, ⟨_, rfl⟩, ⟨_, rfl⟩, HN6.out⟩
          case measure => omega
    · have hie : i = p.len := by omega
      subst hie
      go_wp2_with fail
      have hk9 := Hold.all6 HS.out.hr (.int .i64 p.kind) (.int .i64 p.num) (.int .i64 p.proc) (.int .i64 p.peer) (.string p.name) (.slice (some ⟨g, off, none⟩) p.len c')
      refine bodyPost_ret (rsl_results _ _ (w.heap.size + 1 + 1) _ _ _ _ _ _ _ rfl rfl (hk9.cell0 0) (hk9.cell0 1) (hk9.cell0 2) (hk9.cell0 3) (hk9.cell0 4) (hk9.cell0 5)) rfl ?_
      exact ⟨hxwr.put6 (by omega) 0 _ _ _ _ _ _, p.withKids g off c' q, ok, rfl, Pr.withKids_held HF.out hc' (by omega) (HS.out.row.same (Nat.le_of_eq (put6_size ..).symm) (put6_other _ _ _ _ _ _ _ _ _ _ (by omega))) (fun j hj => (HS.out.new j hj).put6 (by omega) _ _ _ _ _ _ _), HS.out.can.trans HCK.out.symm, fun h => HRK.out _ _ _ _ (HS.out.rsv h)⟩
theorem partsI_zero {k : Int} (h : 2 ≤ k ∧ k ≤ 4) : partsI k = 0 := by
  have : k = 2 ∨ k = 3 ∨ k = 4 := by omega
  rcases this with rfl | rfl | rfl <;> decide
theorem resolve_any (w0 : World) (T : TM) (hT : T.At w0) : ∀ p : Pr, p.All Pr.NodeOk → p.At w0 → ∀ w, Ext w0 w → Calls Tryd.prog 44 #[T.val, p.val] w (RslPost T.toTr p w) := by
  intro p
  induction p using Pr.ind with
  | h p ih =>
    intro hn hp w hx
    have hlen : (p.len : Int) = partsI p.kind := hn.here.2.2.1
    have h2 := partsI_le2 p.kind
    by_cases hk : 2 ≤ p.kind ∧ p.kind ≤ 4
    · have h0 : p.len = 0 := by rw [partsI_zero hk] at hlen; omega
      by_cases hq : p.proc = 0 ∧ p.peer = 0
      · have : p.kind = 2 ∨ p.kind = 3 ∨ p.kind = 4 := by omega
        rcases this with h | h | h
        · exact resolve2_any w0 T hT p hp.here h0 h hq w hx
        · exact resolve3_any w0 T hT p hp.here h0 h hq w hx
        · exact resolve4_any w0 T hT p hp.here h0 h hq w hx
      · exact resolveX_any w0 T p hp.here h0 hk hq w
    · by_cases h0 : p.len = 0
      · exact resolveU_any w0 T p hp.here h0 hk w
      · exact resolveN_any w0 T p hp.here (by omega) (by omega) hk w hx fun i hi W h => ih i hi (hn.kid hi) (hp.kid hi) W h

end Go.Proofs.YtdplphoohnnbcaaDoor

namespace Go.Proofs.YtdplphoohnnbcaaDoor
open Go.RowKit Go.Shelf

/-- the resolved tree, or an error -/
def Tr.ResIs (T : Tr) (p q : Pr) (c : Int) : Prop :=
  (¬ (T.Valid ∧ p.Formed) ∧ c = 1 ∧ Pr.nil.Like q) ∨ (T.Valid ∧ p.Formed ∧ ¬ T.Can p ∧ c = 13 ∧ Pr.nil.Like q) ∨ (T.Valid ∧ p.Formed ∧ T.Can p ∧ ¬ p.Typed ∧ c = 14 ∧ Pr.nil.Like q) ∨
    (T.Valid ∧ p.Formed ∧ T.Can p ∧ p.Typed ∧ (∃ r, T.Rsv p r ∧ ¬ T.SmallP r) ∧ c = 9 ∧ Pr.nil.Like q) ∨ (T.Valid ∧ p.Formed ∧ T.Can p ∧ p.Typed ∧ T.Rsv p q ∧ T.SmallP q ∧ c = 0)
def ResPost (T : Tr) (p : Pr) (w : World) (e : Ending) (w' : World) : Prop := Ext w w' ∧ ∃ (q : Pr) (c : Int), e = .returned (.tuple #[q.val, .int .i64 c]) ∧ q.At w' ∧ T.ResIs p q c
theorem rs_results (tmps : Array Value) (W : World) (b : Nat) (x0 x1 x2 x3 x4 x5 v : Value) (t4 : tmps[4]? = some (.pointer (some ⟨b, 0, none⟩))) (t5 : tmps[5]? = some v)
    (c0 : W.cell? ⟨b, 0, none⟩ = some x0) (c1 : W.cell? ⟨b, 1, none⟩ = some x1) (c2 : W.cell? ⟨b, 2, none⟩ = some x2) (c3 : W.cell? ⟨b, 3, none⟩ = some x3) (c4 : W.cell? ⟨b, 4, none⟩ = some x4) (c5 : W.cell? ⟨b, 5, none⟩ = some x5) :
    (results Tryd.f20 tmps).run Tryd.prog W = .ok (.tuple #[.agg #[x0, x1, x2, x3, x4, x5], v]) W := by
  simp [results, Tryd.results20, go_sem, t4, t5, c0, c1, c2, c3, c4, c5]
def zeroQ : Pr := Pr.leafQ 0 0 0 0 ⟨#[]⟩ none 0
theorem zeroQ_like : Pr.nil.Like zeroQ := ⟨rfl, rfl, rfl, rfl, rfl, rfl⟩
theorem zeroQ_at (w : World) : zeroQ.At w := (Pr.leafQ_held ok0' ok0' ok0' ok0' (Nat.zero_le _) 0 w).lies
set_option maxRecDepth 100000 in
set_option maxHeartbeats 4000000 in
theorem pResolve_any (w : World) (hTab : TabAt w) (T : TM) (hT : T.At w) (p : Pr) (hpa : p.At w) : Calls Tryd.prog 20 #[T.val, p.val] w (ResPost T.toTr p w) := by
  have hV := fun W (h : Ext w W) => valid_any W T (hT.ext h)
  have hF := fun W (h : Ext w W) => formed_any' W (hTab.ext h) p (hpa.ext h)
  have hR := fun hn W (h : Ext w W) => resolve_any w T hT p hn hpa W h
  have hTy := fun (q : Pr) W (h : q.At W) => ptyped_any W q h
  have hS := fun (q : Pr) W (h : Ext w W) hv hq (ha : q.At W) W' (h' : Ext W W') => psmall_any W T (hT.ext h) hv q hq ha W' h'
  simp only [Pr.val, TM.val] at hV hF hR hTy hS ⊢
  have HV := Lib.hid hV
  have HF := Lib.hid hF
  have HR := Lib.hid hR
  have HTy := Lib.hid hTy
  have HS := Lib.hid hS
  clear hV hF hR hTy hS hT hpa hTab
  go_enter Tryd.func20, Tryd.ntmps20
  go_upto_region 1 with fail
  refine boxed3 (w := w) (G := fun x => Code.wp _ _ _ _ x) ?_
  intro w1 hx1 hs1 ⟨l0, c0, f0, k0⟩ ⟨l1, c1, f1, k1⟩ ⟨l2, c2, f2, k2⟩
  have hx11 : Ext w1 w1 := Ext.refl _
  have HK2 := Lib.hid (show Hold w1 (w.heap.size + 1 + 1) #[.int .i64 0, .int .i64 0, .int .i64 0, .int .i64 0, .string ⟨#[]⟩, .slice none 0 0] from k2)
  clear hs1 k0 k1 k2
  go_wp2_with fail
  go_at_call 43
  refine (HV.out _ hx1).mono ?_
  rintro e w2 ⟨b, rfl, hb, hxn⟩
  have HB := Lib.hid hb
  have hx2 := Ext.trans hx11 hxn
  clear hb hxn
  cases b with
  | false =>
    have HN := Lib.hid (show ¬ T.toTr.Valid from fun h => by have := HB.out.2 h; cases this)
    clear HB
    go_wp2_with fail
    have hk9 := Hold.all6 (Hold.ext HK2.out hx2) (.int .i64 0) (.int .i64 0) (.int .i64 0) (.int .i64 0) (.string ⟨#[]⟩) (.slice none 0 0)
    refine bodyPost_ret (rs_results _ _ (w.heap.size + 1 + 1) _ _ _ _ _ _ _ rfl rfl (hk9.cell0 0) (hk9.cell0 1) (hk9.cell0 2) (hk9.cell0 3) (hk9.cell0 4) (hk9.cell0 5)) rfl ?_
    exact ⟨(hx1.trans hx2).put6 (by omega) 0 _ _ _ _ _ _, zeroQ, 1, rfl, zeroQ_at _, (.inl ⟨fun h => HN.out h.1, rfl, zeroQ_like⟩)⟩
  | true =>
    have HVV := Lib.hid (HB.out.1 rfl)
    clear HB
    go_wp2_with fail
    go_at_call 31
    refine (HF.out _ (hx1.trans hx2)).mono ?_
    rintro e w3 ⟨b, rfl, hb, hxn⟩
    have HB := Lib.hid hb
    have hx3 := Ext.trans hx2 hxn
    clear hb hxn
    cases b with
    | false =>
      have HN := Lib.hid (show ¬ p.Formed from fun h => by have := HB.out.2 h; cases this)
      clear HB
      go_wp2_with fail
      have hk9 := Hold.all6 (Hold.ext HK2.out hx3) (.int .i64 0) (.int .i64 0) (.int .i64 0) (.int .i64 0) (.string ⟨#[]⟩) (.slice none 0 0)
      refine bodyPost_ret (rs_results _ _ (w.heap.size + 1 + 1) _ _ _ _ _ _ _ rfl rfl (hk9.cell0 0) (hk9.cell0 1) (hk9.cell0 2) (hk9.cell0 3) (hk9.cell0 4) (hk9.cell0 5)) rfl ?_
      exact ⟨(hx1.trans hx3).put6 (by omega) 0 _ _ _ _ _ _, zeroQ, 1, rfl, zeroQ_at _, (.inl ⟨fun h => HN.out h.2, rfl, zeroQ_like⟩)⟩
    | true =>
      have HFF := Lib.hid (HB.out.1 rfl)
      clear HB
      go_wp2_with fail
      go_at_call 44
      refine (HR.out HFF.out.2.2 _ (hx1.trans hx3)).mono ?_
      rintro e w4 ⟨hx4, r, ok, rfl, hheld, hcan, hrsv⟩
      have hx14 := hx3.trans hx4
      have HH := Lib.hid hheld
      have HC := Lib.hid hcan
      have HRV := Lib.hid hrsv
      have HB2 := Lib.hid (show w.heap.size + 1 + 1 < w3.heap.size from (Hold.ext HK2.out hx3).lt)
      clear hheld hcan hrsv
      go_upto_region 4 with fail
      refine boxed1 (w := w4) (G := fun x => Code.wp _ _ _ _ x) ?_
      intro w5 hx5 hs5 ⟨l5, c5, f5, _⟩
      have hx55 : Ext w5 w5 := Ext.refl _
      have hx15 := hx14.trans hx5
      have HA5 := Lib.hid (HH.out.ext hx5)
      clear hs5
      cases ok with
      | false =>
        have HN := Lib.hid (show ¬ T.toTr.Can p from fun h => by have := HC.out.2 h; cases this)
        clear HC HRV
        go_wp2_with fail
        have hk9 := Hold.all6 (Hold.ext HK2.out hx15) (.int .i64 0) (.int .i64 0) (.int .i64 0) (.int .i64 0) (.string ⟨#[]⟩) (.slice none 0 0)
        refine bodyPost_ret (rs_results _ _ (w.heap.size + 1 + 1) _ _ _ _ _ _ _ rfl rfl (hk9.cell0 0) (hk9.cell0 1) (hk9.cell0 2) (hk9.cell0 3) (hk9.cell0 4) (hk9.cell0 5)) rfl ?_
        exact ⟨(hx1.trans hx15).put6 (by omega) 0 _ _ _ _ _ _, zeroQ, 13, rfl, zeroQ_at _, (.inr (.inl ⟨HVV.out, HFF.out, HN.out, rfl, zeroQ_like⟩))⟩
      | true =>
        have HC1 := Lib.hid (HC.out.1 rfl)
        have HR1 := Lib.hid (HRV.out rfl)
        clear HC HRV
        go_wp2_with fail
        go_at_call 32
        refine (HTy.out r _ HA5.out.lies).mono ?_
        rintro e w6 ⟨b, rfl, hb, hxn⟩
        have HB := Lib.hid hb
        have hx6 := Ext.trans hx55 hxn
        clear hb hxn
        have hx16 := hx15.trans hx6
        cases b with
        | false =>
          have HN := Lib.hid (show ¬ p.Typed from fun h => by have := HB.out.2 (HR1.out.typed.2 h); cases this)
          clear HB
          go_wp2_with fail
          have hk9 := Hold.all6 (Hold.ext HK2.out hx16) (.int .i64 0) (.int .i64 0) (.int .i64 0) (.int .i64 0) (.string ⟨#[]⟩) (.slice none 0 0)
          refine bodyPost_ret (rs_results _ _ (w.heap.size + 1 + 1) _ _ _ _ _ _ _ rfl rfl (hk9.cell0 0) (hk9.cell0 1) (hk9.cell0 2) (hk9.cell0 3) (hk9.cell0 4) (hk9.cell0 5)) rfl ?_
          exact ⟨(hx1.trans hx16).put6 (by omega) 0 _ _ _ _ _ _, zeroQ, 14, rfl, zeroQ_at _, (.inr (.inr (.inl ⟨HVV.out, HFF.out, HC1.out, HN.out, rfl, zeroQ_like⟩)))⟩
        | true =>
          have HTT := Lib.hid (HR1.out.typed.1 (HB.out.1 rfl))
          clear HB
          go_wp2_with fail
          go_at_call 45
          refine (HS.out r w6 (hx1.trans hx16) HVV.out (Pr.All.and3 (HR1.out.nodes HFF.out.2.2) HR1.out.res (HR1.out.typed.2 HTT.out)) (HA5.out.ext hx6).lies _ (Ext.refl _)).mono ?_
          rintro e w7 ⟨b, rfl, hb, hxn⟩
          have HB := Lib.hid hb
          have hx7 := Ext.trans hx6 hxn
          clear hb hxn
          have hx17 := hx15.trans hx7
          cases b with
          | false =>
            have HN := Lib.hid (show ¬ T.toTr.SmallP r from fun h => by have := HB.out.2 h; cases this)
            clear HB
            go_wp2_with fail
            have hk9 := Hold.all6 (Hold.ext HK2.out hx17) (.int .i64 0) (.int .i64 0) (.int .i64 0) (.int .i64 0) (.string ⟨#[]⟩) (.slice none 0 0)
            refine bodyPost_ret (rs_results _ _ (w.heap.size + 1 + 1) _ _ _ _ _ _ _ rfl rfl (hk9.cell0 0) (hk9.cell0 1) (hk9.cell0 2) (hk9.cell0 3) (hk9.cell0 4) (hk9.cell0 5)) rfl ?_
            exact ⟨(hx1.trans hx17).put6 (by omega) 0 _ _ _ _ _ _, zeroQ, 9, rfl, zeroQ_at _, (.inr (.inr (.inr (.inl ⟨HVV.out, HFF.out, HC1.out, HTT.out, ⟨r, HR1.out, HN.out⟩, rfl, zeroQ_like⟩))))⟩
          | true =>
            have HSS := Lib.hid (HB.out.1 rfl)
            clear HB
            go_wp2_with fail
            have hk9 := Hold.all6 (Hold.ext HK2.out hx17) (.int .i64 r.kind) (.int .i64 r.num) (.int .i64 r.proc) (.int .i64 r.peer) (.string r.name) (.slice r.a r.len r.cap)
            refine bodyPost_ret (rs_results _ _ (w.heap.size + 1 + 1) _ _ _ _ _ _ _ rfl rfl (hk9.cell0 0) (hk9.cell0 1) (hk9.cell0 2) (hk9.cell0 3) (hk9.cell0 4) (hk9.cell0 5)) rfl ?_
            exact ⟨(hx1.trans hx17).put6 (by omega) 0 _ _ _ _ _ _, r, 0, rfl, ((HA5.out.ext hx7).put6 HB2.out _ _ _ _ _ _ _).lies, .inr (.inr (.inr (.inr ⟨HVV.out, HFF.out, HC1.out, HTT.out, HR1.out, HSS.out, rfl⟩)))⟩

end Go.Proofs.YtdplphoohnnbcaaDoor
