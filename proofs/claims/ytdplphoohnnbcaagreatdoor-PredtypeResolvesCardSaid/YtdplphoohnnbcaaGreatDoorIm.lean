/- A trace without faults of the first four sorts; contract of antecederef12: Directly. -/
import Derived.Test.YtdplphoohnnbcaaGreatDoorIl
import Derived.Test.YtdplphoohnnbcaaGreatDoorId
namespace Go.Proofs.YtdplphoohnnbcaaGreatDoor
open Go.RowKit Go.Shelf

/-- all but the last condition of a valid trace -/
structure Tr.Pre (T : Tr) : Prop where
  n1 : 1 ≤ T.n
  n8 : T.n ≤ 8
  pr : ∀ k, k < T.n → T.PrOk k
  ev : ∀ k i, k < T.n → i < T.en k → T.EvOk k i
  msg : T.OkList T.evs
/-- no event happens before itself -/
def Tr.Acy (T : Tr) : Prop := ¬ ∃ x : T.Id, Path (T.succ (Ltr.of T T.evs)) x.1 x.1
theorem Tr.valid_iff {T : Tr} : T.Valid ↔ T.Pre ∧ T.Acy := ⟨fun h => ⟨⟨h.n1, h.n8, h.pr, h.ev, h.msg⟩, h.acy⟩, fun ⟨h, k⟩ => ⟨h.n1, h.n8, h.pr, h.ev, h.msg, k⟩⟩
theorem Tr.Pre.formed {T : Tr} (h : T.Pre) (x : T.Id) : FormedP T x.1.1 (T.kind x.1.1 x.1.2) (T.peer x.1.1 x.1.2) (T.msg x.1.1 x.1.2) := (h.ev x.1.1 x.1.2 x.2.1 x.2.2).1
theorem Tr.Pre.uniq2 {T : Tr} (h : T.Pre) {x y : T.Id} (hx : T.kind x.1.1 x.1.2 = 2) (hy : T.kind y.1.1 y.1.2 = 2) (hm : T.msg x.1.1 x.1.2 = T.msg y.1.1 y.1.2) : x = y := by
  have key : ∀ (x y : T.Id) pre, pre ++ [y] <+: T.evs → x ∈ pre → T.kind x.1.1 x.1.2 = 2 → T.kind y.1.1 y.1.2 = 2 → T.msg x.1.1 x.1.2 = T.msg y.1.1 y.1.2 → False := by
    intro x y pre hp hx h1 h2 h3
    have hn := (h.msg pre y hp).1 h2
    have := Ltr.of_fi h.formed pre Ltr.zero (T.msg y.1.1 y.1.2).toNat (.inr ⟨x, hx, h1, by rw [h3]; rcases h.formed y with h | h <;> omega⟩)
    unfold Ltr.of at hn; omega
  refine Classical.byContradiction fun hne => ?_
  rcases two_places (evs_all x) (evs_all y) hne with ⟨pre, hp, hi⟩ | ⟨pre, hp, hi⟩
  · exact key x y pre hp hi hx hy hm
  · exact key y x pre hp hi hy hx hm.symm
theorem Tr.Pre.uniq3 {T : Tr} (h : T.Pre) {x y : T.Id} (hx : T.kind x.1.1 x.1.2 = 3) (hy : T.kind y.1.1 y.1.2 = 3) (hm : T.msg x.1.1 x.1.2 = T.msg y.1.1 y.1.2) : x = y := by
  have key : ∀ (x y : T.Id) pre, pre ++ [y] <+: T.evs → x ∈ pre → T.kind x.1.1 x.1.2 = 3 → T.kind y.1.1 y.1.2 = 3 → T.msg x.1.1 x.1.2 = T.msg y.1.1 y.1.2 → False := by
    intro x y pre hp hx h1 h2 h3
    have hn := ((h.msg pre y hp).2 h2).1
    have := Ltr.of_ti h.formed pre Ltr.zero (T.msg y.1.1 y.1.2).toNat (.inr ⟨x, hx, h1, by rw [h3]; rcases h.formed y with h | h <;> omega⟩)
    unfold Ltr.of at hn; omega
  refine Classical.byContradiction fun hne => ?_
  rcases two_places (evs_all x) (evs_all y) hne with ⟨pre, hp, hi⟩ | ⟨pre, hp, hi⟩
  · exact key x y pre hp hi hx hy hm
  · exact key y x pre hp hi hy hx hm.symm
theorem Tr.Pre.snd_ex {T : Tr} (h : T.Pre) (x : T.Id) (hx : T.kind x.1.1 x.1.2 = 3) : ∃ y, T.Snd x y := by
  obtain ⟨a, b, e⟩ := List.append_of_mem (evs_all x)
  have hs := ((h.msg a x ⟨b, by rw [e]; simp⟩).2 hx).2
  obtain ⟨i, hi, hp⟩ := anyB_iff.1 hs
  simp only [Bool.and_eq_true, decide_eq_true_eq] at hp
  have hpeer : (T.peer x.1.1 x.1.2).toNat < T.n := by rcases h.formed x with h | h <;> omega
  exact ⟨⟨((T.peer x.1.1 x.1.2).toNat, i), hpeer, hi⟩, hx, hp.1.1, hp.1.2⟩
theorem Tr.Pre.snd {T : Tr} (h : T.Pre) (x : T.Id) (hx : T.kind x.1.1 x.1.2 = 3) : T.Snd x (T.snd x) := by
  have he := h.snd_ex x hx
  unfold Tr.snd
  rw [dif_pos he]; exact Classical.choose_spec he
theorem Tr.Pre.snd_eq {T : Tr} (h : T.Pre) {x y : T.Id} (hy : T.Snd x y) : T.snd x = y := by
  have hs := h.snd x hy.1
  exact h.uniq2 hs.2.1 hy.2.1 (hs.2.2.trans hy.2.2.symm)
theorem Tr.Pre.letter {T : Tr} (h : T.Pre) (y : T.Id) (hy : T.kind y.1.1 y.1.2 = 3) : (Ltr.of T T.evs).tp (T.msg y.1.1 y.1.2).toNat = y.1.1 ∧ (Ltr.of T T.evs).ti (T.msg y.1.1 y.1.2).toNat = y.1.2 + 1 := by
  have hf := h.formed y
  have hp := Ltr.of_ti h.formed T.evs Ltr.zero (T.msg y.1.1 y.1.2).toNat (.inr ⟨y, evs_all y, hy, by rcases hf with h | h <;> omega⟩)
  rcases Ltr.of_from T.evs Ltr.zero (T.msg y.1.1 y.1.2).toNat with ⟨h1, _⟩ | ⟨x, _, k3, hm, h1, h2⟩
  · rw [h1] at hp; exact absurd hp (by simp [Ltr.zero])
  · have hfx := h.formed x
    have : x = y := h.uniq3 k3 hy (by rcases hf with h | h <;> rcases hfx with h' | h' <;> omega)
    subst this; exact ⟨h1, h2⟩
theorem Tr.Pre.sndN {T : Tr} (h : T.Pre) {y : NN} (hy : T.V y) (k3 : T.kind y.1 y.2 = 3) : T.kind (T.sndN y).1 (T.sndN y).2 = 2 ∧ T.msg (T.sndN y).1 (T.sndN y).2 = T.msg y.1 y.2 := by
  have := T.sndN_eq ⟨y, hy⟩
  simp only at this
  rw [this]; exact (h.snd ⟨y, hy⟩ k3).2
theorem Tr.Pre.dir_succ {T : Tr} (h : T.Pre) {x y : NN} (hy : T.V y) (hd : T.Dir x y) : y ∈ T.succ (Ltr.of T T.evs) x := by
  unfold Tr.succ
  rcases hd with ⟨h1, h2⟩ | ⟨k3, he⟩
  · have hlt : x.2 + 1 < T.en x.1 := by rw [← h1, ← h2]; exact hy.2
    rw [if_pos hlt]
    exact List.mem_append_left _ (List.mem_singleton.2 (Prod.ext h1 h2))
  · subst he
    obtain ⟨k2, hm⟩ := h.sndN hy k3
    have hl := h.letter ⟨y, hy⟩ k3
    simp only at hl
    rw [hm]
    refine List.mem_append_right _ ?_
    rw [if_pos ⟨k2, by rw [hl.2]; omega⟩, hl.1, hl.2]
    refine List.mem_singleton.2 (Prod.ext ?_ ?_)
    · simp
    · simp
theorem Tr.Pre.succ_dir {T : Tr} (h : T.Pre) {x y : NN} (hx : T.V x) (hy : y ∈ T.succ (Ltr.of T T.evs) x) : T.Dir x y ∧ T.V y := by
  unfold Tr.succ at hy
  rcases List.mem_append.1 hy with hy | hy
  · split at hy
    · next hl => simp at hy; subst hy; exact ⟨.inl ⟨rfl, rfl⟩, hx.1, hl⟩
    · cases hy
  · split at hy
    · next hc =>
      simp at hy
      rcases Ltr.of_from T.evs Ltr.zero (T.msg x.1 x.2).toNat with ⟨h1, _⟩ | ⟨z, _, h2, h3, h4, h5⟩
      · have : (Ltr.of T T.evs).ti (T.msg x.1 x.2).toNat = 0 := h1
        omega
      · have h4 : (Ltr.of T T.evs).tp (T.msg x.1 x.2).toNat = z.1.1 := h4
        have h5 : (Ltr.of T T.evs).ti (T.msg x.1 x.2).toNat = z.1.2 + 1 := h5
        have hyz : y = z.1 := by
          rw [hy, h4, h5]; exact Prod.ext (by simp) (by show ((z.1.2 : Int) + 1).toNat - 1 = z.1.2; omega)
        have hm : T.msg x.1 x.2 = T.msg z.1.1 z.1.2 := by
          have f1 := h.formed ⟨x, hx⟩
          have f2 := h.formed z
          have f1 : FormedP T x.1 (T.kind x.1 x.2) (T.peer x.1 x.2) (T.msg x.1 x.2) := f1
          rcases f1 with a | a <;> rcases f2 with b | b <;> omega
        have hs : T.snd z = ⟨x, hx⟩ := h.snd_eq ⟨h2, hc.1, hm⟩
        rw [hyz]
        refine ⟨.inr ⟨h2, ?_⟩, z.2⟩
        rw [T.sndN_eq z, hs]
    · cases hy
theorem Tr.Pre.first_snd {T : Tr} (h : T.Pre) (x : T.Id) (hx : T.kind x.1.1 x.1.2 = 3) : T.firstR 2 (T.msg x.1.1 x.1.2) = evI (T.snd x).1 := by
  have hs := h.snd x hx
  have hso : (T.firstOf 2 (T.msg x.1.1 x.1.2)).isSome = true := by
    unfold Tr.firstOf; rw [List.find?_isSome]; exact ⟨T.snd x, evs_all _, by simp [hs.2.1, hs.2.2]⟩
  obtain ⟨z, hz⟩ := Option.isSome_iff_exists.1 hso
  have hp := List.find?_some hz
  simp at hp
  have : z = T.snd x := h.uniq2 hp.1 hs.2.1 (hp.2.trans hs.2.2.symm)
  unfold Tr.firstR; rw [hz, this]
set_option maxRecDepth 100000 in
set_option maxHeartbeats 1000000 in
theorem rdir_any (w : World) (T : TM) (hT : T.At w) (hV : T.toTr.Pre) (p i : Nat) (hp : p < T.n) (hi : i < T.en p) :
    Calls Tryz.prog 138 #[T.val, .agg #[.int .i64 p, .int .i64 (i + 1)]] w (BackPost w ((T.toTr.bk (p, i)).map evI)) := by
  obtain ⟨i0, hi0, hz0, hz1, hz2⟩ := info_parts infoEv
  have pa := hT.P.pa (by omega)
  have hen := hT.E.he p hp
  have hE := fun W (hx : Ext w W) => rat_any W T (hT.ext hx) p i hp hi
  have hL := fun (h3 : T.kind p i = 3) W (hx : Ext w W) => rfind_any W T (hT.ext hx) (by omega) 2 (T.msg p i)
  have hFS := fun (h3 : T.kind p i = 3) => hV.first_snd ⟨(p, i), hp, hi⟩ h3
  simp only [TM.val, pa] at hE hL
  have HE := Lib.hid hE
  have HL := Lib.hid hL
  have HFS := Lib.hid hFS
  clear hT hV hE hL hFS
  go_enter Tryz.func138, Tryz.ntmps138
  go_upto_region 1 with fail
  refine boxed2 (w := w) (G := fun x => Code.wp _ _ _ _ x) ?_
  intro w1 hx1 hs1 ⟨l0, c0, _, _⟩ ⟨l1, c1, _, _⟩
  have hx11 : Ext w1 w1 := Ext.refl _
  clear hs1
  by_cases h0 : 0 < i
  · have d0 : decide ((1 : Int) < (i : Int) + 1) = true := decide_eq_true (by omega)
    go_upto_region 4 with (at_builtin; refine wpList_append_own _ rfl _ _ 163 rfl w1.heap.size 95 i0 (.agg #[.int .i64 0, .int .i64 0]) 2 16 Tryz.underlying163 hi0 hz0 hz1 hz2 rfl (by decide) (.slice none 0 0) 0 [] rfl (World.ownsRow_nil _ _ _ _) ⟨w1.heap.size, 0, none⟩ 1 1 [.int .i64 p, .int .i64 i] rfl rfl (by exact news_ok w1 [_, _] _) (by intro u hu; simp at hu; rcases hu with rfl | rfl <;> rfl) (by unfold maxLen; omega) (by omega) (by simp) ?_; rintro v3 w3 hown3 hg3 -)
    have hx3 : Ext w1 w3 := ((Below.refl _ w1).alloc (Nat.le_refl _) _).grown hg3 (by simp) (fun k e => by cases e)
    have HO3 := Lib.hid (EvOwn.snoc (l := []) hown3)
    have hx13 := hx1.trans hx3
    clear hown3 hg3
    have HB := Lib.hid (show (if 0 < i then [(p, i - 1)] else ([] : List NN)).map evI = [((p : Int), (i : Int))] by rw [if_pos h0]; simp [evI]; omega)
    go_upto_region 5 with (go_at_call 136; refine (HE.out _ hx13).mono ?_; rintro e w4 ⟨rfl, hx4⟩)
    refine boxed1 (w := w4) (G := fun x => Code.wp _ _ _ _ x) ?_
    intro w5 hx5 hs5 ⟨l5, c5, _, _⟩
    have hx55 : Ext w5 w5 := Ext.refl _
    clear hs5
    have hx15 : Ext w1 w5 := hx3.trans (hx4.trans hx5)
    have hx05 : Ext w w5 := hx13.trans (hx4.trans hx5)
    have HO5 := Lib.hid (HO3.out.kept (hx4.trans hx5))
    by_cases hk3 : T.kind p i = 3
    · have hlk := HL.out hk3 w5 hx05
      obtain ⟨⟨sp, si⟩, hsn⟩ : ∃ s, s = (T.toTr.snd ⟨(p, i), hp, hi⟩).1 := ⟨_, rfl⟩
      rw [HFS.out hk3, ← hsn] at hlk
      simp only [evV] at hlk
      have HS := Lib.hid (show (if T.kind p i = 3 then [T.toTr.sndN (p, i)] else ([] : List NN)).map evI = [((sp : Int), (si : Int) + 1)] by
        rw [if_pos hk3, show T.toTr.sndN (p, i) = (sp, si) from (Tr.sndN_eq _ ⟨(p, i), hp, hi⟩).trans hsn.symm]; rfl)
      clear hsn
      go_wp2_with (first | (go_at_call 137; refine hlk.mono ?_; rintro e w7 ⟨rfl, hx7⟩; have hx17 := hx15.trans hx7) | (at_builtin; refine wpList_append_own _ rfl _ _ 163 rfl w1.heap.size 95 i0 (.agg #[.int .i64 0, .int .i64 0]) 2 16 Tryz.underlying163 hi0 hz0 hz1 hz2 rfl (by decide) v3 1 (evCells [((p : Int), (i : Int))]) rfl (by exact (EvOwn.kept HO5.out hx7).alloc _) ⟨w7.heap.size, 0, none⟩ 1 1 [.int .i64 sp, .int .i64 (si + 1)] rfl rfl (by exact news_ok w7 [_, _] _) (by intro u hu; simp at hu; rcases hu with rfl | rfl <;> rfl) (by unfold maxLen; omega) (by omega) (by have := hx17.le; simp; omega) ?_; rintro v6 w6 hown6 hg6 -))
      go_ret
      refine ⟨_, rfl, ?_, ?_⟩
      · unfold Tr.bk
        rw [List.map_append, HB.out, HS.out]
        exact World.ownsRow.mono (EvOwn.snoc (l := [((p : Int), (i : Int))]) hown6) hx1.le
      · exact hx1.trans (((Below.mono hx17 (Nat.le_refl _)).alloc hx17.le _).grown hg6 (by have := hx17.le; simp; omega) HO5.out.block)
    · have hk3b : (T.kind p i == 3) = false := by simpa using hk3
      have HS := Lib.hid (show (if T.kind p i = 3 then [T.toTr.sndN (p, i)] else ([] : List NN)).map evI = [] by rw [if_neg hk3]; rfl)
      go_wp2_with fail
      go_ret
      refine ⟨_, rfl, ?_, hx05⟩
      unfold Tr.bk
      rw [List.map_append, HB.out, HS.out, List.append_nil]
      exact World.ownsRow.mono HO5.out hx1.le
  · have d0 : decide ((1 : Int) < (i : Int) + 1) = false := decide_eq_false (by omega)
    have HO3 := Lib.hid (EvOwn.nil w1 w1.heap.size)
    have HB := Lib.hid (show (if 0 < i then [(p, i - 1)] else ([] : List NN)).map evI = [] by rw [if_neg h0]; rfl)
    go_upto_region 5 with (go_at_call 136; refine (HE.out _ hx1).mono ?_; rintro e w4 ⟨rfl, hx4⟩)
    refine boxed1 (w := w4) (G := fun x => Code.wp _ _ _ _ x) ?_
    intro w5 hx5 hs5 ⟨l5, c5, _, _⟩
    have hx55 : Ext w5 w5 := Ext.refl _
    clear hs5
    have hx15 : Ext w1 w5 := hx11.trans (hx4.trans hx5)
    have hx05 : Ext w w5 := hx1.trans (hx4.trans hx5)
    have HO5 := Lib.hid (HO3.out.kept (hx4.trans hx5))
    by_cases hk3 : T.kind p i = 3
    · have hlk := HL.out hk3 w5 hx05
      obtain ⟨⟨sp, si⟩, hsn⟩ : ∃ s, s = (T.toTr.snd ⟨(p, i), hp, hi⟩).1 := ⟨_, rfl⟩
      rw [HFS.out hk3, ← hsn] at hlk
      simp only [evV] at hlk
      have HS := Lib.hid (show (if T.kind p i = 3 then [T.toTr.sndN (p, i)] else ([] : List NN)).map evI = [((sp : Int), (si : Int) + 1)] by
        rw [if_pos hk3, show T.toTr.sndN (p, i) = (sp, si) from (Tr.sndN_eq _ ⟨(p, i), hp, hi⟩).trans hsn.symm]; rfl)
      clear hsn
      go_wp2_with (first | (go_at_call 137; refine hlk.mono ?_; rintro e w7 ⟨rfl, hx7⟩; have hx17 := hx15.trans hx7) | (at_builtin; refine wpList_append_own _ rfl _ _ 163 rfl w1.heap.size 95 i0 (.agg #[.int .i64 0, .int .i64 0]) 2 16 Tryz.underlying163 hi0 hz0 hz1 hz2 rfl (by decide) (.slice none 0 0) 0 (evCells ([] : List (Int × Int))) rfl (by exact (EvOwn.kept HO5.out hx7).alloc _) ⟨w7.heap.size, 0, none⟩ 1 1 [.int .i64 sp, .int .i64 (si + 1)] rfl rfl (by exact news_ok w7 [_, _] _) (by intro u hu; simp at hu; rcases hu with rfl | rfl <;> rfl) (by unfold maxLen; omega) (by omega) (by have := hx17.le; simp; omega) ?_; rintro v6 w6 hown6 hg6 -))
      go_ret
      refine ⟨_, rfl, ?_, ?_⟩
      · unfold Tr.bk
        rw [List.map_append, HB.out, HS.out]
        exact World.ownsRow.mono (EvOwn.snoc (l := ([] : List (Int × Int))) hown6) hx1.le
      · exact hx1.trans (((Below.mono hx17 (Nat.le_refl _)).alloc hx17.le _).grown hg6 (by have := hx17.le; simp; omega) HO5.out.block)
    · have hk3b : (T.kind p i == 3) = false := by simpa using hk3
      have HS := Lib.hid (show (if T.kind p i = 3 then [T.toTr.sndN (p, i)] else ([] : List NN)).map evI = [] by rw [if_neg hk3]; rfl)
      go_wp2_with fail
      go_ret
      refine ⟨_, rfl, ?_, hx05⟩
      unfold Tr.bk
      rw [List.map_append, HB.out, HS.out, List.append_nil]
      exact World.ownsRow.mono HO5.out hx1.le


end Go.Proofs.YtdplphoohnnbcaaGreatDoor
