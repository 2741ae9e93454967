/- Contract of antecederef14.Total. Contracts of antecederef14: SameEvents, Longest. Contract of antecederef14.Longest. -/
import Derived.Test.YteikcgfnkhoigaaGreatKt
import Derived.Test.YteikcgfnkhoigaaGreatKv
import Derived.Test.YteikcgfnkhoigaaGreatKq
import Derived.Deep.LoopGhost
import Derived.Test.YteikcgfnkhoigaaGreatKn
import Derived.Test.YteikcgfnkhoigaaGreatKh
import Derived.Deep.CutBlock
namespace Go.Proofs.YteikcgfnkhoigaaGreat
open Go.RowKit Go.Shelf

/-- the events of the places 1 to kk, and those of the next place before event i of process p -/
def Tr.tto (T : Tr) (rows : Nat → List Int) (kk p i : Nat) : List T.Id := totTo (T.stI rows) T.evs kk ++ (T.evsTo p i).filter fun x => decide (T.stI rows x = (kk : Int) + 1)
def Tr.ttc (T : Tr) (rows : Nat → List Int) (kk p i : Nat) : List (Int × Int) := (T.tto rows kk p i).map fun x => evI x.1
theorem Tr.tto_zero (T : Tr) (rows : Nat → List Int) (kk : Nat) : T.tto rows kk 0 0 = totTo (T.stI rows) T.evs kk := by unfold Tr.tto; rw [T.evsTo_zero]; simp
theorem Tr.tto_next (T : Tr) (rows : Nat → List Int) (kk p : Nat) : T.tto rows kk p (T.en p) = T.tto rows kk (p + 1) 0 := by unfold Tr.tto; rw [T.evsTo_next]
theorem Tr.tto_end (T : Tr) (rows : Nat → List Int) (kk : Nat) : T.tto rows kk T.n 0 = totTo (T.stI rows) T.evs (kk + 1) := by unfold Tr.tto; rw [totTo_succ]; rfl
theorem Tr.tto_hit {T : Tr} {rows : Nat → List Int} {kk p i : Nat} (hp : p < T.n) (hi : i < T.en p) (h : stOf rows (p, i) = (kk : Int) + 1) : T.tto rows kk p (i + 1) = T.tto rows kk p i ++ [⟨(p, i), hp, hi⟩] := by
  unfold Tr.tto
  have e : decide (T.stI rows ⟨(p, i), hp, hi⟩ = (kk : Int) + 1) = true := decide_eq_true h
  rw [T.evsTo_succ p i hp hi, List.filter_append, List.append_assoc]
  simp only [List.filter_cons, List.filter_nil, e, if_true]
theorem Tr.tto_miss {T : Tr} {rows : Nat → List Int} {kk p i : Nat} (hp : p < T.n) (hi : i < T.en p) (h : ¬ stOf rows (p, i) = (kk : Int) + 1) : T.tto rows kk p (i + 1) = T.tto rows kk p i := by
  unfold Tr.tto
  have e : decide (T.stI rows ⟨(p, i), hp, hi⟩ = (kk : Int) + 1) = false := decide_eq_false h
  rw [T.evsTo_succ p i hp hi, List.filter_append]
  simp only [List.filter_cons, List.filter_nil, e, Bool.false_eq_true, if_false, List.append_nil]
theorem Tr.tto_len (T : Tr) (rows : Nat → List Int) (kk p i : Nat) : (T.tto rows kk p i).length ≤ T.evs.length + (T.evsTo p i).length := by
  unfold Tr.tto
  rw [List.length_append]
  have h1 := totTo_le (st := T.stI rows) T.evs kk
  have h2 := List.length_filter_le (fun x => decide (T.stI rows x = (kk : Int) + 1)) (T.evsTo p i)
  omega
structure TtJ (T : TM) (rows : Nat → List Int) (w1 : World) (kk p i : Nat) (v : Value) (wr : World) : Prop where
  hx : Ext w1 wr
  own : Que wr w1.heap.size 2 v (T.toTr.tto rows kk p i).length (evCells (T.toTr.ttc rows kk p i))
def RTotalPost (T : TM) (rows : Nat → List Int) (w : World) (e : Ending) (w' : World) : Prop := Ext w w' ∧ ∃ (kk : Nat) (v : Value), e = .returned v ∧ (∀ x ∈ T.toTr.evs, 1 ≤ T.toTr.stI rows x ∧ T.toTr.stI rows x ≤ kk) ∧
  RowHas w' v 2 (totTo (T.toTr.stI rows) T.toTr.evs kk).length (evCells ((totTo (T.toTr.stI rows) T.toTr.evs kk).map fun x => evI x.1))
theorem que_rowHas {w : World} {base k n : Nat} {v : Value} {xs : List Value} (h : Que w base k v n xs) : RowHas w v k n xs := by
  rcases h.val with ⟨ao, hv, hn, _⟩ | ⟨g, off, cap, hv, h1, h2, h3, h4, h5, h6⟩
  · exact .inl ⟨hn, ao, 0, hv⟩
  · exact .inr ⟨g, off, cap, hv, h2, h5⟩
set_option maxRecDepth 100000 in
set_option maxHeartbeats 4000000 in
theorem rTotal_any (w : World) (T : TM) (hT : T.At w) (hV : T.toTr.Valid) (rows : Nat → List Int) (hR : T.toTr.Stamps rows) : Calls Tryz.prog 40 #[T.val] w (RTotalPost T rows w) := by
  have hn8 := hV.n8
  have hS := fun W (h : Ext w W) => rstamps_any W T (hT.ext h) hV rows hR
  have hC := fun W (h : Ext w W) => rcnt_any W T (hT.ext h) hV
  have HE8 := Lib.hid (fun k (hk : k < T.n) => hV.en64 hk)
  have HTS := Lib.hid (show ∀ k, k ≤ T.n → tot T.en k ≤ k * 64 from fun k hk => tot_small (f := T.en) (n := k) (c := 64) fun j hj => hV.en64 (by omega))
  have HRP := Lib.hid (show ∀ x : T.toTr.Id, 1 ≤ T.toTr.stI rows x ∧ T.toTr.stI rows x ≤ (tot T.en T.n : Nat) from fun x => hR.sm x.1.1 x.1.2 x.2.1 x.2.2)
  have hM := HTS.out T.n (Nat.le_refl _)
  obtain ⟨Mx9, hMx⟩ : ∃ m, m = tot T.en T.n := ⟨_, rfl⟩
  have HMX := Lib.hid hMx
  have HEL := Lib.hid (show T.toTr.evs.length = Mx9 from by rw [hMx]; exact T.toTr.evs_tot)
  rw [← hMx] at hM hC HRP
  have HTL := Lib.hid (show ∀ p i, p < T.n → i ≤ T.en p → (T.toTr.evsTo p i).length ≤ Mx9 from fun p i hp hi => by rw [← HEL.out]; exact (T.toTr.evsTo_prefix p i hp hi).length_le)
  obtain ⟨j0, hj0, hy0, hy1, hy2⟩ := info_parts infoEv
  simp only [TM.val] at hS hC ⊢
  have HS := Lib.hid hS
  have HC := Lib.hid hC
  clear hT hV hR hS hC hMx
  go_enter Tryz.func40, Tryz.ntmps40
  go_upto_region 1 with fail
  refine boxed1 (w := w) (G := fun x => Code.wp _ _ _ _ x) ?_
  intro w1 hx1 hs1 ⟨l0, c0, _, _⟩
  have hx11 : Ext w1 w1 := Ext.refl _
  clear hs1
  go_wp2_with fail
  go_at_call 95
  refine (HS.out _ hx1).mono ?_
  rintro e w2 ⟨hx2, g, c, rb, f, rfl, hio, hf, _⟩
  have hx12 : Ext w1 w2 := hx2
  have HIO := Lib.hid hio
  have HF := Lib.hid hf
  clear hio hf
  go_wp2_with fail
  go_loopg [4, 5] (Mx9 + 1) (fun gg v4 v5 wr => ∃ kk : Nat, kk ≤ Mx9 ∧ gg = Mx9 + 1 - kk ∧ v5 = .int .i64 (kk + 1) ∧ TtJ T rows w2 kk 0 0 v4 wr)
  case atStart => exact ⟨0, by omega, rfl, rfl, Ext.refl _, by
    have e : T.toTr.tto rows 0 0 0 = [] := by rw [Tr.tto_zero]; rfl
    unfold Tr.ttc
    rw [e]; exact Que.nil _ _ _⟩
  case round =>
    obtain ⟨kk, hkk, rfl, rfl, hJ⟩ := hrel
    have hxr := hJ.hx
    have hx1r := hx12.trans hxr
    obtain ⟨a4, c4, rfl⟩ := hJ.own.slice
    have HJ := Lib.hid hJ
    have hll := T.toTr.tto_len rows kk 0 0
    have HLL := Lib.hid (show (T.toTr.tto rows kk 0 0).length = (totTo (T.toTr.stI rows) T.toTr.evs kk).length from by rw [Tr.tto_zero])
    have hle := totTo_le (st := T.toTr.stI rows) T.toTr.evs kk
    rw [HEL.out] at hle
    have hcc := HC.out wr (hx1.trans hx1r)
    obtain ⟨ln, hln⟩ : ∃ n, n = (T.toTr.tto rows kk 0 0).length := ⟨_, rfl⟩
    have HLN := Lib.hid hln
    rw [← hln]
    have hln2 : ln ≤ Mx9 := by rw [hln, HLL.out]; exact hle
    clear hJ hll hle hln
    go_wp2_with fail
    go_at_call 28
    refine hcc.mono ?_
    rintro e w3 ⟨rfl, hx3⟩
    have hx23 := hxr.trans hx3
    have hx13 := hx1r.trans hx3
    clear hcc
    by_cases hgo : ln < Mx9
    · have hgo' : (ln : Int) < (Mx9 : Int) := by omega
      have hkM : kk < Mx9 := by
        apply Nat.lt_of_not_le
        intro h
        have := totTo_full (st := T.toTr.stI rows) (E := T.toTr.evs) (k := kk) (fun x _ => ⟨(HRP.out x).1, by have := (HRP.out x).2; omega⟩)
        rw [← HLL.out, ← HLN.out, HEL.out] at this
        omega
      have HJ3 := Lib.hid (show TtJ T rows w2 kk 0 0 (.slice a4 ln c4) w3 from ⟨hx23, by rw [HLN.out]; exact HJ.out.own.ext hx3⟩)
      go_wp2_with fail
      go_loopg [4, 6] T.n (fun gg v4 v6 wp => ∃ p : Nat, p ≤ T.n ∧ gg = T.n - p ∧ v6 = .int .i64 p ∧ TtJ T rows w2 kk p 0 v4 wp)
      case atStart => exact ⟨0, by omega, rfl, rfl, HJ3.out⟩
      case round =>
        obtain ⟨p, hp, rfl, rfl, hJp⟩ := hrel
        have HJP := Lib.hid hJp
        have hxp := hJp.hx
        clear hJp
        by_cases hpn : p < T.n
        · have hpn' : (p : Int) < (T.n : Int) := by omega
          have hen := HE8.out p hpn
          have pg : ∀ w', Ext w2 w' → g < w'.heap.size := HIO.out.pb (by show 0 < T.n; omega)
          have pr : ∀ w', Ext w2 w' → w'.cell? ⟨g, p, none⟩ = some (.slice (some ⟨rb p, 0, none⟩) (T.en p) (T.en p)) := fun w' h => by
            have := HIO.out.p0 w' h p hpn
            have e : (ioMM g T.n c T.en rb f).off + p = p := Nat.zero_add _
            rw [e] at this; exact this
          go_wp2_with fail
          go_loopg [4, 7] (T.en p) (fun gg v4 v7 wi => ∃ i : Nat, i ≤ T.en p ∧ gg = T.en p - i ∧ v7 = .int .i64 i ∧ TtJ T rows w2 kk p i v4 wi)
          case atStart => exact ⟨0, by omega, rfl, rfl, HJP.out⟩
          case round =>
            obtain ⟨i, hi, rfl, rfl, hJi⟩ := hrel
            have HJI := Lib.hid hJi
            have hxi := hJi.hx
            clear hJi
            by_cases hie : i < T.en p
            · have hie' : (i : Int) < (T.en p : Int) := by omega
              have pq : ∀ w', Ext w2 w' → rb p < w'.heap.size := HIO.out.rb p hpn (by show 0 < T.en p; omega)
              have pv : ∀ w', Ext w2 w' → w'.cell? ⟨rb p, i, none⟩ = some (.int .i64 (f p i)) := fun w' h => by
                have := HIO.out.r0 w' h p i hpn hie
                have e : (ioMM g T.n c T.en rb f).ro p + i = i := Nat.zero_add _
                rw [e] at this; exact this
              obtain ⟨fv, hfv⟩ : ∃ x, x = f p i := ⟨_, rfl⟩
              rw [← hfv] at pv
              have HFV := Lib.hid (show fv = stOf rows (p, i) from by rw [hfv]; exact HF.out p i hpn hie)
              obtain ⟨a6, c6, rfl⟩ := HJI.out.own.slice
              have hl6 : (T.toTr.tto rows kk p i).length ≤ 2 * Mx9 := by
                have h1 := T.toTr.tto_len rows kk p i
                have h2 := HTL.out p i hpn (by omega)
                rw [HEL.out] at h1
                omega
              obtain ⟨n6, hn6⟩ : ∃ n, n = (T.toTr.tto rows kk p i).length := ⟨_, rfl⟩
              have HN6 := Lib.hid hn6
              rw [← hn6] at hl6 ⊢
              have HQ6 := Lib.hid (show Que wr w2.heap.size 2 (.slice a6 n6 c6) n6 (evCells (T.toTr.ttc rows kk p i)) from by rw [hn6]; exact HJI.out.own)
              clear hfv hn6
              by_cases hst : fv = (kk : Int) + 1
              · have HST := Lib.hid hst
                have dst : (fv == (kk : Int) + 1) = true := by simp [hst]
                clear hst
                go_wp2_with (at_builtin; refine wpList_append_que _ rfl _ _ 66 66 rfl (base := w2.heap.size) (e := 65) (size := 2) j0 (.agg #[.int .i64 0, .int .i64 0]) 16 Tryz.underlying66 hj0 hy0 hy1 hy2 rfl rfl (v := .slice a6 n6 c6) (n := n6) (xs := evCells (T.toTr.ttc rows kk p i)) (by exact HQ6.out.ext (Ext.alloc _ _)) (by rw [World.size_alloc]; have := hxi.le; omega) _ 1 [.int .i64 p, .int .i64 (i + 1)] rfl (by exact Src.ofSlice _ Tryz.underlying66 ⟨wr.heap.size, 0, none⟩ 1 1 _ rfl (news_ok wr _ _) (by intro u hu; simp at hu; rcases hu with rfl | rfl <;> rfl)) (by unfold maxLen; omega) (by omega) ?_; rintro v8 w8 hq8 hg8 -; obtain ⟨a8, cp8, rfl⟩ := hq8.slice; have H8 := Lib.hid (And.intro hq8 hg8); clear hq8 hg8)
                go_roundg (T.en p - (i + 1))
                case rel =>
                  have hx8 := (hxi.alloc' _).below.grown H8.out.2 (by rw [World.size_alloc]; have := hxi.le; omega) HQ6.out.block
                  refine ⟨i + 1, by omega, rfl, by go_num, hx8, ?_⟩
                  have e := Tr.tto_hit (T := T.toTr) (rows := rows) (kk := kk) hpn hie (by rw [← HFV.out]; exact HST.out)
                  unfold Tr.ttc
                  rw [e, List.length_append, List.map_append, ← HN6.out]
                  show Que _ _ 2 _ (n6 + 1) (evCells (T.toTr.ttc rows kk p i ++ [((p : Int), (i : Int) + 1)]))
                  rw [evCells_snoc]; exact H8.out.1
                case measure => omega
              · have HST := Lib.hid hst
                have dst : (fv == (kk : Int) + 1) = false := by simp [hst]
                clear hst
                go_wp2_with fail
                go_roundg (T.en p - (i + 1))
                case rel =>
                  refine ⟨i + 1, by omega, rfl, by go_num, hxi, ?_⟩
                  have e := Tr.tto_miss (T := T.toTr) (rows := rows) (kk := kk) hpn hie (by rw [← HFV.out]; exact HST.out)
                  unfold Tr.ttc
                  rw [e, ← HN6.out]; exact HQ6.out
                case measure => omega
            · obtain rfl : i = T.en p := by omega
              have HNX := Lib.hid (T.toTr.tto_next rows kk p)
              go_wp2_with fail
              go_roundg (T.n - (p + 1))
              case rel => exact ⟨p + 1, by omega, rfl, by go_num, hxi, by have h := HJI.out.own; unfold Tr.ttc at h ⊢; rw [HNX.out] at h; exact h⟩
              case measure => omega
        · obtain rfl : p = T.n := by omega
          have HNX := Lib.hid (show T.toTr.tto rows kk T.n 0 = T.toTr.tto rows (kk + 1) 0 0 from by rw [Tr.tto_end, Tr.tto_zero])
          go_wp2_with fail
          go_roundg (Mx9 + 1 - (kk + 1))
          case rel => exact ⟨kk + 1, by omega, rfl, by go_num, hxp, by have h := HJP.out.own; unfold Tr.ttc at h ⊢; rw [HNX.out] at h; exact h⟩
          case measure => omega
    · have hle : ln = Mx9 := by omega
      subst hle
      go_wp2_with fail
      go_ret
      refine ⟨hx1.trans hx13, kk, _, rfl, totTo_reach (by rw [HEL.out, ← HLL.out]; exact HLN.out.symm), ?_⟩
      have h := que_rowHas (HJ.out.own.ext hx3)
      rw [← Tr.tto_zero]
      rw [HLN.out]
      exact h

end Go.Proofs.YteikcgfnkhoigaaGreat

namespace Go.Proofs.YteikcgfnkhoigaaGreat
open Go.RowKit Go.Shelf

/-- a list of events lies in memory -/
structure EvL (w : World) (a : Option Addr) (g off : Nat) (l : List (Int × Int)) : Prop where
  hn : l.length ≤ 1000000
  pa : 0 < l.length → a = some ⟨g, off, none⟩
  pb : 0 < l.length → ∀ w', Ext w w' → g < w'.heap.size
  p0 : ∀ w', Ext w w' → ∀ k (h : k < l.length), w'.cell? ⟨g, off + k * 2, none⟩ = some (.int .i64 l[k].1)
  p1 : ∀ w', Ext w w' → ∀ k (h : k < l.length), w'.cell? ⟨g, off + k * 2 + 1, none⟩ = some (.int .i64 l[k].2)
theorem EvL.ext {w w' : World} {a : Option Addr} {g off : Nat} {l : List (Int × Int)} (h : EvL w a g off l) (x : Ext w w') : EvL w' a g off l :=
  ⟨h.hn, h.pa, fun h0 w2 y => h.pb h0 w2 (x.trans y), fun w2 y => h.p0 w2 (x.trans y), fun w2 y => h.p1 w2 (x.trans y)⟩
theorem RowHas.evL {w : World} {v : Value} {l : List (Int × Int)} (h : RowHas w v 2 l.length (evCells l)) (hn : l.length ≤ 1000000) : ∃ a g off cap, v = .slice a l.length cap ∧ EvL w a g off l := by
  rcases h with ⟨h0, a, c, rfl⟩ | ⟨g, off, cap, rfl, h2, h5⟩
  · exact ⟨a, 0, 0, c, by rw [h0], ⟨hn, fun h => by omega, fun h => by omega, fun w' _ k hk => by omega, fun w' _ k hk => by omega⟩⟩
  · have c : ∀ w', Ext w w' → ∀ j, j < l.length * 2 → w'.cell? ⟨g, off + j, none⟩ = (evCells l)[j]? := fun w' x j hj => by
      have e := h5 j hj
      have hlt : j < (evCells l).length := by rw [evCells_length]; exact hj
      rw [List.getElem?_eq_getElem hlt] at e ⊢
      exact x.cell e
    exact ⟨_, g, off, cap, rfl, ⟨hn, fun _ => rfl, fun _ w' x => Nat.lt_of_lt_of_le h2 x.le, fun w' x k hk => by rw [c w' x _ (by omega), evCells_get0 l k hk],
      fun w' x k hk => by rw [Nat.add_assoc, c w' x _ (by omega), evCells_get1 l k hk]⟩⟩
set_option maxRecDepth 100000 in
set_option maxHeartbeats 1000000 in
theorem sameEv_any (w : World) (a1 a2 : Option Addr) (b1 b2 o1 o2 c1 c2 : Nat) (l : List (Int × Int)) (h1 : EvL w a1 b1 o1 l) (h2 : EvL w a2 b2 o2 l) :
    Calls Tryz.prog 39 #[.slice a1 l.length c1, .slice a2 l.length c2] w fun e w' => e = .returned (.bool true) ∧ Ext w w' := by
  have hn1 := h1.hn
  have H1 := Lib.hid h1
  have H2 := Lib.hid h2
  have hww : Ext w w := Ext.refl _
  obtain ⟨n, hn⟩ : ∃ n, n = l.length := ⟨_, rfl⟩
  rw [← hn] at hn1 ⊢
  have HN := Lib.hid hn
  clear h1 h2 hn
  go_enter Tryz.func39, Tryz.ntmps39
  go_wp2_with fail
  go_loopg [5] n (fun gg v wr => ∃ k : Nat, k ≤ n ∧ gg = n - k ∧ v = .int .i64 k ∧ Ext w wr)
  case atStart => exact ⟨0, by omega, rfl, rfl, hww⟩
  case round =>
    obtain ⟨k, hk, rfl, rfl, hxr⟩ := hrel
    by_cases hlt : k < n
    · have hlt' : (k : Int) < (n : Int) := by omega
      have hkl : k < l.length := by rw [← HN.out]; exact hlt
      obtain rfl := H1.out.pa (by omega)
      obtain rfl := H2.out.pa (by omega)
      have pb1 := H1.out.pb (by omega)
      have pb2 := H2.out.pb (by omega)
      have p0 : ∀ w', Ext w w' → w'.cell? ⟨b1, o1 + k * 2, none⟩ = _ := fun w' h => H1.out.p0 w' h k hkl
      have p1 : ∀ w', Ext w w' → w'.cell? ⟨b1, o1 + k * 2 + 1, none⟩ = _ := fun w' h => H1.out.p1 w' h k hkl
      have q0 : ∀ w', Ext w w' → w'.cell? ⟨b2, o2 + k * 2, none⟩ = _ := fun w' h => H2.out.p0 w' h k hkl
      have q1 : ∀ w', Ext w w' → w'.cell? ⟨b2, o2 + k * 2 + 1, none⟩ = _ := fun w' h => H2.out.p1 w' h k hkl
      generalize l[k] = t at p0 p1 q0 q1
      obtain ⟨x, y⟩ := t
      clear hkl
      go_upto_region 6 with fail
      go_quiet (fail)
      go_wp2_with fail
      go_roundg (n - (k + 1))
      case rel => exact ⟨k + 1, by omega, rfl, by go_num, hxr.drewN _⟩
      case measure => omega
    · have hke : k = n := by omega
      subst hke
      go_wp2_with fail
      go_ret
      exact ⟨rfl, hxr⟩
set_option maxRecDepth 100000 in
set_option maxHeartbeats 1000000 in
/-- two lists without elements -/
theorem sameEv0_any (w : World) (v1 v2 : Value) (h1 : ∃ a c, v1 = .slice a 0 c) (h2 : ∃ a c, v2 = .slice a 0 c) :
    Calls Tryz.prog 39 #[v1, v2] w fun e w' => e = .returned (.bool true) ∧ Ext w w' := by
  obtain ⟨a1, c1, rfl⟩ := h1
  obtain ⟨a2, c2, rfl⟩ := h2
  exact sameEv_any w a1 a2 0 0 0 0 c1 c2 [] ⟨by simp, (fun h => by simp at h), (fun h => by simp at h), (fun _ _ k h => by simp at h), (fun _ _ k h => by simp at h)⟩ ⟨by simp, (fun h => by simp at h), (fun h => by simp at h), (fun _ _ k h => by simp at h), (fun _ _ k h => by simp at h)⟩

end Go.Proofs.YteikcgfnkhoigaaGreat

namespace Go.Proofs.YteikcgfnkhoigaaGreat
open Go.RowKit Go.Shelf

/-- the chain that ends with x, from the event j places before it -/
noncomputable def Tr.rlng (T : Tr) (rows : Nat → List Int) (x : NN) : Nat → List (Int × Int)
  | 0 => [evI x]
  | j + 1 => evI (T.prvN rows x (j + 1)) :: T.rlng rows x j
theorem Tr.rlng_len (T : Tr) (rows : Nat → List Int) (x : NN) : ∀ j : Nat, (T.rlng rows x j).length = j + 1
  | 0 => rfl
  | j + 1 => by rw [Tr.rlng, List.length_cons, T.rlng_len rows x j]
theorem Tr.rlng_get (T : Tr) (rows : Nat → List Int) (x : NN) : ∀ (j k : Nat) (h : k < (T.rlng rows x j).length), (T.rlng rows x j)[k] = evI (T.prvN rows x (j - k))
  | 0, k, h => by
    have h' : k < 1 := h
    obtain rfl : k = 0 := by omega
    rfl
  | j + 1, 0, _ => rfl
  | j + 1, k + 1, h => by
    have h' : k < (T.rlng rows x j).length := by rw [Tr.rlng_len] at h ⊢; omega
    have e : (T.rlng rows x (j + 1))[k + 1] = (T.rlng rows x j)[k] := rfl
    rw [e, T.rlng_get rows x j k h', Nat.add_sub_add_right]
theorem MM.At.keep {M : MM} {w2 wr : World} {b : Nat} (h : M.At w2) (hk : KeepBut w2 wr b) (hg : M.b ≠ b) (hr : ∀ k, k < M.n → M.rb k ≠ b) : M.At wr where
  hn := h.hn
  pa := h.pa
  pb h0 w' x := Nat.lt_of_lt_of_le (h.pb h0 w2 (Ext.refl _)) (Nat.le_trans hk.size x.le)
  p0 w' x k hk' := x.cell ((World.cell?_of_block (w := w2) (a := ⟨M.b, M.off + k, none⟩) (hk.block _ (h.pb (by omega) w2 (Ext.refl _)) hg)).trans (h.p0 w2 (Ext.refl _) k hk'))
  hr := h.hr
  ra := h.ra
  rb k h1 h2 w' x := Nat.lt_of_lt_of_le (h.rb k h1 h2 w2 (Ext.refl _)) (Nat.le_trans hk.size x.le)
  r0 w' x k i h1 h2 := x.cell ((World.cell?_of_block (w := w2) (a := ⟨M.rb k, M.ro k + i, none⟩) (hk.block _ (h.rb k h1 (by omega) w2 (Ext.refl _)) (hr k h1))).trans (h.r0 w2 (Ext.refl _) k i h1 h2))
/-- the chain so far: j events before x -/
structure RlnI (T : TM) (rows : Nat → List Int) (x : NN) (w w2 : World) (j : Nat) (v : Value) (wr : World) : Prop where
  own : Que wr w2.heap.size 2 v (j + 1) (evCells (T.toTr.rlng rows x j))
  h0 : Hold wr w.heap.size #[.slice (some ⟨T.b, T.off, none⟩) T.n T.cap]
  h1 : Hold wr (w.heap.size + 1) #[.int .i64 (T.toTr.prvN rows x j).1, .int .i64 ((T.toTr.prvN rows x j).2 + 1)]
  bl : Ext w wr
  kp : KeepBut w2 wr (w.heap.size + 1)
theorem RlnI.ext {T : TM} {rows : Nat → List Int} {x : NN} {w w2 wr w' : World} {j : Nat} {v : Value} (h : RlnI T rows x w w2 j v wr) (y : Ext wr w') : RlnI T rows x w w2 j v w' :=
  ⟨h.own.ext y, h.h0.ext y, h.h1.ext y, h.bl.trans y, h.kp.below (Below.mono y h.kp.size)⟩
theorem RlnI.moved {T : TM} {rows : Nat → List Int} {x : NN} {w w2 wr w4 w5 : World} {j : Nat} {v : Value} (h : RlnI T rows x w w2 j v wr) (hb2 : w.heap.size + 1 < w2.heap.size) (x4 : Ext wr w4) (o : Only (w.heap.size + 1) w4 w5) :
    Que w5 w2.heap.size 2 v (j + 1) (evCells (T.toTr.rlng rows x j)) ∧ Ext w w5 ∧ KeepBut w2 w5 (w.heap.size + 1) ∧ Hold w5 w.heap.size #[.slice (some ⟨T.b, T.off, none⟩) T.n T.cap] := by
  have h4 := h.ext x4
  refine ⟨h4.own.same (Nat.le_of_eq o.size.symm) fun g hg _ => o.block g (by omega), Below.trans h4.bl (o.below (by omega)), ⟨by rw [o.size]; exact h4.kp.size, fun g h1 h2 => (o.block g h2).trans (h4.kp.block g h1 h2)⟩, o.hold h4.h0 (by omega)⟩
theorem que_one {w : World} {base : Nat} {x y : Int} (hb : base ≤ w.heap.size) : Que (w.alloc (.cells #[.int .i64 x, .int .i64 y] 65)) base 2 (.slice (some ⟨w.heap.size, 0, none⟩) 1 1) 1 [.int .i64 x, .int .i64 y] :=
  Que.own (evOwn_one (w := w.alloc (.cells #[.int .i64 x, .int .i64 y] 65)) (by show (w.heap.push _)[w.heap.size]? = _; simp) hb)
theorem fld_msg (a b c d e : Value) (w : World) : Sem.run Tryz.prog (Instr.field 99 (.agg #[a, b, c, d, e]) 2) w = .ok c w := by kernel_rfl
theorem extdj {w : World} {G : World → Prop} (x : World) (hx : Ext w x) (h : ∀ w', Ext w w' → G w') : G x := h _ hx
theorem set1j {w : World} {p : Addr} {v : Value} {G : World → Prop} (h : ∀ w5, w5 = w.setCell p v → G w5) : G (w.setCell p v) := h _ rfl
def RLongPost (T : TM) (rows : Nat → List Int) (x : NN) (w : World) (e : Ending) (w' : World) : Prop := Ext w w' ∧ ∃ v, e = .returned v ∧ RowHas w' v 2 (stOf rows x).toNat (evCells (T.toTr.rlng rows x ((stOf rows x).toNat - 1)))
set_option maxRecDepth 100000 in
set_option maxHeartbeats 4000000 in
theorem rlong_any (w : World) (T : TM) (hT : T.At w) (hV : T.toTr.Valid) (rows : Nat → List Int) (hR : T.toTr.Stamps rows) (x : NN) (hx : T.toTr.V x) :
    Calls Tryz.prog 43 #[T.val, .agg #[.int .i64 x.1, .int .i64 (x.2 + 1)]] w (RLongPost T rows x w) := by
  obtain ⟨i0, hi0, hz0, hz1, hz2⟩ := info_parts infoEv
  have hn1 := hV.n1
  have hn8 := hV.n8
  have hE8 := fun k (hk : k < T.n) => hV.en64 hk
  have pa := hT.P.pa (by omega)
  have hS := fun W (h : Ext w W) => rstamps_any W T (hT.ext h) hV rows hR
  have hAT := fun W (h : Ext w W) p i (hp : p < T.n) (hi : i < T.en p) => rat_any W T (hT.ext h) p i hp hi
  have hFD := fun W (h : Ext w W) kd m => rfind_any W T (hT.ext h) (by omega) kd m
  simp only [TM.val, pa] at hS hAT hFD ⊢
  have HS := Lib.hid hS
  have HAT := Lib.hid hAT
  have HFD := Lib.hid hFD
  have HPV := Lib.hid (Tr.valid_iff.1 hV).1
  have HV0 := Lib.hid hx
  have HST := Lib.hid hR
  have HE8 := Lib.hid hE8
  obtain ⟨st, hst⟩ : ∃ st : Int, st = stOf rows x := ⟨_, rfl⟩
  have hstb : 1 ≤ st ∧ st ≤ 512 := by
    have h1 := hR.sm x.1 x.2 hx.1 hx.2
    have h2 : tot T.en T.n ≤ T.n * 64 := tot_small (f := T.en) (n := T.n) (c := 64) hE8
    have h3 : T.n * 64 ≤ 512 := by omega
    rw [hst]; show 1 ≤ (rows x.1).getD x.2 0 ∧ (rows x.1).getD x.2 0 ≤ 512; omega
  have HSt := Lib.hid hst
  clear hS hAT hFD hV hR hst hT hE8
  go_enter Tryz.func43, Tryz.ntmps43
  go_upto_region 1 with fail
  refine boxed2 (w := w) (G := fun x => Code.wp _ _ _ _ x) ?_
  intro w1 hx1 hs1 ⟨l0, c0, f0, k0⟩ ⟨l1, c1, f1, k1⟩
  have hx11 : Ext w1 w1 := Ext.refl _
  go_upto_region 2 with (go_at_call 95; refine (HS.out _ hx1).mono ?_; rintro e w2 ⟨hx2, g, c, rb, f, rfl, hio, hf, hg1, hrb1⟩)
  have HIO := Lib.hid hio
  have HF := Lib.hid hf
  have HG1 := Lib.hid hg1
  have HRB1 := Lib.hid hrb1
  have HS1 := Lib.hid hs1
  have HB12 := Lib.hid (show w.heap.size + 1 < w2.heap.size by have := hx2.le; omega)
  clear hio hf hg1 hrb1 hs1
  have hx22 : Ext w2 w2 := Ext.refl _
  go_upto_block 0 with fail
  refine boxed1t (w := w2) (G := fun x => Code.wp _ _ _ _ x) ?_
  intro w3 hx3 hs3 k3
  have HI0 := Lib.hid (RlnI.mk (T := T) (rows := rows) (x := x) (w := w) (w2 := w2) (j := 0) (v := .slice (some ⟨w2.heap.size, 0, none⟩) 1 1) (wr := w3) (Que.own (evOwn_one k3 (Nat.le_refl _))) (Hold.ext k0 (hx2.trans hx3)) (Hold.ext k1 (hx2.trans hx3)) (hx1.trans (hx2.trans hx3)) ⟨hx3.le, fun g h _ => hx3.block g h⟩)
  clear hs3 k3 hx22 c0 c1 l0 l1 f0 f1 k0 k1 hx11
  go_wp2_with fail
  go_loopg [6, 7] st.toNat (fun gg v6 _ wr => ∃ j : Nat, (j : Int) < st ∧ gg = st.toNat - j ∧ RlnI T rows x w w2 j v6 wr)
  case atStart => exact ⟨0, by omega, rfl, HI0.out⟩
  case round =>
    obtain ⟨j, hj, rfl, hI⟩ := hrel
    have hpv := HST.out.prvN HV0.out j (by rw [← HSt.out]; omega)
    obtain ⟨⟨yp, yi⟩, hy⟩ : ∃ y, y = T.toTr.prvN rows x j := ⟨_, rfl⟩
    rw [← hy] at hpv
    obtain ⟨⟨hyp, hyi⟩, hys⟩ := hpv
    rw [← HSt.out] at hys
    dsimp only at hyp hyi
    obtain ⟨k, hk⟩ : ∃ k, k = st - j := ⟨_, rfl⟩
    have HYK := Lib.hid (show stOf rows (yp, yi) = k from by rw [hys, hk])
    have HK := Lib.hid hk
    have hk2 : k ≤ 512 := by omega
    have hk1 : 1 ≤ k := by omega
    have hj2 : j ≤ 512 := by omega
    have hb1 := hI.h1
    rw [← hy] at hb1
    dsimp only at hb1
    have hIO := HIO.out.keep hI.kp (by show g ≠ _; have := HG1.out; have := HS1.out; omega) (fun k hk => by show rb k ≠ _; have := HRB1.out k hk; have := HS1.out; omega)
    have s0 := fun w' h => hIO.p0 w' h yp hyp
    have sb := hIO.pb (by show 0 < T.n; omega)
    have rbb := hIO.rb yp hyp (by show 0 < T.en yp; omega)
    have HR0 := Lib.hid (show ∀ w', Ext wr w' → ∀ i, i < T.en yp → w'.cell? ⟨rb yp, i, none⟩ = some (.int .i64 (stOf rows (yp, i))) from fun w' h i hi => by
      have := hIO.r0 w' h yp i hyp hi
      have e : (ioMM g T.n c T.en rb f).ro yp + i = i := Nat.zero_add _
      rw [e] at this
      exact this.trans (by rw [← HF.out yp i hyp hi]; rfl))
    simp only [ioMM, Nat.zero_add] at s0 sb rbb
    have sr : ∀ w', Ext wr w' → w'.cell? ⟨rb yp, yi, none⟩ = some (.int .i64 k) := fun w' h => by rw [HR0.out w' h yi hyi, HYK.out]
    obtain ⟨l0, c0, f0, _⟩ := hI.h0.box
    obtain ⟨l1, c1, f1, _⟩ := hb1.box
    have hxr : Ext w wr := hI.bl
    have hrr : Ext wr wr := Ext.refl _
    have hyp' : (yp : Int) < (T.n : Int) := by omega
    have hyi' : (yi : Int) < (T.en yp : Int) := by omega
    have hey := HE8.out yp hyp
    have HI := Lib.hid hI
    have HY := Lib.hid hy
    have hw0 : IntKind.i64.wrap (yi : Int) = (yi : Int) := IntWalk.i64_in _ (by omega)
    have hw2 : IntKind.i64.wrap (k - 1) = k - 1 := IntWalk.i64_in _ (by omega)
    clear hI hy hys hIO hb1 hk f0
    by_cases hgo : 1 < k
    · have hpr := HST.out.prv (x := (yp, yi)) ⟨hyp, hyi⟩ (by rw [HYK.out]; exact hgo)
      have HPR := Lib.hid hpr
      clear hpr
      have dk : decide ((1 : Int) < k) = true := decide_eq_true hgo
      by_cases hz : 0 < yi
      · obtain ⟨q, hq⟩ : ∃ q : Int, q = stOf rows (yp, yi - 1) := ⟨_, rfl⟩
        have sg : ∀ w', Ext wr w' → w'.cell? ⟨rb yp, yi - 1, none⟩ = some (.int .i64 q) := fun w' h => by rw [hq]; exact HR0.out w' h (yi - 1) (by omega)
        have HQ := Lib.hid hq
        clear hq
        have d1 : decide ((1 : Int) < (yi : Int) + 1) = true := decide_eq_true (by omega)
        have hw1 : IntKind.i64.wrap ((yi : Int) + 1 - 2) = (yi : Int) - 1 := by rw [IntWalk.i64_in _ (by omega)]; omega
        by_cases hqk : q = k - 1
        · have dq : (q == k - 1) = true := by simpa using hqk
          go_upto_region 3 with fail
          go_quiet (fail)
          go_upto_region 4 with fail
          go_quiet (fail)
          go_upto_region 5 with fail
          go_quiet (fail)
          go_upto_region 6 with fail
          refine extdj (w := wr) (G := fun x => Code.wp _ _ _ _ x) _ (by repeat (first | exact hrr | refine Ext.drewN ?_ _ | refine Ext.drew ?_)) ?_
          intro w4 hx4
          have hx44 : Ext w4 w4 := Ext.refl _
          go_upto_region 8 with fail
          refine set1j (w := w4) (G := fun x => Code.wp _ _ _ _ x) ?_
          intro w5 hw5
          have HM5 := Lib.hid (HI.out.moved (w4 := w4) (w5 := w5) HB12.out hx4 (by rw [hw5]; exact Only.set _ _ _ _))
          obtain ⟨np, hnp⟩ : ∃ np : Int, np = yp := ⟨_, rfl⟩
          obtain ⟨ni, hni⟩ : ∃ ni : Int, ni = yi := ⟨_, rfl⟩
          have HNP := Lib.hid (show ((T.toTr.prvN rows x (j + 1)).1 : Int) = np ∧ ((T.toTr.prvN rows x (j + 1)).2 : Int) + 1 = ni by
            have e : T.toTr.prvN rows x (j + 1) = (yp, yi - 1) := by
              show T.toTr.prv rows (T.toTr.prvN rows x j) = _
              rw [← HY.out]; unfold Tr.prv; rw [if_pos ⟨hz, by rw [HYK.out, ← HQ.out]; exact hqk⟩]
            rw [e, hnp, hni]; exact ⟨rfl, by show ((yi - 1 : Nat) : Int) + 1 = yi; omega⟩)
          have HB5 := Lib.hid (show Hold w5 (w.heap.size + 1) #[.int .i64 np, .int .i64 ni] by
            have h9 := HI.out.h1
            rw [← HY.out] at h9
            rw [hw5, hnp, hni]
            exact Hold.set (Hold.ext h9 hx4) 1 (.int .i64 yi))
          clear hnp hni hw5 hqk hx4 hx44
          clear hw0 hw1 hw2
          obtain ⟨l5, c5, f5, _⟩ := HB5.out.box
          obtain ⟨a6, cp6, rfl⟩ := HM5.out.1.slice
          have h55 : Ext w5 w5 := Ext.refl _
          have HSZ := Lib.hid HM5.out.2.2.1.size
          clear c0 l0 c1 l1 f1 hrr s0 sb sr hxr
          go_wp2_with (at_builtin; refine wpList_append_que _ rfl _ _ 66 66 rfl (base := w2.heap.size) (e := 65) (size := 2) i0 (.agg #[.int .i64 0, .int .i64 0]) 16 Tryz.underlying66 hi0 hz0 hz1 hz2 rfl rfl (v := .slice (some ⟨w5.heap.size, 0, none⟩) 1 1) (n := 1) (xs := [.int .i64 np, .int .i64 ni]) (by exact que_one HSZ.out) (by rw [World.size_alloc]; have := HSZ.out; omega) (.slice a6 (j + 1) cp6) (j + 1) (evCells (T.toTr.rlng rows x j)) rfl (by exact Que.src (HM5.out.1.ext (Ext.alloc _ _)) Tryz.underlying66 (evCells_one _)) (by unfold maxLen; omega) (by omega) ?_; rintro v8 w8 hq8 hg8 -; have H8 := Lib.hid (And.intro hq8 hg8); clear hq8 hg8)
          go_roundg (st.toNat - (j + 1))
          case rel =>
            have hx8 : Below w2.heap.size w5 w8 := ((Below.refl _ _).alloc HSZ.out _).grown H8.out.2 (by rw [World.size_alloc]; have := HSZ.out; omega) (que_one (x := np) (y := ni) HSZ.out).block
            refine ⟨j + 1, by have := HK.out; omega, by omega, ?_, HM5.out.2.2.2.below hx8 (by have := HB12.out; omega), ?_, Below.trans HM5.out.2.1 (Below.mono hx8 (by have := HB12.out; omega)), HM5.out.2.2.1.below hx8⟩
            · have h := H8.out.1
              rw [Nat.add_comm 1 (j + 1)] at h
              have e : evCells (T.toTr.rlng rows x (j + 1)) = [.int .i64 np, .int .i64 ni] ++ evCells (T.toTr.rlng rows x j) := by
                rw [Tr.rlng, ← HNP.out.1, ← HNP.out.2]; rfl
              rw [e]; exact h
            · rw [HNP.out.1, HNP.out.2]; exact HB5.out.below hx8 (by have := HB12.out; omega)
          case measure => omega
        · have dq : (q == k - 1) = false := by simpa using hqk
          have HN := Lib.hid (show ¬ (0 < yi ∧ stOf rows (yp, yi - 1) = stOf rows (yp, yi) - 1) from fun h => hqk (by rw [HQ.out, h.2, HYK.out]))
          go_upto_region 3 with fail
          go_quiet (fail)
          go_upto_region 4 with fail
          go_quiet (fail)
          go_upto_region 5 with fail
          go_quiet (fail)
          clear hw0 hw1 hw2 hqk
          have hk3 : T.kind yp yi = 3 := HPR.out.2.2.2 HN.out
          obtain ⟨⟨sp, si⟩, hsn⟩ : ∃ s, s = T.toTr.sndN (yp, yi) := ⟨_, rfl⟩
          have hAt := fun W (hx : Ext w W) => HAT.out W hx yp yi hyp hyi
          simp only [TM.ev] at hAt
          have hFd := fun W (hx : Ext w W) => HFD.out W hx 2 (T.msg yp yi)
          rw [HPV.out.first_snd ⟨(yp, yi), hyp, hyi⟩ hk3, ← Tr.sndN_eq, ← hsn] at hFd
          simp only [evV] at hFd
          have HAt := Lib.hid hAt
          have HFd := Lib.hid hFd
          have HSN := Lib.hid hsn
          clear hAt hFd hsn
          go_upto_region 7 with fail
          refine extdj (w := wr) (G := fun x => Code.wp _ _ _ _ x) _ (by repeat (first | exact hrr | refine Ext.drewN ?_ _ | refine Ext.drew ?_)) ?_
          intro w4 hx4
          have hx44 : Ext w4 w4 := Ext.refl _
          have hxw4 := hxr.trans hx4
          refine wp_region_held_drew (S := fun w' => Hold w' w.heap.size #[.slice (some ⟨T.b, T.off, none⟩) T.n T.cap]) (by kernel_rfl) (Hold.ext (Hold.ext HI.out.h0 hx4) (Ext.refl _).drew) (fun hHeld => ?_)
          refine heldTake 0 (v := ?_) rfl (by kernel_rfl) (by kernel_rfl) (by kernel_rfl) (fun _ _ _ h => h) (Or.inl ⟨by rfl, ?_⟩) (by assumption) ?_
          rotate_left
          · (intro w' hSw; obtain ⟨lS, cS, _, _⟩ := hSw.box; have hSS := Ext.refl w'; go_simp; try with_reducible rfl)
          simp only [Act.put, List.setIfInBounds_toArray, List.set_cons_zero, List.set_cons_succ]
          refine heldTake 1 (v := ?_) rfl (by kernel_rfl) (by kernel_rfl) (by kernel_rfl) (fun _ _ _ h => h) (Or.inl ⟨by rfl, ?_⟩) (by assumption) ?_
          rotate_left
          · (intro w' hSw; obtain ⟨lS, cS, _, _⟩ := hSw.box; have hSS := Ext.refl w'; go_simp; try with_reducible rfl)
          simp only [Act.put, List.setIfInBounds_toArray, List.set_cons_zero, List.set_cons_succ]
          refine wpAnyH_ready (rs := [2]) (by kernel_rfl) (by simp) ?_
          refine AllReadyH.cons rfl (fun K hK => ?_) AllReadyH.nil
          go_simp
          refine hK.out _ _ ?_ (fun hHeld2 => ?_)
          · exact Hold.ext (Hold.ext HI.out.h0 hx4) (Ext.refl _).drew
          clear hK K
          try simp only [Act.put, List.setIfInBounds_toArray, List.set_cons_zero, List.set_cons_succ]
          refine wpAnyH_ready (rs := [3]) (by kernel_rfl) (by simp) ?_
          refine AllReadyH.cons rfl (fun K hK => ?_) AllReadyH.nil
          go_simp
          go_at_call 98
          refine (HAt.out _ hxw4.drew).mono ?_
          rintro e w6 ⟨rfl, hx6⟩
          refine hK.out _ _ ?_ (fun hHeld3 => ?_)
          · exact Hold.ext (Hold.ext (Hold.ext HI.out.h0 hx4) (Ext.refl _).drew) hx6
          clear hK K
          try simp only [Act.put, List.setIfInBounds_toArray, List.set_cons_zero, List.set_cons_succ]
          refine heldTake 4 (v := .int .i64 (T.msg yp yi)) rfl (by kernel_rfl) (by kernel_rfl) (by kernel_rfl) (fun _ _ _ h => h) (Or.inl ⟨by rfl, ?_⟩) (by assumption) ?_
          · (intro w' _; go_simp; rw [fld_msg]; rfl)
          simp only [Act.put, List.setIfInBounds_toArray, List.set_cons_zero, List.set_cons_succ]
          have hx46 : Ext w4 w6 := ((Ext.refl w4).drew).trans hx6
          refine wpAnyH_ready (rs := [5]) (by kernel_rfl) (by simp) ?_
          refine AllReadyH.cons rfl (fun K hK => ?_) AllReadyH.nil
          go_simp
          go_at_call 97
          refine (HFd.out _ (hxw4.trans hx46)).mono ?_
          rintro e w7 ⟨rfl, hx7⟩
          have hx47 : Ext w4 w7 := hx46.trans hx7
          have hxr7 : Ext wr w7 := hx4.trans hx47
          refine hK.out _ _ ?_ (fun hHeld4 => ?_)
          · exact Hold.ext HI.out.h0 hxr7
          clear hK K
          try simp only [Act.put, List.setIfInBounds_toArray, List.set_cons_zero, List.set_cons_succ]
          refine wpAnyH_ready (rs := [6]) (by kernel_rfl) (by simp) ?_
          refine AllReadyH.cons rfl (fun K hK => ?_) AllReadyH.nil
          go_simp
          refine hK.out _ _ ?_ (fun hHeld5 => ?_)
          · exact Hold.other (Hold.other (Hold.ext HI.out.h0 hxr7) _ _ (by show w.heap.size ≠ w.heap.size + 1; omega)) _ _ (by show w.heap.size ≠ w.heap.size + 1; omega)
          clear hK K
          try simp only [Act.put, List.setIfInBounds_toArray, List.set_cons_zero, List.set_cons_succ]
          refine wpAnyH_done (by kernel_rfl) ?_ _
          clear hHeld hHeld2 hHeld3 hHeld4 hHeld5
          go_upto_region 8 with fail
          refine setd2 (w := w7) (G := fun x => Code.wp _ _ _ _ x) ?_
          intro w5 hw5
          have hx4d : Ext wr w7 := hx4.trans hx47
          have HM5 := Lib.hid (HI.out.moved (w4 := w7) (w5 := w5) HB12.out hx4d (by rw [hw5]; exact (Only.set _ _ _ _).trans (Only.set _ _ _ _)))
          obtain ⟨np, hnp⟩ : ∃ np : Int, np = sp := ⟨_, rfl⟩
          obtain ⟨ni, hni⟩ : ∃ ni : Int, ni = si + 1 := ⟨_, rfl⟩
          have HNP := Lib.hid (show ((T.toTr.prvN rows x (j + 1)).1 : Int) = np ∧ ((T.toTr.prvN rows x (j + 1)).2 : Int) + 1 = ni by
            have e : T.toTr.prvN rows x (j + 1) = (sp, si) := by
              show T.toTr.prv rows (T.toTr.prvN rows x j) = _
              rw [← HY.out]; unfold Tr.prv; rw [if_neg HN.out]; exact HSN.out.symm
            rw [e, hnp, hni]; exact ⟨rfl, rfl⟩)
          have HB5 := Lib.hid (show Hold w5 (w.heap.size + 1) #[.int .i64 np, .int .i64 ni] by
            have h9 := HI.out.h1
            rw [← HY.out] at h9
            rw [hw5, hnp, hni]
            exact Hold.set (Hold.set (Hold.ext h9 hx4d) 0 (.int .i64 sp)) 1 (.int .i64 (si + 1)))
          clear hnp hni hw5 hx4 hx44 hxw4 hx46 hx47 hx4d hx6 hx7 hxr7 hk3
          obtain ⟨l5, c5, f5, _⟩ := HB5.out.box
          obtain ⟨a6, cp6, rfl⟩ := HM5.out.1.slice
          have h55 : Ext w5 w5 := Ext.refl _
          have HSZ := Lib.hid HM5.out.2.2.1.size
          clear c0 l0 c1 l1 f1 hrr s0 sb sr hxr
          go_wp2_with (at_builtin; refine wpList_append_que _ rfl _ _ 66 66 rfl (base := w2.heap.size) (e := 65) (size := 2) i0 (.agg #[.int .i64 0, .int .i64 0]) 16 Tryz.underlying66 hi0 hz0 hz1 hz2 rfl rfl (v := .slice (some ⟨w5.heap.size, 0, none⟩) 1 1) (n := 1) (xs := [.int .i64 np, .int .i64 ni]) (by exact que_one HSZ.out) (by rw [World.size_alloc]; have := HSZ.out; omega) (.slice a6 (j + 1) cp6) (j + 1) (evCells (T.toTr.rlng rows x j)) rfl (by exact Que.src (HM5.out.1.ext (Ext.alloc _ _)) Tryz.underlying66 (evCells_one _)) (by unfold maxLen; omega) (by omega) ?_; rintro v8 w8 hq8 hg8 -; have H8 := Lib.hid (And.intro hq8 hg8); clear hq8 hg8)
          go_roundg (st.toNat - (j + 1))
          case rel =>
            have hx8 : Below w2.heap.size w5 w8 := ((Below.refl _ _).alloc HSZ.out _).grown H8.out.2 (by rw [World.size_alloc]; have := HSZ.out; omega) (que_one (x := np) (y := ni) HSZ.out).block
            refine ⟨j + 1, by have := HK.out; omega, by omega, ?_, HM5.out.2.2.2.below hx8 (by have := HB12.out; omega), ?_, Below.trans HM5.out.2.1 (Below.mono hx8 (by have := HB12.out; omega)), HM5.out.2.2.1.below hx8⟩
            · have h := H8.out.1
              rw [Nat.add_comm 1 (j + 1)] at h
              have e : evCells (T.toTr.rlng rows x (j + 1)) = [.int .i64 np, .int .i64 ni] ++ evCells (T.toTr.rlng rows x j) := by
                rw [Tr.rlng, ← HNP.out.1, ← HNP.out.2]; rfl
              rw [e]; exact h
            · rw [HNP.out.1, HNP.out.2]; exact HB5.out.below hx8 (by have := HB12.out; omega)
          case measure => omega
      · have d1 : decide ((1 : Int) < (yi : Int) + 1) = false := decide_eq_false (by omega)
        have HN := Lib.hid (show ¬ (0 < yi ∧ stOf rows (yp, yi - 1) = stOf rows (yp, yi) - 1) from fun h => hz h.1)
        go_upto_region 3 with fail
        go_quiet (fail)
        go_upto_region 4 with fail
        go_quiet (fail)
        go_upto_region 5 with fail
        go_quiet (fail)
        clear hw0 hw2
        have hk3 : T.kind yp yi = 3 := HPR.out.2.2.2 HN.out
        obtain ⟨⟨sp, si⟩, hsn⟩ : ∃ s, s = T.toTr.sndN (yp, yi) := ⟨_, rfl⟩
        have hAt := fun W (hx : Ext w W) => HAT.out W hx yp yi hyp hyi
        simp only [TM.ev] at hAt
        have hFd := fun W (hx : Ext w W) => HFD.out W hx 2 (T.msg yp yi)
        rw [HPV.out.first_snd ⟨(yp, yi), hyp, hyi⟩ hk3, ← Tr.sndN_eq, ← hsn] at hFd
        simp only [evV] at hFd
        have HAt := Lib.hid hAt
        have HFd := Lib.hid hFd
        have HSN := Lib.hid hsn
        clear hAt hFd hsn
        go_upto_region 7 with fail
        refine extdj (w := wr) (G := fun x => Code.wp _ _ _ _ x) _ (by repeat (first | exact hrr | refine Ext.drewN ?_ _ | refine Ext.drew ?_)) ?_
        intro w4 hx4
        have hx44 : Ext w4 w4 := Ext.refl _
        have hxw4 := hxr.trans hx4
        refine wp_region_held_drew (S := fun w' => Hold w' w.heap.size #[.slice (some ⟨T.b, T.off, none⟩) T.n T.cap]) (by kernel_rfl) (Hold.ext (Hold.ext HI.out.h0 hx4) (Ext.refl _).drew) (fun hHeld => ?_)
        refine heldTake 0 (v := ?_) rfl (by kernel_rfl) (by kernel_rfl) (by kernel_rfl) (fun _ _ _ h => h) (Or.inl ⟨by rfl, ?_⟩) (by assumption) ?_
        rotate_left
        · (intro w' hSw; obtain ⟨lS, cS, _, _⟩ := hSw.box; have hSS := Ext.refl w'; go_simp; try with_reducible rfl)
        simp only [Act.put, List.setIfInBounds_toArray, List.set_cons_zero, List.set_cons_succ]
        refine heldTake 1 (v := ?_) rfl (by kernel_rfl) (by kernel_rfl) (by kernel_rfl) (fun _ _ _ h => h) (Or.inl ⟨by rfl, ?_⟩) (by assumption) ?_
        rotate_left
        · (intro w' hSw; obtain ⟨lS, cS, _, _⟩ := hSw.box; have hSS := Ext.refl w'; go_simp; try with_reducible rfl)
        simp only [Act.put, List.setIfInBounds_toArray, List.set_cons_zero, List.set_cons_succ]
        refine wpAnyH_ready (rs := [2]) (by kernel_rfl) (by simp) ?_
        refine AllReadyH.cons rfl (fun K hK => ?_) AllReadyH.nil
        go_simp
        refine hK.out _ _ ?_ (fun hHeld2 => ?_)
        · exact Hold.ext (Hold.ext HI.out.h0 hx4) (Ext.refl _).drew
        clear hK K
        try simp only [Act.put, List.setIfInBounds_toArray, List.set_cons_zero, List.set_cons_succ]
        refine wpAnyH_ready (rs := [3]) (by kernel_rfl) (by simp) ?_
        refine AllReadyH.cons rfl (fun K hK => ?_) AllReadyH.nil
        go_simp
        go_at_call 98
        refine (HAt.out _ hxw4.drew).mono ?_
        rintro e w6 ⟨rfl, hx6⟩
        refine hK.out _ _ ?_ (fun hHeld3 => ?_)
        · exact Hold.ext (Hold.ext (Hold.ext HI.out.h0 hx4) (Ext.refl _).drew) hx6
        clear hK K
        try simp only [Act.put, List.setIfInBounds_toArray, List.set_cons_zero, List.set_cons_succ]
        refine heldTake 4 (v := .int .i64 (T.msg yp yi)) rfl (by kernel_rfl) (by kernel_rfl) (by kernel_rfl) (fun _ _ _ h => h) (Or.inl ⟨by rfl, ?_⟩) (by assumption) ?_
        · (intro w' _; go_simp; rw [fld_msg]; rfl)
        simp only [Act.put, List.setIfInBounds_toArray, List.set_cons_zero, List.set_cons_succ]
        have hx46 : Ext w4 w6 := ((Ext.refl w4).drew).trans hx6
        refine wpAnyH_ready (rs := [5]) (by kernel_rfl) (by simp) ?_
        refine AllReadyH.cons rfl (fun K hK => ?_) AllReadyH.nil
        go_simp
        go_at_call 97
        refine (HFd.out _ (hxw4.trans hx46)).mono ?_
        rintro e w7 ⟨rfl, hx7⟩
        have hx47 : Ext w4 w7 := hx46.trans hx7
        have hxr7 : Ext wr w7 := hx4.trans hx47
        refine hK.out _ _ ?_ (fun hHeld4 => ?_)
        · exact Hold.ext HI.out.h0 hxr7
        clear hK K
        try simp only [Act.put, List.setIfInBounds_toArray, List.set_cons_zero, List.set_cons_succ]
        refine wpAnyH_ready (rs := [6]) (by kernel_rfl) (by simp) ?_
        refine AllReadyH.cons rfl (fun K hK => ?_) AllReadyH.nil
        go_simp
        refine hK.out _ _ ?_ (fun hHeld5 => ?_)
        · exact Hold.other (Hold.other (Hold.ext HI.out.h0 hxr7) _ _ (by show w.heap.size ≠ w.heap.size + 1; omega)) _ _ (by show w.heap.size ≠ w.heap.size + 1; omega)
        clear hK K
        try simp only [Act.put, List.setIfInBounds_toArray, List.set_cons_zero, List.set_cons_succ]
        refine wpAnyH_done (by kernel_rfl) ?_ _
        clear hHeld hHeld2 hHeld3 hHeld4 hHeld5
        go_upto_region 8 with fail
        refine setd2 (w := w7) (G := fun x => Code.wp _ _ _ _ x) ?_
        intro w5 hw5
        have hx4d : Ext wr w7 := hx4.trans hx47
        have HM5 := Lib.hid (HI.out.moved (w4 := w7) (w5 := w5) HB12.out hx4d (by rw [hw5]; exact (Only.set _ _ _ _).trans (Only.set _ _ _ _)))
        obtain ⟨np, hnp⟩ : ∃ np : Int, np = sp := ⟨_, rfl⟩
        obtain ⟨ni, hni⟩ : ∃ ni : Int, ni = si + 1 := ⟨_, rfl⟩
        have HNP := Lib.hid (show ((T.toTr.prvN rows x (j + 1)).1 : Int) = np ∧ ((T.toTr.prvN rows x (j + 1)).2 : Int) + 1 = ni by
          have e : T.toTr.prvN rows x (j + 1) = (sp, si) := by
            show T.toTr.prv rows (T.toTr.prvN rows x j) = _
            rw [← HY.out]; unfold Tr.prv; rw [if_neg HN.out]; exact HSN.out.symm
          rw [e, hnp, hni]; exact ⟨rfl, rfl⟩)
        have HB5 := Lib.hid (show Hold w5 (w.heap.size + 1) #[.int .i64 np, .int .i64 ni] by
          have h9 := HI.out.h1
          rw [← HY.out] at h9
          rw [hw5, hnp, hni]
          exact Hold.set (Hold.set (Hold.ext h9 hx4d) 0 (.int .i64 sp)) 1 (.int .i64 (si + 1)))
        clear hnp hni hw5 hx4 hx44 hxw4 hx46 hx47 hx4d hx6 hx7 hxr7 hk3
        obtain ⟨l5, c5, f5, _⟩ := HB5.out.box
        obtain ⟨a6, cp6, rfl⟩ := HM5.out.1.slice
        have h55 : Ext w5 w5 := Ext.refl _
        have HSZ := Lib.hid HM5.out.2.2.1.size
        clear c0 l0 c1 l1 f1 hrr s0 sb sr hxr
        go_wp2_with (at_builtin; refine wpList_append_que _ rfl _ _ 66 66 rfl (base := w2.heap.size) (e := 65) (size := 2) i0 (.agg #[.int .i64 0, .int .i64 0]) 16 Tryz.underlying66 hi0 hz0 hz1 hz2 rfl rfl (v := .slice (some ⟨w5.heap.size, 0, none⟩) 1 1) (n := 1) (xs := [.int .i64 np, .int .i64 ni]) (by exact que_one HSZ.out) (by rw [World.size_alloc]; have := HSZ.out; omega) (.slice a6 (j + 1) cp6) (j + 1) (evCells (T.toTr.rlng rows x j)) rfl (by exact Que.src (HM5.out.1.ext (Ext.alloc _ _)) Tryz.underlying66 (evCells_one _)) (by unfold maxLen; omega) (by omega) ?_; rintro v8 w8 hq8 hg8 -; have H8 := Lib.hid (And.intro hq8 hg8); clear hq8 hg8)
        go_roundg (st.toNat - (j + 1))
        case rel =>
          have hx8 : Below w2.heap.size w5 w8 := ((Below.refl _ _).alloc HSZ.out _).grown H8.out.2 (by rw [World.size_alloc]; have := HSZ.out; omega) (que_one (x := np) (y := ni) HSZ.out).block
          refine ⟨j + 1, by have := HK.out; omega, by omega, ?_, HM5.out.2.2.2.below hx8 (by have := HB12.out; omega), ?_, Below.trans HM5.out.2.1 (Below.mono hx8 (by have := HB12.out; omega)), HM5.out.2.2.1.below hx8⟩
          · have h := H8.out.1
            rw [Nat.add_comm 1 (j + 1)] at h
            have e : evCells (T.toTr.rlng rows x (j + 1)) = [.int .i64 np, .int .i64 ni] ++ evCells (T.toTr.rlng rows x j) := by
              rw [Tr.rlng, ← HNP.out.1, ← HNP.out.2]; rfl
            rw [e]; exact h
          · rw [HNP.out.1, HNP.out.2]; exact HB5.out.below hx8 (by have := HB12.out; omega)
        case measure => omega
    · have hk1' : k = 1 := by omega
      have dk : decide ((1 : Int) < k) = false := decide_eq_false hgo
      have hj1 : (stOf rows x).toNat = j + 1 := by rw [← HSt.out]; have := HK.out; omega
      have HJ1 := Lib.hid hj1
      clear hj1
      go_upto_region 3 with fail
      go_quiet (fail)
      go_wp2_with fail
      go_ret
      refine ⟨hxr.trans (by repeat (first | exact hrr | refine Ext.drewN ?_ _ | refine Ext.drew ?_)), _, rfl, ?_⟩
      rw [HJ1.out]
      exact que_rowHas (HI.out.own.ext (by repeat (first | exact hrr | refine Ext.drewN ?_ _ | refine Ext.drew ?_)))

end Go.Proofs.YteikcgfnkhoigaaGreat
