/- Contract: trace.after. -/
import Derived.Test.YtecgigeeolindaaMsg
import Derived.Deep.AppendLies
import Derived.Deep.RegionLaw
import Derived.Maps.AppendAt
namespace Go.Proofs.Ytecgigeeolindaa
open Go.RowKit Go.Shelf

/-- a list of events' places, as cells -/
def evCells (l : List (Int × Int)) : List Value := l.flatMap fun x => [.int .i64 x.1, .int .i64 x.2]
theorem evCells_nil : evCells [] = [] := rfl
theorem evCells_snoc (l : List (Int × Int)) (x : Int × Int) : evCells (l ++ [x]) = evCells l ++ [.int .i64 x.1, .int .i64 x.2] := by simp [evCells]
theorem evCells_length (l : List (Int × Int)) : (evCells l).length = l.length * 2 := by
  induction l with
  | nil => rfl
  | cons x l ih => simp only [evCells, List.flatMap_cons, List.length_append, List.length_cons, List.length_nil] at ih ⊢; omega
theorem evCells_get0 (l : List (Int × Int)) (i : Nat) (h : i < l.length) : (evCells l)[i * 2]? = some (.int .i64 l[i].1) := by
  induction l generalizing i with
  | nil => simp at h
  | cons x l ih =>
    cases i with
    | zero => rfl
    | succ i =>
      have := ih i (by simpa using h)
      show (.int .i64 x.1 :: .int .i64 x.2 :: evCells l)[(i + 1) * 2]? = _
      rw [show (i + 1) * 2 = i * 2 + 1 + 1 by omega, List.getElem?_cons_succ, List.getElem?_cons_succ, this]; rfl
theorem evCells_get1 (l : List (Int × Int)) (i : Nat) (h : i < l.length) : (evCells l)[i * 2 + 1]? = some (.int .i64 l[i].2) := by
  induction l generalizing i with
  | nil => simp at h
  | cons x l ih =>
    cases i with
    | zero => rfl
    | succ i =>
      have := ih i (by simpa using h)
      show (.int .i64 x.1 :: .int .i64 x.2 :: evCells l)[(i + 1) * 2 + 1]? = _
      rw [show (i + 1) * 2 + 1 = i * 2 + 1 + 1 + 1 by omega, List.getElem?_cons_succ, List.getElem?_cons_succ, this]; rfl
/-- a slice of the call's own holds this list of events -/
def EvOwn (w : World) (base : Nat) (v : Value) (l : List (Int × Int)) : Prop := w.ownsRow base 31 2 v l.length (evCells l)
theorem EvOwn.nil (w : World) (base : Nat) : EvOwn w base (.slice none 0 0) [] := World.ownsRow_nil _ _ _ _
theorem EvOwn.read {w : World} {base : Nat} {v : Value} {l : List (Int × Int)} (h : EvOwn w base v l) :
    ∃ a cap b, v = .slice a l.length cap ∧ l.length ≤ cap ∧ (0 < l.length → a = some ⟨b, 0, none⟩) ∧ (0 < l.length → ∀ w', Ext w w' → b < w'.heap.size) ∧
      (∀ w', Ext w w' → ∀ i (h : i < l.length), w'.cell? ⟨b, i * 2, none⟩ = some (.int .i64 l[i].1)) ∧ (∀ w', Ext w w' → ∀ i (h : i < l.length), w'.cell? ⟨b, i * 2 + 1, none⟩ = some (.int .i64 l[i].2)) := by
  obtain ⟨h1, ⟨hv, hn⟩ | ⟨g, cap, cur, hv, hg, hh, hc, hm, hs, ht⟩⟩ := h
  · exact ⟨none, 0, 0, by rw [hv, hn], by omega, fun h => by omega, fun h => by omega, fun w' _ i h => by omega, fun w' _ i h => by omega⟩
  · have hb := Box.of hh
    have hget : ∀ j, j < l.length * 2 → cur[j]? = (evCells l)[j]? := by
      intro j hj
      rw [← ht, List.getElem?_take_of_lt hj]; simp
    refine ⟨_, cap, g, hv, hc, fun _ => rfl, fun _ => hb.lt, fun w' hx i hi => ?_, fun w' hx i hi => ?_⟩
    · rw [hb.cell w' hx, hget _ (by omega), evCells_get0 l i hi]
    · rw [hb.cell w' hx, hget _ (by omega), evCells_get1 l i hi]
theorem EvOwn.kept {w w' : World} {base : Nat} {v : Value} {l : List (Int × Int)} (h : EvOwn w base v l) (x : Ext w w') : EvOwn w' base v l := by
  obtain ⟨h1, ⟨hv, hn⟩ | ⟨g, cap, cur, hv, hg, hh, rest⟩⟩ := h
  · exact ⟨h1, .inl ⟨hv, hn⟩⟩
  · exact ⟨h1, .inr ⟨g, cap, cur, hv, hg, (x.block g (Array.getElem?_eq_some_iff.1 hh).1).trans hh, rest⟩⟩

theorem EvOwn.base {w : World} {b b' : Nat} {v : Value} {l : List (Int × Int)} (h : EvOwn w b v l) (hb : b' ≤ b) : EvOwn w b' v l := by
  obtain ⟨h1, ⟨hv, hn⟩ | ⟨g, cap, cur, hv, hg, rest⟩⟩ := h
  · exact ⟨h1, .inl ⟨hv, hn⟩⟩
  · exact ⟨h1, .inr ⟨g, cap, cur, hv, by omega, rest⟩⟩
theorem EvOwn.block {w : World} {b : Nat} {v : Value} {l : List (Int × Int)} (h : EvOwn w b v l) : ∀ k, v.ownBlock = some k → b ≤ k := by
  intro k hk
  obtain ⟨h1, ⟨hv, hn⟩ | ⟨g, cap, cur, hv, hg, rest⟩⟩ := h
  · subst hv; cases hk
  · subst hv; simp [Value.ownBlock] at hk; omega
/-- an element is appended -/
theorem EvOwn.snoc {w : World} {b : Nat} {v : Value} {l : List (Int × Int)} {x y : Int} (h : w.ownsRow b 31 2 v (l.length + 1) (evCells l ++ [.int .i64 x, .int .i64 y])) : EvOwn w b v (l ++ [(x, y)]) := by
  unfold EvOwn; rw [evCells_snoc, List.length_append]; exact h
theorem infoEv : (Try.prog.info? 31).map (fun i => (i.zero, i.size, i.bytes)) = some (some (.agg #[.int .i64 0, .int .i64 0]), 2, 16) := by kernel_rfl

/-- the events directly after event i of process k -/
def Tr.aft (T : Tr) (L : Ltr) (k i : Nat) : List (Int × Int) :=
  (if i + 1 < T.en k then [((k : Int), (i : Int) + 1 + 1)] else []) ++ (if T.kind k i = 2 ∧ 0 < L.ti (T.msg k i).toNat then [(L.tp (T.msg k i).toNat, L.ti (T.msg k i).toNat)] else [])
def AftPost (w : World) (l : List (Int × Int)) (e : Ending) (w' : World) : Prop := ∃ v, e = .returned v ∧ EvOwn w' w.heap.size v l ∧ Ext w w'

set_option maxRecDepth 100000 in
set_option maxHeartbeats 2000000 in
theorem after_any (w : World) (T : TM) (hT : T.At w) (L : Ltr) (bL : Nat) (hL : L.At w bL) (k i : Nat) (hk : k < T.n) (hi : i < T.en k) (hE : T.EvOk k i) :
    Calls Try.prog 91 #[T.val, .pointer (some ⟨bL, 0, none⟩), .agg #[.int .i64 k, .int .i64 (i + 1)]] w (AftPost w (T.aft L k i)) := by
  have hk' : (k : Int) < (T.n : Int) := by omega
  have hi' : (i : Int) < (T.en k : Int) := by omega
  have pa := hT.P.pa (by omega)
  have pb := hT.P.pb (by omega)
  have p2 := hT.P.p2
  have ea := hT.E.ea k hk (by omega)
  have eb := hT.E.eb k hk (by omega)
  have e0 := hT.E.e0
  have e1 := hT.E.e1
  have e2 := hT.E.e2
  have e3 := hT.E.e3
  have e4 := hT.E.e4
  have hen := hT.E.he k hk
  have HT := Lib.hid hT
  have HL := Lib.hid hL
  clear hT hL
  obtain ⟨i0, hi0, hz0, hz1, hz2⟩ := info_parts infoEv
  go_enter Try.func91, Try.ntmps91
  go_upto_region 1 with fail
  refine boxed2 (w := w) (G := fun x => Code.wp _ _ _ _ x) ?_
  intro w2 hx2 hs2 ⟨l0, c0, _, _⟩ ⟨l1, c1, _, _⟩
  have HS := Lib.hid hs2
  have hx22 : Ext w2 w2 := Ext.refl _
  clear hs2
  by_cases h1 : i + 1 < T.en k
  · have h1' : (i : Int) + 1 < (T.en k : Int) := by omega
    go_wp2_with (at_builtin; refine wpList_append_own _ rfl _ _ 37 rfl w2.heap.size 31 i0 (.agg #[.int .i64 0, .int .i64 0]) 2 16 Try.underlying37 hi0 hz0 hz1 hz2 rfl (by decide) (.slice none 0 0) 0 [] rfl (World.ownsRow_nil _ _ _ _) ⟨w2.heap.size, 0, none⟩ 1 1 [.int .i64 k, .int .i64 (i + 1 + 1)] rfl rfl ?c1 ?c2 ?c3 ?c4 ?c5 ?_)
    case c1 => exact news_ok w2 [_, _] _
    case c2 => intro u hu; simp at hu; rcases hu with rfl | rfl <;> rfl
    case c3 => unfold maxLen; omega
    case c4 => omega
    case c5 => simp
    rintro v1 w3 hown hg -
    have hx3 : Ext w2 w3 := (Ext.alloc _ _).trans (Ext.grown hg)
    have HO := Lib.hid (show EvOwn w3 w2.heap.size v1 [((k : Int), (i : Int) + 1 + 1)] from hown)
    have HA := Lib.hid (show ∀ l, [((k : Int), (i : Int) + 1 + 1)] ++ l = (if i + 1 < T.en k then [((k : Int), (i : Int) + 1 + 1)] else []) ++ l from fun l => by rw [if_pos h1])
    clear hown hg
    have hx33 : Ext w3 w3 := Ext.refl _
    have hxw3 : Ext w w3 := hx2.trans hx3
    go_upto_region 6 with fail
    refine boxed1 (w := w3) (G := fun x => Code.wp _ _ _ _ x) ?_
    intro w4 hx4 hs4 ⟨l4, c4, _, _⟩
    clear hs4
    have hx44 : Ext w4 w4 := Ext.refl _
    have hx24 : Ext w2 w4 := hx3.trans hx4
    have hxw4 : Ext w w4 := hxw3.trans hx4
    by_cases hk2 : T.kind k i = 2
    · obtain ⟨m, hm, hm2⟩ : ∃ m : Nat, T.msg k i = m ∧ m < 200 := ⟨(T.msg k i).toNat, by rcases hE.1 with h | h <;> omega, by rcases hE.1 with h | h <;> omega⟩
      have HM := Lib.hid hm
      have hm3 : (m : Int) < 200 := by omega
      have q2 := fun w' (h : Ext w4 w') => (HL.out.ext (hxw4.trans h)).c2 m hm2
      have q3 := fun w' (h : Ext w4 w') => (HL.out.ext (hxw4.trans h)).c3 m hm2
      have hkb : (T.kind k i == 2) = true := by rw [hk2]; rfl
      by_cases ht : 0 < L.ti m
      · go_quiet (fail)
        go_wp2
        have HO2 : ∀ w', Ext w4 w' → w'.ownsRow w2.heap.size 31 2 v1 1 (evCells [((k : Int),(i : Int)+1+1)]) := fun w' h => HO.out.kept (hx4.trans h)
        have HO2 := Lib.hid HO2
        have hmx : 1 + 1 ≤ maxLen := by unfold maxLen; omega
        go_region_law (refine step_append_lies _ (by exact rfl) (.tmp 51) (.tmp 59) 37 (by exact rfl) w2.heap.size 31 i0 (.agg #[.int .i64 0, .int .i64 0]) 2 16 Try.underlying37 hi0 hz0 hz1 hz2 rfl (by decide) v1 1 (evCells [((k : Int),(i : Int)+1+1)]) (by exact rfl) (by exact HO2.out _ (((Ext.refl w4).drewN _).alloc' _)) ⟨w4.heap.size, 0, none⟩ 1 1 [.int .i64 (L.tp m), .int .i64 (L.ti m)] (by exact rfl) rfl (by intro j u hj; exact news_ok w4 [_, _] _ j u hj) (by intro u hu; simp at hu; rcases hu with rfl | rfl <;> rfl) (by decide) hmx (by omega) (by have := hx24.le; simp; omega) _ rfl ?_; rintro g5 cap5 w5 hown5 hg5 hor5 hlt5)
        all_goals go_wp2
        all_goals go_ret
        refine ⟨_, rfl, ?_, ?_⟩
        · unfold Tr.aft; rw [← HA.out, if_pos ⟨hk2, by rw [HM.out, Int.toNat_natCast]; exact ht⟩, HM.out, Int.toNat_natCast]
          exact (EvOwn.snoc (l := [((k : Int),(i : Int)+1+1)]) hown5).base hx2.le
        · exact hx2.trans ((((hx24.drewN _).alloc' _).below).grown hg5 (by have := hx24.le; simp; omega) HO.out.block)
      · go_quiet (fail)
        go_wp2
        go_ret
        exact ⟨v1, rfl, by unfold Tr.aft; rw [← HA.out, if_neg (fun h => by rw [HM.out, Int.toNat_natCast] at h; have := h.2; omega), List.append_nil]; exact (HO.out.kept (hx4.drewN _)).base hx2.le, hxw4.drewN _⟩
    · have hkb : (T.kind k i == 2) = false := by simpa using hk2
      go_quiet (fail)
      go_wp2
      go_ret
      exact ⟨v1, rfl, by unfold Tr.aft; rw [← HA.out, if_neg (fun h => hk2 h.1), List.append_nil]; exact (HO.out.kept (hx4.drewN _)).base hx2.le, hxw4.drewN _⟩
  · have h1' : ¬ (i : Int) + 1 < (T.en k : Int) := by omega
    have HO := Lib.hid (EvOwn.nil w2 w2.heap.size)
    have HA := Lib.hid (show ∀ l : List (Int × Int), [] ++ l = (if i + 1 < T.en k then [((k : Int), (i : Int) + 1 + 1)] else []) ++ l from fun l => by rw [if_neg h1])
    have hx3 : Ext w2 w2 := Ext.refl _
    have hxw3 : Ext w w2 := hx2
    go_upto_region 6 with fail
    refine boxed1 (w := w2) (G := fun x => Code.wp _ _ _ _ x) ?_
    intro w4 hx4 hs4 ⟨l4, c4, _, _⟩
    clear hs4
    have hx44 : Ext w4 w4 := Ext.refl _
    have hx24 : Ext w2 w4 := hx3.trans hx4
    have hxw4 : Ext w w4 := hxw3.trans hx4
    by_cases hk2 : T.kind k i = 2
    · obtain ⟨m, hm, hm2⟩ : ∃ m : Nat, T.msg k i = m ∧ m < 200 := ⟨(T.msg k i).toNat, by rcases hE.1 with h | h <;> omega, by rcases hE.1 with h | h <;> omega⟩
      have HM := Lib.hid hm
      have hm3 : (m : Int) < 200 := by omega
      have q2 := fun w' (h : Ext w4 w') => (HL.out.ext (hxw4.trans h)).c2 m hm2
      have q3 := fun w' (h : Ext w4 w') => (HL.out.ext (hxw4.trans h)).c3 m hm2
      have hkb : (T.kind k i == 2) = true := by rw [hk2]; rfl
      by_cases ht : 0 < L.ti m
      · go_quiet (fail)
        go_wp2
        have HO2 : ∀ w', Ext w4 w' → w'.ownsRow w2.heap.size 31 2 (.slice none 0 0) 0 (evCells ([]:List (Int × Int))) := fun w' h => HO.out.kept (hx4.trans h)
        have HO2 := Lib.hid HO2
        have hmx : 0 + 1 ≤ maxLen := by unfold maxLen; omega
        go_region_law (refine step_append_lies _ (by exact rfl) (.tmp 51) (.tmp 59) 37 (by exact rfl) w2.heap.size 31 i0 (.agg #[.int .i64 0, .int .i64 0]) 2 16 Try.underlying37 hi0 hz0 hz1 hz2 rfl (by decide) (.slice none 0 0) 0 (evCells ([]:List (Int × Int))) (by exact rfl) (by exact HO2.out _ (((Ext.refl w4).drewN _).alloc' _)) ⟨w4.heap.size, 0, none⟩ 1 1 [.int .i64 (L.tp m), .int .i64 (L.ti m)] (by exact rfl) rfl (by intro j u hj; exact news_ok w4 [_, _] _ j u hj) (by intro u hu; simp at hu; rcases hu with rfl | rfl <;> rfl) (by decide) hmx (by omega) (by have := hx24.le; simp; omega) _ rfl ?_; rintro g5 cap5 w5 hown5 hg5 hor5 hlt5)
        all_goals go_wp2
        all_goals go_ret
        refine ⟨_, rfl, ?_, ?_⟩
        · unfold Tr.aft; rw [← HA.out, if_pos ⟨hk2, by rw [HM.out, Int.toNat_natCast]; exact ht⟩, HM.out, Int.toNat_natCast]
          exact (EvOwn.snoc (l := ([]:List (Int × Int))) hown5).base hx2.le
        · exact hx2.trans ((((hx24.drewN _).alloc' _).below).grown hg5 (by have := hx24.le; simp; omega) HO.out.block)
      · go_quiet (fail)
        go_wp2
        go_ret
        exact ⟨(.slice none 0 0), rfl, by unfold Tr.aft; rw [← HA.out, if_neg (fun h => by rw [HM.out, Int.toNat_natCast] at h; have := h.2; omega), List.append_nil]; exact (HO.out.kept (hx4.drewN _)).base hx2.le, hxw4.drewN _⟩
    · have hkb : (T.kind k i == 2) = false := by simpa using hk2
      go_quiet (fail)
      go_wp2
      go_ret
      exact ⟨(.slice none 0 0), rfl, by unfold Tr.aft; rw [← HA.out, if_neg (fun h => hk2 h.1), List.append_nil]; exact (HO.out.kept (hx4.drewN _)).base hx2.le, hxw4.drewN _⟩

end Go.Proofs.Ytecgigeeolindaa
