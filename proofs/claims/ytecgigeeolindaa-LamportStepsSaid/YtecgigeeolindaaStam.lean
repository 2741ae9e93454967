/- Contract: lamport.Stamps. -/
import Derived.Test.YtecgigeeolindaaStP
import Derived.Deep.LoopGhost
namespace Go.Proofs.Ytecgigeeolindaa
open Go.RowKit Go.Shelf

theorem infoInts : (Try.prog.info? 41).map (fun i => (i.zero, i.size, i.bytes)) = some (some (.slice none 0 0), 1, 24) := by kernel_rfl
theorem StS.made {w : World} {base g n : Nat} (h : w.ownsRow base 41 1 (.slice (some ⟨g, 0, none⟩) n n) n (madeCells (Value.slice none 0 0).cells (n * 1)).toList) (hn : n ≤ 100) :
    StS base g n (fun _ => []) (fun _ => .slice none 0 0) w := by
  obtain ⟨h1, ⟨hv, _⟩ | ⟨g', cap, cur, hv, hg, hh, hc, hm, hs, ht⟩⟩ := h
  · cases hv
  · simp only [Value.slice.injEq, Option.some.injEq, Addr.mk.injEq] at hv
    obtain ⟨⟨rfl, _⟩, _, rfl⟩ := hv
    have hb := Box.of hh
    have hz : (Value.slice none 0 0).cells = #[.slice none 0 0] := rfl
    rw [hz, toList_madeCells_one] at ht
    refine ⟨hn, fun k hk => ?_, fun k => ?_, fun k _ => IntOwn.nil _ _, fun j k _ _ _ g e => by simp [Value.ownBlock] at e, fun k _ => by simp [Value.ownBlock], fun k _ => by simp⟩
    · rw [hb.cell w (Ext.refl _)]
      have : cur[k]? = (List.replicate (n * 1) (Value.slice none 0 0))[k]? := by rw [← ht, List.getElem?_take_of_lt (by omega)]; simp
      rw [this, List.getElem?_replicate, if_pos (by omega)]
    · exact hb.frozen w (Ext.refl _) k
/-- the stamps so far, in memory -/
structure StI (T : TM) (w : World) (rows : Nat → List Int) (wr : World) : Prop where
  st : ∃ vs, StS w.heap.size w.heap.size T.n rows vs wr
  bl : Ext w wr
  pt : T.toTr.Part rows
theorem StI.ext {T : TM} {w wr w' : World} {rows : Nat → List Int} (h : StI T w rows wr) (h0 : 0 < T.n) (x : Ext wr w') : StI T w rows w' := by
  obtain ⟨⟨vs, hs⟩, h2, h3⟩ := h
  exact ⟨⟨vs, hs.ext h0 x⟩, h2.trans x, h3⟩
def StampsPost (T : TM) (w : World) (e : Ending) (w' : World) : Prop := Ext w w' ∧
  ((¬ T.toTr.Valid ∧ e = .returned (.tuple #[.slice none 0 0, .int .i64 1])) ∨
   (T.toTr.Valid ∧ ∃ base cap rows vs, w.heap.size ≤ base ∧ e = .returned (.tuple #[.slice (some ⟨base, 0, none⟩) T.n cap, .int .i64 0]) ∧ StS base base T.n rows vs w' ∧ T.toTr.Stamps rows))
set_option maxHeartbeats 1000000 in
theorem stamps_no (w : World) (T : TM) (hT : T.At w) (hV : ¬ T.toTr.Valid) :
    Calls Try.prog 14 #[T.val] w (StampsPost T w) := by
  go_enter Try.func14, Try.ntmps14
  go_upto_region 1 with fail
  refine boxed1 (w := w) (G := fun x => Code.wp _ _ _ _ x) ?_
  intro w1 hx1 hs1 ⟨l0, c0, _, _⟩
  have hx11 : Ext w1 w1 := Ext.refl _
  have hF := valid_any w1 T (hT.ext hx1)
  clear hs1 hT
  go_wp2_with (go_at_call 37; refine hF.mono ?_; rintro e w2 ⟨b, rfl, hb, hx2⟩; obtain rfl : b = false := (Bool.eq_false_iff.2 fun h => hV (hb.1 h)))
  go_ret2
  exact ⟨hx1.trans hx2, .inl ⟨hV, rfl⟩⟩
set_option maxRecDepth 100000 in
set_option maxHeartbeats 4000000 in
theorem stamps_yes (w : World) (T : TM) (hT : T.At w) (hV : T.toTr.Valid) (hE : ∀ k, k < T.n → T.en k ≤ 1000000) :
    Calls Try.prog 14 #[T.val] w (StampsPost T w) := by
  have hn1 := hV.n1
  have hn8 := hV.n8
  have pa := hT.P.pa (by omega)
  obtain ⟨i0, hi0, hz0, hz1, hz2⟩ := info_parts infoInts
  go_enter Try.func14, Try.ntmps14
  go_upto_region 1 with fail
  refine boxed1 (w := w) (G := fun x => Code.wp _ _ _ _ x) ?_
  intro w1 hx1 hs1 ⟨l0, c0, _, _⟩
  have hx11 : Ext w1 w1 := Ext.refl _
  have hF := valid_any w1 T (hT.ext hx1)
  simp only [TM.val, pa] at hF
  have HT := Lib.hid hT
  have HV := Lib.hid hV
  have HE := Lib.hid hE
  clear hs1 hT hV hE
  go_upto_region 3 with (go_at_call 37; refine hF.mono ?_; rintro e w2 ⟨b, rfl, hb, hx2⟩; obtain rfl : b = true := hb.2 HV.out)
  clear hF hb
  go_upto_region 4 with (at_make; refine wpList_make_full _ rfl _ _ 34 rfl w2.heap.size 41 i0 (.slice none 0 0) 1 Try.underlying34 hi0 hz0 hz1 .i64 .i64 _ _ T.n rfl rfl rfl rfl (by rw [hz2]; omega) (by unfold maxLen; omega) (Nat.le_refl _) ?_; intro w3 hown3 hg3)
  have hx3 : Ext w2 w3 := (Below.refl _ _).grown hg3 (Nat.le_refl _) (by simp)
  have HI0 := Lib.hid (StI.mk (T := T) (w := w2) (rows := fun _ => []) (wr := w3) ⟨_, StS.made hown3 (by omega)⟩ hx3 (Tr.Part.nil _))
  clear hown3 hg3
  go_wp2_with fail
  go_loopg [5] (T.toTr.left (fun _ => []) + 1) (fun gg v wr => ∃ (mv : Bool) (rows : Nat → List Int), v = .bool mv ∧ StI T w2 rows wr ∧ (mv = true → T.toTr.left rows < gg) ∧ (mv = false → ∀ p, p < T.n → ¬ T.toTr.Ready rows p))
  case atStart => exact ⟨true, _, rfl, HI0.out, fun _ => Nat.lt_succ_self _, fun h => by cases h⟩
  case round =>
    obtain ⟨mv, rows, rfl, hI, hm1, hm2⟩ := hrel
    have hxr := hI.bl
    have hxr1 := hx2.trans hxr
    have HI := Lib.hid hI
    cases mv with
    | false =>
      have HS := Lib.hid (hI.pt.full HV.out (hm2 rfl))
      clear hI hm1 hm2
      go_wp2_with fail
      go_ret2
      obtain ⟨vs, hs⟩ := HI.out.st
      exact ⟨hx1.trans (hx2.trans hxr), .inr ⟨HV.out, _, _, rows, vs, (hx1.trans hx2).le, rfl, hs, HS.out⟩⟩
    | true =>
      have HM := Lib.hid (hm1 rfl)
      clear hI hm1 hm2
      go_wp2_with fail
      go_loopg [5, 18] T.n (fun gg v v18 wi => ∃ (mv : Bool) (r2 : Nat → List Int) (p : Nat), v = .bool mv ∧ v18 = .int .i64 p ∧ p ≤ T.n ∧ gg = T.n - p ∧ StI T w2 r2 wi ∧ T.toTr.left r2 ≤ T.toTr.left rows ∧ (mv = true → T.toTr.left r2 < T.toTr.left rows) ∧ (mv = false → ∀ q, q < p → ¬ T.toTr.Ready r2 q))
      case atStart => exact ⟨false, rows, 0, rfl, rfl, by omega, rfl, HI.out, Nat.le_refl _, (fun h => by cases h), fun _ q hq => by omega⟩
      case round =>
        obtain ⟨mv, r2, p, rfl, rfl, hp, rfl, hI, hm0, hm1, hm2⟩ := hrel
        have HM0 := Lib.hid hm0
        clear hm0
        have hxi := hI.bl
        have hxi1 := hx2.trans hxi
        have HI2 := Lib.hid hI
        have HM1 := Lib.hid hm1
        have HM2 := Lib.hid hm2
        clear hI hm1 hm2
        by_cases hpn : p < T.n
        · have hpn' : (p : Int) < (T.n : Int) := by omega
          go_wp2_with fail
          go_loopg [5] (T.toTr.left r2) (fun gg v wx => ∃ (mv : Bool) (r3 : Nat → List Int), v = .bool mv ∧ gg = T.toTr.left r3 ∧ StI T w2 r3 wx ∧ T.toTr.left r3 ≤ T.toTr.left rows ∧ (mv = true → T.toTr.left r3 < T.toTr.left rows) ∧ (mv = false → ∀ q, q < p → ¬ T.toTr.Ready r3 q))
          case atStart => exact ⟨mv, r2, rfl, rfl, HI2.out, HM0.out, HM1.out, HM2.out⟩
          case round =>
            obtain ⟨mv, r3, rfl, rfl, hI, hm0, hm1, hm2⟩ := hrel
            have HM0 := Lib.hid hm0
            clear hm0
            have hxx := hI.bl
            have hxx1 := hx2.trans hxx
            have HI3 := Lib.hid hI
            have HM1 := Lib.hid hm1
            have HM2 := Lib.hid hm2
            clear hI hm1 hm2
            have hTx := HT.out.ext (hx1.trans hxx1)
            obtain ⟨vs, hst⟩ := HI3.out.st
            by_cases hR : T.toTr.Ready r3 p
            · have hA := advance_yes _ T hTx HV.out w2.heap.size w2.heap.size T.n r3 vs hst (Nat.le_refl _) hxx.le (HI3.out.pt.small hn8 HE.out) p hpn hR
              simp only [TM.val, pa] at hA
              have HP := Lib.hid (HI3.out.pt.push hpn hR)
              have HL := Lib.hid (HI3.out.pt.left hpn hR)
              clear hst hTx hR
              go_wp2_with (go_at_call 38; refine hA.mono ?_; rintro e w5 ⟨rfl, hs5, hb5⟩)
              go_roundg (T.toTr.left (updR r3 p (r3 p ++ [T.toTr.next r3 p])))
              case rel => exact ⟨true, _, rfl, rfl, ⟨hs5, Below.trans hxx hb5, HP.out⟩, Nat.le_trans (Nat.le_of_lt HL.out) HM0.out, (fun _ => Nat.lt_of_lt_of_le HL.out HM0.out), fun h => by cases h⟩
              case measure => exact HL.out
            · have hA := advance_no _ T hTx HV.out w2.heap.size w2.heap.size T.n r3 vs hst p hpn (HI3.out.pt.le p hpn) hR
              simp only [TM.val, pa] at hA
              have HR := Lib.hid hR
              clear hst hTx hR
              go_wp2_with (go_at_call 38; refine hA.mono ?_; rintro e w5 ⟨rfl, hx5⟩)
              go_roundg (T.n - (p + 1))
              case rel => exact ⟨mv, r3, p + 1, rfl, by go_num, by omega, rfl, HI3.out.ext (by omega) hx5, HM0.out, HM1.out, fun h q hq => by
                rcases Nat.lt_or_ge q p with h' | h'
                · exact HM2.out h q h'
                · obtain rfl : q = p := by omega
                  exact HR.out⟩
              case measure => omega
        · have hpn' : ¬ (p : Int) < (T.n : Int) := by omega
          go_wp2_with fail
          go_roundg (if mv then T.toTr.left r2 + 1 else 0)
          case rel => exact ⟨mv, r2, rfl, HI2.out, fun h => by rw [h]; simp, fun h q hq => HM2.out h q (by omega)⟩
          case measure =>
            have h1 := HM.out
            cases mv with
            | true => have := HM1.out rfl; simp; omega
            | false => simp; omega

end Go.Proofs.Ytecgigeeolindaa
