/- The walk of the law DiagramDraws. A slice of numbers that came in: the reading. -/
import Derived.Test.YtmhapcnlpoilpaaGreatDoorK72
import Derived.Test.YtmhapcnlpoilpaaGreatDoorK71
import Derived.Test.YtmhapcnlpoilpaaGreatDoorK76
import Derived.Test.YtmhapcnlpoilpaaGreatDoorK78
import Derived.Test.YtmhapcnlpoilpaaGreatDoorK16
import Derived.Test.YtmhapcnlpoilpaaGreatDoorK18
import Derived.Test.YtmhapcnlpoilpaaGreatDoorK20
namespace Go.Proofs.YtmhapcnlpoilpaaGreatDoor.diagramDraws
open Go.ChangeShapes Go.WideShapes Go.ChangeAt Go.RowKit Go.Proofs.YtmhapcnlpoilpaaGreatDoor
set_option linter.unusedVariables false
def TruePost (w : World) (e : Ending) (w' : World) : Prop := e = .returned (.bool true) ∧ Ext w w'
theorem most_nn {T : Tr} {rows : Nat → List Int} {m : Int} (h : T.Most rows m) (hs : T.Stamps rows) : 0 ≤ m := by
 rcases h.at' with e | ⟨k, i, hk, hi, e⟩
 ·omega
 ·have := hs.sm k i hk (by rw [← hs.len k hk]; exact hi); omega
theorem drawn (T : TM) (w : World) (hT : T.At w) (hV : T.toTr.Valid) {l : List UInt8} (h : DrawIs T.toTr none l) : Calls Tryz.prog 16 #[T.val] w fun e w' => e = .returned (.string (bts l)) ∧ Ext w w' := by
 obtain ⟨rows, m, h1, h2, rfl⟩ := h
 have h0 := most_nn h2 h1
 exact rdraw56_any w T hT hV rows h1 m h2 m.toNat (by omega)
theorem cutted (T : TM) (w : World) (hT : T.At w) {a : Option Addr} {g o n cap : Nat} {v : Nat → Int} (hC : NumAt w n a g o v) (hI : T.toTr.IsCut n v) {l : List UInt8} (h : DrawIs T.toTr (some v) l) : Calls Tryz.prog 18 #[T.val, .slice a n cap] w fun e w' => e = .returned (.string (bts l)) ∧ Ext w w' := by
 obtain ⟨rows, m, h1, h2, rfl⟩ := h
 have h0 := most_nn h2 h1
 obtain ⟨⟨hV, rfl⟩, hR, _⟩ := hI
 have h3 := rcut56_any w T hT hV rows h1 m h2 m.toNat (by omega) a g o cap v hC hR (fun p i => (rows p).getD i 0 - 1) rfl
 rw [Tr.refD_some h1 h2 rfl (fun p hp => (hR p hp).2) rfl (fun p i hp hi => by
  have hf : FormedP T.toTr p (T.kind p i) (T.peer p i) (T.msg p i) := hV.formed ⟨(p, i), hp, hi⟩
  have : 0 ≤ T.msg p i := by rcases hf with h | h <;> omega
  exact this) (Nat.le_refl _)] at h3
 exact h3
set_option maxRecDepth 100000 in
set_option maxHeartbeats 4000000 in
theorem walk (T : TM) (C : IntD) (w : World) (hT : T.At w) (hC : C.At w) (hTb : Tb w) (hML : MaxL w) : Calls Tryz.prog 3 #[T.val, .slice C.s.a C.s.n C.s.c] w (TruePost w) := by
 have HTB := Lib.hid hTb
 have hnum : NumAt w C.s.n C.s.a C.s.b C.s.o C.z := ⟨hC.s.hn, hC.s.ha, hC.s.hb, fun k hk => (hC.c k hk).1⟩
 have hcn := hC.s.hn
 have HSZ := Lib.hid (fun W (x : Ext w W) => size_any W T (hT.ext x))
 have HVL := Lib.hid (fun W (x : Ext w W) => rvalid_any W T (hT.ext x))
 have HCL := Lib.hid (fun W (x : Ext w W) => dcols_any W T (hT.ext x))
 have HDW := Lib.hid (fun W (x : Ext w W) => ddraw_any W (hTb.ext x) T (hT.ext x))
 have HCT := Lib.hid (fun W (x : Ext w W) => dcut_any W (hTb.ext x) (hML.ext x) T (hT.ext x) C.s.a C.s.n C.s.c C.s.b C.s.o C.z (hnum.ext x))
 have HRC := Lib.hid (fun W (x : Ext w W) (hV : T.toTr.Valid) rows (hR : T.toTr.Stamps rows) => rcolumns_any W T (hT.ext x) hV rows hR)
 have HRD := Lib.hid (fun W (x : Ext w W) (hV : T.toTr.Valid) l (h : DrawIs T.toTr none l) => drawn T W (hT.ext x) hV h)
 have HRK := Lib.hid (fun W (x : Ext w W) (hI : T.toTr.IsCut C.s.n C.z) l (h : DrawIs T.toTr (some C.z) l) => cutted (cap := C.s.c) T W (hT.ext x) (hnum.ext x) hI h)
 have HCS := Lib.hid (fun W (x : Ext w W) (hV : T.toTr.Valid) => rcons56_any W T (hT.ext x) hV C.s.a C.s.b C.s.o C.s.n C.s.c C.z (hnum.ext x))
 obtain ⟨ta, hta⟩ : ∃ z, z = T.a := ⟨_, rfl⟩
 obtain ⟨ca, hca⟩ : ∃ z, z = C.s.a := ⟨_, rfl⟩
 obtain ⟨cn, hcn'⟩ : ∃ z, z = C.s.n := ⟨_, rfl⟩
 simp only [TM.val, ← hta, ← hca, ← hcn'] at HSZ HVL HCL HDW HCT HRC HRD HRK HCS ⊢
 rw [← hcn'] at hcn
 clear hT hTb hML hC hnum hta hca hcn'
 go_enter Tryz.func3, Tryz.ntmps3
 go_upto_region 1 with fail
 refine boxed1 (w := w) (G := fun x => Code.wp _ _ _ _ x) ?_
 intro w1 hx1 hs1 ⟨l0, c0, _, _⟩
 have hx11 : Ext w1 w1 := Ext.refl _
 clear hs1
 go_wp2_with fail
 go_at_call 7
 refine (awake56_any w1 (HTB.out.ext hx1)).mono ?_
 rintro e w2 ⟨rfl, hx2⟩
 have hxw2 := hx1.trans hx2
 go_wp2_with fail
 go_at_call 8
 refine (HSZ.out w2 hxw2).mono ?_
 rintro e w3 ⟨hx3, k, rfl, hk⟩
 have hxw3 := hxw2.trans hx3
 have hx13 := hx2.trans hx3
 by_cases h60 : 60 < k
 ·have b1 : decide ((60 : Int) < (k : Int)) = true := decide_eq_true (by omega)
  have b1' : decide (60 < k) = true := decide_eq_true h60
  go_wp2_with fail
  go_ret
  exact ⟨rfl, hxw3⟩
 have b1 : decide ((60 : Int) < (k : Int)) = false := decide_eq_false (by omega)
 have b1' : decide (60 < k) = false := decide_eq_false h60
 by_cases h20 : 20 < cn
 ·have b2 : decide ((20 : Int) < (cn : Int)) = true := decide_eq_true (by omega)
  have b2' : decide (20 < cn) = true := decide_eq_true h20
  go_wp2_with fail
  go_ret
  exact ⟨rfl, hxw3⟩
 have b2 : decide ((20 : Int) < (cn : Int)) = false := decide_eq_false (by omega)
 have b2' : decide (20 < cn) = false := decide_eq_false h20
 clear h60 h20 hk hcn
 by_cases hV : T.toTr.Valid
 ·have HV := Lib.hid hV
  have hn1 := hV.n1
  have hn8 := hV.n8
  clear hV
  go_wp2_with fail
  go_at_call 9
  refine (HCL.out w3 hxw3).mono ?_
  rintro e w4 ⟨hx4, hp⟩
  obtain ⟨base, rows, vs, hbase, rfl, hst, hsp⟩ : ∃ base rows vs, w3.heap.size ≤ base ∧ e = .returned (.tuple #[.slice (some ⟨base, 0, none⟩) T.n T.n, .int .i64 0]) ∧ StS base base T.n (dec rows) vs w4 ∧ T.toTr.Stamps rows := by
   rcases hp with ⟨_, h⟩ | ⟨h, _⟩
   ·exact h
   ·exact absurd HV.out h
  have hxw4 := hxw3.trans hx4
  have hx14 := hx13.trans hx4
  have HRW := Lib.hid (hst.rdR (en := T.en) (by omega) hsp.len)
  have HSP := Lib.hid hsp
  clear hp hbase hst hsp HCL HSZ
  go_wp2_with fail
  go_at_call 10
  refine (HDW.out w4 hxw4).mono ?_
  rintro e w5 ⟨hx5, hp⟩
  obtain ⟨l, hl, rfl⟩ : ∃ l, DrawIs T.toTr none l ∧ e = .returned (.tuple #[.string (bts (limS l)), .int .i64 (limE l)]) := by
   rcases hp with ⟨_, l, h1, h2⟩ | ⟨h, _⟩
   ·exact ⟨l, h1, by rw [h2, limV_eq]⟩
   ·exact absurd HV.out h
  have HL := Lib.hid hl
  have hxw5 := hxw4.trans hx5
  have hx15 := hx14.trans hx5
  have hx45 := hx5
  clear hp hl HDW
  go_wp2_with fail
  go_at_call 11
  refine (HCT.out w5 hxw5).mono ?_
  rintro e w6 ⟨hx6, hp⟩
  obtain ⟨s2, e2, rfl, hq⟩ : ∃ s2 e2, e = .returned (.tuple #[.string s2, .int .i64 e2]) ∧ ((T.toTr.IsCut cn C.z ∧ ∃ x, DrawIs T.toTr (some C.z) x ∧ s2 = bts (limS x) ∧ e2 = limE x) ∨ (¬ T.toTr.IsCut cn C.z ∧ s2 = ⟨#[]⟩ ∧ e2 = 18)) := by
   rcases hp with ⟨_, h0, x, h1, h2⟩ | ⟨_, h0, h1⟩ | ⟨h, _⟩
   ·exact ⟨_, _, by rw [h2, limV_eq], .inl ⟨h0, x, h1, rfl, rfl⟩⟩
   ·exact ⟨_, _, h1, .inr ⟨h0, rfl, rfl⟩⟩
   ·exact absurd HV.out h
  have HQ := Lib.hid hq
  have hxw6 := hxw5.trans hx6
  have hx16 := hx15.trans hx6
  have hx46 := hx45.trans hx6
  clear hp hq HCT
  go_wp2_with fail
  go_at_call 12
  refine (HVL.out w6 hxw6).mono ?_
  rintro e w7 ⟨b, rfl, hb, hx7⟩
  obtain rfl : b = true := hb.2 HV.out
  have hxw7 := hxw6.trans hx7
  have hx17 := hx16.trans hx7
  have hx47 := hx46.trans hx7
  clear hb HVL
  go_wp2_with fail
  go_at_call 14
  refine (HRC.out w7 hxw7 HV.out rows HSP.out).mono ?_
  rintro e w8 ⟨hx8, g, cc, rb, f, rfl, hat, hf⟩
  have hxw8 := hxw7.trans hx8
  have hx18 := hx17.trans hx8
  have hx48 := hx47.trans hx8
  have hr2 : RdR w8 g T.n T.en fun p i => (rows p).getD i 0 - 1 := ioMM_rdR hat (by omega) hf
  have HSR := Lib.hid (rsamerows_any w8 base g T.n T.n cc T.en (fun p i => (rows p).getD i 0 - 1) (HRW.out.ext hx48) hr2 (by omega) fun p hp => by have := (HV.out.pr p hp).2.2.2.2; omega)
  clear hat hf hr2 HRC
  go_wp2_with fail
  go_at_call 13
  refine HSR.out.mono ?_
  rintro e w9 ⟨rfl, hx9⟩
  have hxw9 := hxw8.trans hx9
  have hx19 := hx18.trans hx9
  clear HSR HRW
  go_wp2_with fail
  go_at_call 16
  refine (HRD.out w9 hxw9 HV.out l HL.out).mono ?_
  rintro e wA ⟨rfl, hxA⟩
  have hxwA := hxw9.trans hxA
  have hx1A := hx19.trans hxA
  clear HRD HL
  go_wp2_with fail
  go_at_call 15
  refine (rtext_any wA l).mono ?_
  rintro e wB ⟨rfl, hxB⟩
  have hxwB := hxwA.trans hxB
  have hx1B := hx1A.trans hxB
  go_wp2_with fail
  go_at_call 17
  refine (HCS.out wB hxwB HV.out).mono ?_
  rintro e wC ⟨b, rfl, hb, hxC⟩
  have hxwC := hxwB.trans hxC
  have hx1C := hx1B.trans hxC
  have HB := Lib.hid hb
  clear hb HCS
  cases b with
  | false =>
   have hI : ¬ T.toTr.IsCut cn C.z := fun h => absurd (HB.out.2 h) Bool.false_ne_true
   obtain ⟨rfl, rfl⟩ : s2 = ⟨#[]⟩ ∧ e2 = 18 := by
    rcases HQ.out with ⟨h, _⟩ | ⟨_, h⟩
    ·exact absurd h hI
    ·exact h
   clear hI HB HQ
   go_wp2_with fail
   go_ret
   exact ⟨rfl, hxwC⟩
  | true =>
   have hI : T.toTr.IsCut cn C.z := HB.out.1 rfl
   obtain ⟨x, hx, rfl, rfl⟩ : ∃ x, DrawIs T.toTr (some C.z) x ∧ s2 = bts (limS x) ∧ e2 = limE x := by
    rcases HQ.out with ⟨_, h⟩ | ⟨h, _⟩
    ·exact h
    ·exact absurd hI h
   have HK := Lib.hid (HRK.out wC hxwC hI x hx)
   clear hI HB HQ hx HRK
   go_wp2_with fail
   go_at_call 18
   refine HK.out.mono ?_
   rintro e wD ⟨rfl, hxD⟩
   go_wp2_with fail
   go_at_call 15
   refine (rtext_any wD x).mono ?_
   rintro e wE ⟨rfl, hxE⟩
   go_wp2_with fail
   go_ret
   exact ⟨rfl, (hxwC.trans hxD).trans hxE⟩
 ·have HNV := Lib.hid hV
  clear hV
  go_wp2_with fail
  go_at_call 9
  refine (HCL.out w3 hxw3).mono ?_
  rintro e w4 ⟨hx4, hp⟩
  obtain rfl : e = .returned (.tuple #[.slice none 0 0, .int .i64 1]) := by
   rcases hp with ⟨h, _⟩ | ⟨_, h⟩
   ·exact absurd h HNV.out
   ·exact h
  have hxw4 := hxw3.trans hx4
  have hx14 := hx13.trans hx4
  clear hp HCL HSZ
  go_wp2_with fail
  go_at_call 10
  refine (HDW.out w4 hxw4).mono ?_
  rintro e w5 ⟨hx5, hp⟩
  obtain rfl : e = .returned (.tuple #[.string ⟨#[]⟩, .int .i64 1]) := by
   rcases hp with ⟨h, _⟩ | ⟨_, h⟩
   ·exact absurd h HNV.out
   ·exact h
  have hxw5 := hxw4.trans hx5
  have hx15 := hx14.trans hx5
  clear hp HDW
  go_wp2_with fail
  go_at_call 11
  refine (HCT.out w5 hxw5).mono ?_
  rintro e w6 ⟨hx6, hp⟩
  obtain rfl : e = .returned (.tuple #[.string ⟨#[]⟩, .int .i64 1]) := by
   rcases hp with ⟨h, _⟩ | ⟨h, _⟩ | ⟨_, h⟩
   ·exact absurd h HNV.out
   ·exact absurd h HNV.out
   ·exact h
  have hxw6 := hxw5.trans hx6
  have hx16 := hx15.trans hx6
  clear hp HCT
  go_wp2_with fail
  go_at_call 12
  refine (HVL.out w6 hxw6).mono ?_
  rintro e w7 ⟨b, rfl, hb, hx7⟩
  obtain rfl : b = false := by
   cases b
   ·rfl
   ·exact absurd (hb.1 rfl) HNV.out
  clear hb HVL
  go_wp2_with fail
  go_ret
  exact ⟨rfl, hxw6.trans hx7⟩
end Go.Proofs.YtmhapcnlpoilpaaGreatDoor.diagramDraws

namespace Go.Proofs.YtmhapcnlpoilpaaGreatDoor
open Go.ChangeShapes Go.WideShapes Go.RowKit Go.Deep
section
variable {H : Type} {enc : TypeId × Value → H} {W : World}
set_option maxRecDepth 100000 in
theorem arg_ints {r : Reach} {b0 : Nat} {v : Value} {d : DataW H} {p : List MemPlace} (hv : Value.okWide Tryz.prog W r b0 25 v) (h : DataW.Trod enc Tryz.prog W 0 (fun _ => true) true 25 v d p) (hs : Small Tryz.prog 25 d) :
    ∃ D : IntD, v = .slice D.s.a D.s.n D.s.c ∧ D.At W := by
 obtain ⟨a0, len, cap, rfl⟩ := okWide_slice Tryz.underlying25 hv
 obtain ⟨fuel, hf⟩ := h
 obtain ⟨D, e, hD⟩ := open_nums (x := (d, p)) hf hs
 refine ⟨D, ?_, hD⟩
 simpa [Value.cells] using e
end
theorem IntD.At.num {C : IntD} {w : World} (hC : C.At w) : NumAt w C.s.n C.s.a C.s.b C.s.o C.z := ⟨hC.s.hn, hC.s.ha, hC.s.hb, fun k hk => (hC.c k hk).1⟩
end Go.Proofs.YtmhapcnlpoilpaaGreatDoor
