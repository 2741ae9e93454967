/- The library's tables, as the rows of chapter 56 list them; a world that holds them. The walk of the law DiagramColumns. -/
import Derived.Test.YtmhapcnlpoilpaaGreatDoorCards
import Derived.Test.YtmhapcnlpoilpaaGreatDoorTie
import Derived.Test.YtmhapcnlpoilpaaGreatDoorK65
import Derived.Deep.DeepHandedRow
import Derived.Lib.LaidTab
import Derived.Stop.LaidErr
import Derived.LaidSub
import Derived.Test.YtmhapcnlpoilpaaGreatDoorK72
import Derived.Test.YtmhapcnlpoilpaaGreatDoorK71
import Derived.Test.YtmhapcnlpoilpaaGreatDoorK69
import Derived.Test.YtmhapcnlpoilpaaGreatDoorK16
import Derived.Test.YtmhapcnlpoilpaaGreatDoorK18
namespace Go.Proofs.YtmhapcnlpoilpaaGreatDoor
open Go.ChangeShapes Go.WideShapes Go.ChangeAt Go.RowKit
theorem gPowTy : (Tryz.prog.globals[3]?).map (·.type) = some 251 := by kernel_rfl
theorem cellsPow : Tryz.prog.cellsOf 251 = 20 := by kernel_rfl
theorem cellsU64 : Tryz.prog.cellsOf 231 = 1 := by kernel_rfl
theorem powData : (Rows.laid_internal_strconv_uint64pow10 : DataW Unit) = Lib.tabData .u64 Lib.pow10Tab := by kernel_rfl
abbrev laid56 : List (String × DataW Unit) := [("math/bits.deBruijn32tab", Rows.laid_math_bits_deBruijn32tab), ("math/bits.deBruijn64tab", Rows.laid_math_bits_deBruijn64tab), ("internal/strconv.uint64pow10", Rows.laid_internal_strconv_uint64pow10), ("unicode/utf8.acceptRanges", Rows.laid_unicode_utf8_acceptRanges), ("unicode/utf8.first", Rows.laid_unicode_utf8_first)]
theorem laid56_plain : laid56.filter (fun x => x.2.handleName?.isNone) = laid56 := by rfl
theorem tb_of {W : World} (h : laidMetH Tryz.prog laid56 W) : Tb W := by
 have h1 := (laidMetH_iff.1 h).1
 rw [laid56_plain] at h1
 have h2 : laidMet Tryz.prog [("internal/strconv.uint64pow10", Rows.laid_internal_strconv_uint64pow10), ("unicode/utf8.acceptRanges", Rows.laid_unicode_utf8_acceptRanges), ("unicode/utf8.first", Rows.laid_unicode_utf8_first)] W := laidMet.tail (laidMet.tail h1)
 rw [powData] at h2
 exact Lib.tabIs_of_head gPow gPowTy Tryz.underlying251 Tryz.underlying231 cellsU64 cellsPow h2
def dat1 : DataW Unit → List Value
 | .lit (.int k n) => [.int k n]
 | _ => []
def dat2 : DataW Unit → List Value
 | .agg l => l.flatMap fun d => match d with
  | .agg m => m.flatMap dat1
  | d => dat1 d
 | _ => []
def putG (h : Array Obj) (g : Nat) (cs : List Value) : Array Obj := h.modify g fun
 | .cells _ t frozen => .cells cs.toArray t frozen
 | o => o
noncomputable def laidWorld (os : Os) : World :=
 { World.holding Tryz.prog os ⟨#[], #[], []⟩ with
  heap := putG (putG (putG (putG (putG (World.holding Tryz.prog os ⟨#[], #[], []⟩).heap 4 (dat2 Rows.laid_math_bits_deBruijn32tab)) 5 (dat2 Rows.laid_math_bits_deBruijn64tab)) 3 (dat2 Rows.laid_internal_strconv_uint64pow10)) 2 (dat2 Rows.laid_unicode_utf8_acceptRanges)) 1 (dat2 Rows.laid_unicode_utf8_first) }
end Go.Proofs.YtmhapcnlpoilpaaGreatDoor

namespace Go.Proofs.YtmhapcnlpoilpaaGreatDoor.diagramColumns
open Go.ChangeShapes Go.WideShapes Go.ChangeAt Go.RowKit Go.Proofs.YtmhapcnlpoilpaaGreatDoor
set_option linter.unusedVariables false
def TruePost (w : World) (e : Ending) (w' : World) : Prop := e = .returned (.bool true) ∧ Ext w w'
set_option maxRecDepth 100000 in
set_option maxHeartbeats 4000000 in
theorem walk (T : TM) (w : World) (hT : T.At w) (hTb : Tb w) : Calls Tryz.prog 4 #[T.val] w (TruePost w) := by
 have HT := Lib.hid hT
 have HTB := Lib.hid hTb
 have HSZ := Lib.hid (fun W (x : Ext w W) => size_any W T (hT.ext x))
 have HVL := Lib.hid (fun W (x : Ext w W) => rvalid_any W T (hT.ext x))
 have HCL := Lib.hid (fun W (x : Ext w W) => dcols_any W T (hT.ext x))
 have HBF := Lib.hid (fun W (x : Ext w W) (hV : T.toTr.Valid) y z (hy : T.toTr.V y) (hz : T.toTr.V z) b hb => cbefore_any W T (hT.ext x) hV y z hy hz b hb)
 obtain ⟨ta, hta⟩ : ∃ z, z = T.a := ⟨_, rfl⟩
 simp only [TM.val, ← hta] at HSZ HVL HCL HBF ⊢
 have HTA := Lib.hid hta
 clear hT hTb hta
 go_enter Tryz.func4, Tryz.ntmps4
 go_upto_region 1 with fail
 refine boxed1 (w := w) (G := fun x => Code.wp _ _ _ _ x) ?_
 intro w1 hx1 hs1 ⟨l0, c0, _, _⟩
 have hx11 : Ext w1 w1 := Ext.refl _
 clear hs1
 go_wp2_with fail
 go_at_call 7
 refine (awake56_any w1 (HTB.out.ext hx1)).mono ?_
 rintro e w2 ⟨rfl, hx2⟩
 have hxw2 := hx1.trans hx2
 go_wp2_with fail
 go_at_call 8
 refine (HSZ.out w2 hxw2).mono ?_
 rintro e w3 ⟨hx3, k, rfl, hk⟩
 have hxw3 := hxw2.trans hx3
 have hx13 := hx2.trans hx3
 by_cases h60 : 60 < k
 ·have b1 : decide ((60 : Int) < (k : Int)) = true := decide_eq_true (by omega)
  have b1' : decide (60 < k) = true := decide_eq_true h60
  go_wp2_with fail
  go_ret
  exact ⟨rfl, hxw3⟩
 have b1 : decide ((60 : Int) < (k : Int)) = false := decide_eq_false (by omega)
 have b1' : decide (60 < k) = false := decide_eq_false h60
 go_wp2_with fail
 go_at_call 12
 refine (HVL.out w3 hxw3).mono ?_
 rintro e w4 ⟨b, rfl, hb, hx4⟩
 have HB := Lib.hid hb
 have hxw4 := hxw3.trans hx4
 have hx14 := hx13.trans hx4
 clear hb h60 hk
 cases b with
 | false =>
  go_wp2_with fail
  go_ret
  exact ⟨rfl, hxw4⟩
 | true =>
  have HV := Lib.hid (HB.out.1 rfl)
  have hn1 := HV.out.n1
  have hn8 := HV.out.n8
  clear HB
  go_wp2_with fail
  go_at_call 9
  refine (HCL.out w4 hxw4).mono ?_
  rintro e w5 ⟨hx5, hp⟩
  obtain ⟨base, rows, vs, hbase, rfl, hst, hsp⟩ : ∃ base rows vs, w4.heap.size ≤ base ∧ e = .returned (.tuple #[.slice (some ⟨base, 0, none⟩) T.n T.n, .int .i64 0]) ∧ StS base base T.n (dec rows) vs w5 ∧ T.toTr.Stamps rows := by
   rcases hp with ⟨_, h⟩ | ⟨h, _⟩
   ·exact h
   ·exact absurd HV.out h
  have hxw5 := hxw4.trans hx5
  have hx15 := hx14.trans hx5
  have h55 : Ext w5 w5 := Ext.refl _
  have HSP := Lib.hid hsp
  have HRD := Lib.hid (fun p (hp : p < T.n) => hst.readD hp (hsp.len p hp))
  have HEN := Lib.hid (show ∀ q, q < T.n → T.en q ≤ 64 from fun q hq => by have := (HV.out.pr q hq).2.2.2.2; omega)
  have HSM := Lib.hid (show ∀ p i, p < T.n → i < T.en p → 1 ≤ (rows p).getD i 0 ∧ (rows p).getD i 0 ≤ 512 from fun p i hp hi => by
   have h1 := hsp.sm p i hp hi
   have h2 : tot T.en T.n ≤ T.n * 64 := tot_small fun k hk => HEN.out k hk
   omega)
  have HMB := Lib.hid (show ∀ x q j m, ColM T.toTr rows x q j m → -1 ≤ m ∧ m ≤ 512 from fun x q j m h => by
   refine ⟨h.lo, ?_⟩
   rcases h.at' with h1 | ⟨y, h1, _, h2⟩
   ·omega
   ·have := HSM.out y.1 y.2 h1.1 h1.2
    have h3 : (rows y.1).getD y.2 0 - 1 = m := h2
    omega)
  obtain rfl : ta = some ⟨T.b, T.off, none⟩ := by rw [HTA.out]; exact HT.out.P.pa (by omega)
  clear hp hst hsp hbase HCL HVL HSZ
  go_wp2_with fail
  go_loopg [45] T.n (fun gg v45 wr => ∃ p : Nat, p ≤ T.n ∧ gg = T.n - p ∧ v45 = .int .i64 p ∧ Ext w5 wr)
  case atStart => exact ⟨0, by omega, rfl, rfl, h55⟩
  case round =>
   obtain ⟨p, hp, rfl, rfl, hxr⟩ := hrel
   have hxwr := hxw5.trans hxr
   have hx1r := hx15.trans hxr
   have hrr : Ext wr wr := Ext.refl _
   by_cases hlt : p < T.n
   ·have hlt' : (p : Int) < (T.n : Int) := by omega
    have pb := HT.out.P.pb (by omega)
    have p0 : ∀ w', Ext w w' → w'.cell? ⟨T.b, T.off + p * 3, none⟩ = some (.string (T.name p)) := fun w' h => HT.out.P.p0 w' h p hlt
    have p1 : ∀ w', Ext w w' → w'.cell? ⟨T.b, T.off + p * 3 + 1, none⟩ = some (.slice (T.va p) (T.vn p) (T.vc p)) := fun w' h => HT.out.P.p1 w' h p hlt
    have p2 : ∀ w', Ext w w' → w'.cell? ⟨T.b, T.off + p * 3 + 2, none⟩ = some (.slice (T.ea p) (T.en p) (T.ec p)) := fun w' h => HT.out.P.p2 w' h p hlt
    obtain ⟨av, g, cv, hbl, cb, ci⟩ := HRD.out p hlt
    have hbl2 : ∀ w', Ext w5 w' → base < w'.heap.size := fun w' x => Nat.lt_of_lt_of_le hbl x.le
    clear ci
    go_upto_region 11 with fail
    refine boxed1 (w := wr) (G := fun x => Code.wp _ _ _ _ x) ?_
    intro w6 hx6 hs6 ⟨l6, c6, _, _⟩
    have hx66 : Ext w6 w6 := Ext.refl _
    have hx56 := hxr.trans hx6
    clear hs6 p0 p1 p2 pb
    generalize wr.heap.size = xb at l6 c6 ⊢
    go_quiet (fail)
    have hq := hx56.drewN nq
    go_wp2_with fail
    go_roundg (T.n - (p + 1))
    case rel => exact ⟨p + 1, by omega, rfl, by go_num, hq⟩
    case measure => omega
   ·have hlt' : ¬ (p : Int) < (T.n : Int) := by omega
    obtain rfl : p = T.n := by omega
    go_wp2_with fail
    go_loopg [62] T.n (fun gg v62 wr => ∃ p : Nat, p ≤ T.n ∧ gg = T.n - p ∧ v62 = .int .i64 p ∧ Ext w5 wr)
    case atStart => exact ⟨0, by omega, rfl, rfl, hxr⟩
    case round =>
     obtain ⟨p, hp, rfl, rfl, hxp⟩ := hrel
     have hxwp := hxw5.trans hxp
     have hx1p := hx15.trans hxp
     by_cases hpn : p < T.n
     ·have hpn' : (p : Int) < (T.n : Int) := by omega
      obtain ⟨av, g, cv, hbl, cb, ci⟩ := HRD.out p hpn
      have hbl2 : ∀ w', Ext w5 w' → base < w'.heap.size := fun w' x => Nat.lt_of_lt_of_le hbl x.le
      have hen := HEN.out p hpn
      have HCI := Lib.hid ci
      clear ci hbl
      go_wp2_with fail
      go_loopg [70] (T.en p) (fun gg v70 wi => ∃ i : Nat, i ≤ T.en p ∧ gg = T.en p - i ∧ v70 = .int .i64 i ∧ Ext w5 wi)
      case atStart => exact ⟨0, by omega, rfl, rfl, hxp⟩
      case round =>
       obtain ⟨i, hi, rfl, rfl, hxi⟩ := hrel
       have hxwi := hxw5.trans hxi
       have hx1i := hx15.trans hxi
       by_cases hip : i < T.en p
       ·have hip' : (i : Int) < (T.en p : Int) := by omega
        obtain ⟨rfl, gl, gc⟩ := HCI.out i hip
        have gl2 : ∀ w', Ext w5 w' → g < w'.heap.size := fun w' x => Nat.lt_of_lt_of_le gl x.le
        obtain ⟨cz, hcz⟩ : ∃ cz, cz = (rows p).getD i 0 - 1 := ⟨_, rfl⟩
        have hcb := HSM.out p i hpn hip
        have hczb : 0 ≤ cz ∧ cz ≤ 512 := by omega
        rw [← hcz] at gc
        have HCZ := Lib.hid hcz
        have hwi1 : IntKind.i64.wrap ((i : Int) + 1) = (i : Int) + 1 := IntWalk.i64_in _ (by omega)
        clear hcz hcb gl
        go_upto_region 21 with fail
        refine boxed1 (w := wr) (G := fun x => Code.wp _ _ _ _ x) ?_
        intro w6 hx6 hs6 ⟨l6, c6, _, _⟩
        have hx66 : Ext w6 w6 := Ext.refl _
        have hx56 := hxi.trans hx6
        have hxw6 := hxwi.trans hx6
        have hx16 := hx1i.trans hx6
        clear hs6 gc
        generalize wr.heap.size = xb at l6 c6 ⊢
        go_wp2_with fail
        go_loopg [11, 81] T.n (fun gg v11 v81 wq => ∃ (q : Nat) (m : Int), q ≤ T.n ∧ gg = T.n - q ∧ v11 = .int .i64 m ∧ v81 = .int .i64 q ∧ ColM T.toTr rows (p, i) q 0 m ∧ Ext w6 wq)
        case atStart => exact ⟨0, -1, by omega, rfl, rfl, rfl, ColM.zero, hx66⟩
        case round =>
         obtain ⟨q, m, hq, rfl, rfl, rfl, hcm, hxq⟩ := hrel
         have hx5q := hx56.trans hxq
         have hxwq := hxw6.trans hxq
         have hx1q := hx16.trans hxq
         have hmb := HMB.out _ _ _ _ hcm
         have HCM := Lib.hid hcm
         clear hcm
         by_cases hqn : q < T.n
         ·have hqn' : (q : Int) < (T.n : Int) := by omega
          obtain ⟨av2, g2, cv2, hbl3, cb2, ci2⟩ := HRD.out q hqn
          have heq := HEN.out q hqn
          have HCI2 := Lib.hid ci2
          clear ci2 hbl3
          go_wp2_with fail
          go_loopg [11, 89] (T.en q) (fun gg v11 v89 wj => ∃ (j : Nat) (m : Int), j ≤ T.en q ∧ gg = T.en q - j ∧ v11 = .int .i64 m ∧ v89 = .int .i64 j ∧ ColM T.toTr rows (p, i) q j m ∧ Ext w6 wj)
          case atStart => exact ⟨0, m, by omega, rfl, rfl, rfl, HCM.out, hxq⟩
          case round =>
           obtain ⟨j, m, hj, rfl, rfl, rfl, hcm, hxj⟩ := hrel
           have hx5j := hx56.trans hxj
           have hxwj := hxw6.trans hxj
           have hx1j := hx16.trans hxj
           have hmb := HMB.out _ _ _ _ hcm
           have HCM := Lib.hid hcm
           clear hcm
           by_cases hjq : j < T.en q
           ·have hjq' : (j : Int) < (T.en q : Int) := by omega
            obtain ⟨rfl, gl3, gc2⟩ := HCI2.out j hjq
            have gl4 : ∀ w', Ext w5 w' → g2 < w'.heap.size := fun w' x => Nat.lt_of_lt_of_le gl3 x.le
            obtain ⟨oz, hoz⟩ : ∃ oz, oz = (rows q).getD j 0 - 1 := ⟨_, rfl⟩
            have hob := HSM.out q j hqn hjq
            have hozb : 0 ≤ oz ∧ oz ≤ 512 := by omega
            rw [← hoz] at gc2
            have HOZ := Lib.hid hoz
            have hwj1 : IntKind.i64.wrap ((j : Int) + 1) = (j : Int) + 1 := IntWalk.i64_in _ (by omega)
            obtain ⟨b, hbb⟩ := exists_bool (T.toTr.Bef (q, j) (p, i))
            have HB := Lib.hid (fun W (x : Ext w W) => HBF.out W x HV.out (q, j) (p, i) ⟨hqn, hjq⟩ ⟨hpn, hip⟩ b hbb)
            have HBB := Lib.hid hbb
            clear hoz hob gl3 hbb
            go_wp2_with fail
            go_at_call 19
            refine (HB.out _ hxwj).mono ?_
            rintro e w8 ⟨rfl, hx8⟩
            have hx68 := hxj.trans hx8
            cases b with
            | false =>
             go_wp2_with fail
             go_roundg (T.en q - (j + 1))
             case rel => exact ⟨j + 1, m, by omega, rfl, rfl, by go_num, HCM.out.no fun h => (by have := HBB.out.2 h; cases this), hx68⟩
             case measure => omega
            | true =>
             go_wp2_with fail
             go_roundg (T.en q - (j + 1))
             case rel => exact ⟨j + 1, max m oz, by omega, rfl, rfl, by go_num, by rw [HOZ.out]; exact HCM.out.yes ⟨hqn, hjq⟩ (by first | exact HBB.out.1 trivial | exact HBB.out.1 rfl), hx68⟩
             case measure => omega
           ·have hjq' : ¬ (j : Int) < (T.en q : Int) := by omega
            obtain rfl : j = T.en q := by omega
            go_wp2_with fail
            go_roundg (T.n - (q + 1))
            case rel => exact ⟨q + 1, m, by omega, rfl, rfl, by go_num, HCM.out.row, hxj⟩
            case measure => omega
         ·have hqn' : ¬ (q : Int) < (T.n : Int) := by omega
          obtain rfl : q = T.n := by omega
          have hm1 : IntKind.i64.wrap (m + 1) = cz := by
           rw [IntWalk.i64_in _ (by omega), HCZ.out]
           exact (HCM.out.done HSP.out ⟨hpn, hip⟩).symm
          go_wp2_with fail
          go_roundg (T.en p - (i + 1))
          case rel => exact ⟨i + 1, by omega, rfl, by go_num, hx5q⟩
          case measure => omega
       ·have hip' : ¬ (i : Int) < (T.en p : Int) := by omega
        obtain rfl : i = T.en p := by omega
        go_wp2_with fail
        go_roundg (T.n - (p + 1))
        case rel => exact ⟨p + 1, by omega, rfl, by go_num, hxi⟩
        case measure => omega
     ·have hpn' : ¬ (p : Int) < (T.n : Int) := by omega
      obtain rfl : p = T.n := by omega
      go_wp2_with fail
      go_ret
      exact ⟨rfl, hxwp⟩
end Go.Proofs.YtmhapcnlpoilpaaGreatDoor.diagramColumns
