/- PROVED HERE: 'DiagramShape' returns true for every trace and every list of numbers, in every memory that holds the library's tables as the program lays them. -/
import Derived.Test.YtmhapcnlpoilpaaGreatDoorK73
import Derived.Test.YtmhapcnlpoilpaaGreatDoorK79
import Derived.Test.YtmhapcnlpoilpaaGreatDoorK18
import Derived.Shelf.Vars
import Derived.Test.YtmhapcnlpoilpaaGreatDoorK72
import Derived.Test.YtmhapcnlpoilpaaGreatDoorK71
import Derived.Test.YtmhapcnlpoilpaaGreatDoorK76
import Derived.Test.YtmhapcnlpoilpaaGreatDoorK82
import Derived.Test.YtmhapcnlpoilpaaGreatDoorK16
import Derived.Lib.QuietBelow
namespace Go.Proofs.YtmhapcnlpoilpaaGreatDoor.diagramShape
open Go.ChangeShapes Go.WideShapes Go.ChangeAt Go.RowKit Go.Proofs.YtmhapcnlpoilpaaGreatDoor
attribute [local go_sem] Oper.semAt_some
set_option linter.unusedVariables false
def TruePost (w : World) (e : Ending) (w' : World) : Prop := e = .returned (.bool true) ∧ Ext w w'
theorem bts_nem {l : List UInt8} (h : l ≠ []) : (bts l).toList.isEmpty = false := by
 cases l with
 | nil => exact absurd rfl h
 | cons x r => rw [ByteArray.toList_eq]; rfl
theorem filt_step {L : List (List UInt8)} {j : Nat} (hj : j < L.length) : (L.take (j + 1)).filter (· ≠ []) = (L.take j).filter (· ≠ []) ++ if L.getD j [] = [] then [] else [L.getD j []] := by
 rw [List.take_succ_eq_append_getElem hj, List.filter_append, List.getD_eq_getElem?_getD, List.getElem?_eq_getElem hj, Option.getD_some]
 by_cases e : L[j] = []
 ·rw [if_pos e]; simp [e]
 ·rw [if_neg e]; simp [e]
structure LbI (w : World) (L : List (List UInt8)) (j : Nat) (v : Value) (wr : World) : Prop where
 x : Ext w wr
 q : Que wr w.heap.size 1 v ((L.take j).filter (· ≠ [])).length (strV ((L.take j).filter (· ≠ [])))
theorem LbI.ext {w wr w' : World} {L : List (List UInt8)} {j : Nat} {v : Value} (h : LbI w L j v wr) (x : Ext wr w') : LbI w L j v w' := ⟨h.x.trans x, h.q.ext x⟩
theorem lab_case {T : Tr} {p i : Nat} (hV : T.Valid) (hp : p < T.n) (hi : i < T.en p) : (T.kind p i = 1 ∧ T.lab p i = [111]) ∨ (T.kind p i = 2 ∧ ∃ r, r ≠ [] ∧ T.lab p i = 115 :: r) ∨ (T.kind p i = 3 ∧ ∃ r, r ≠ [] ∧ T.lab p i = 114 :: r) := by
 have hf : FormedP T p (T.kind p i) (T.peer p i) (T.msg p i) := hV.formed ⟨(p, i), hp, hi⟩
 have hm : 0 ≤ T.msg p i := by rcases hf with h | h <;> omega
 have hk : T.kind p i = 1 ∨ T.kind p i = 2 ∨ T.kind p i = 3 := by rcases hf with h | h <;> omega
 have hne : Lib.itoa (T.msg p i) ≠ [] := by
  unfold Lib.itoa; rw [if_neg (by omega), Lib.decDigits]
  split
  ·simp
  ·simp
 rcases hk with h | h | h
 ·refine .inl ⟨h, ?_⟩
  unfold Tr.lab labL; rw [h]; rfl
 ·refine .inr (.inl ⟨h, _, hne, ?_⟩)
  unfold Tr.lab labL; rw [h]; rfl
 ·refine .inr (.inr ⟨h, _, hne, ?_⟩)
  unfold Tr.lab labL; rw [h]; rfl
set_option maxRecDepth 100000 in
set_option maxHeartbeats 4000000 in
theorem walk (T : TM) (C : IntD) (w : World) (hT : T.At w) (hC : C.At w) (hTb : Tb w) (hML : MaxL w) : Calls Tryz.prog 5 #[T.val, .slice C.s.a C.s.n C.s.c] w (TruePost w) := by
 have HTB := Lib.hid hTb
 have HML := Lib.hid hML
 have hnum : NumAt w C.s.n C.s.a C.s.b C.s.o C.z := ⟨hC.s.hn, hC.s.ha, hC.s.hb, fun k hk => (hC.c k hk).1⟩
 have hcn := hC.s.hn
 obtain ⟨j0, hj0, hy0, hy1, hy2⟩ := info_parts infoStr
 have HT := Lib.hid hT
 have HSZ := Lib.hid (fun W (x : Ext w W) => size_any W T (hT.ext x))
 have HVL := Lib.hid (fun W (x : Ext w W) => rvalid_any W T (hT.ext x))
 have HDW := Lib.hid (fun W (x : Ext w W) => ddraw_any W (hTb.ext x) T (hT.ext x))
 have HCT := Lib.hid (fun W (x : Ext w W) => dcut_any W (hTb.ext x) (hML.ext x) T (hT.ext x) C.s.a C.s.n C.s.c C.s.b C.s.o C.z (hnum.ext x))
 obtain ⟨ta, hta⟩ : ∃ z, z = T.a := ⟨_, rfl⟩
 obtain ⟨ca, hca⟩ : ∃ z, z = C.s.a := ⟨_, rfl⟩
 obtain ⟨cn, hcn'⟩ : ∃ z, z = C.s.n := ⟨_, rfl⟩
 simp only [TM.val, ← hta, ← hca, ← hcn'] at HSZ HVL HDW HCT ⊢
 rw [← hcn'] at hcn
 have HTA := Lib.hid hta
 clear hT hTb hML hC hnum hta hca hcn'
 go_enter Tryz.func5, Tryz.ntmps5
 go_upto_region 1 with fail
 refine boxed1 (w := w) (G := fun x => Code.wp _ _ _ _ x) ?_
 intro w1 hx1 hs1 ⟨l0, c0, _, _⟩
 have hx11 : Ext w1 w1 := Ext.refl _
 clear hs1
 go_wp2_with fail
 go_at_call 7
 refine (awake56_any w1 (HTB.out.ext hx1)).mono ?_
 rintro e w2 ⟨rfl, hx2⟩
 have hxw2 := hx1.trans hx2
 go_wp2_with fail
 go_at_call 8
 refine (HSZ.out w2 hxw2).mono ?_
 rintro e w3 ⟨hx3, k, rfl, hk⟩
 have hxw3 := hxw2.trans hx3
 have hx13 := hx2.trans hx3
 by_cases h60 : 60 < k
 ·have b1 : decide ((60 : Int) < (k : Int)) = true := decide_eq_true (by omega)
  have b1' : decide (60 < k) = true := decide_eq_true h60
  go_wp2_with fail
  go_ret
  exact ⟨rfl, hxw3⟩
 have b1 : decide ((60 : Int) < (k : Int)) = false := decide_eq_false (by omega)
 have b1' : decide (60 < k) = false := decide_eq_false h60
 by_cases h20 : 20 < cn
 ·have b2 : decide ((20 : Int) < (cn : Int)) = true := decide_eq_true (by omega)
  have b2' : decide (20 < cn) = true := decide_eq_true h20
  go_wp2_with fail
  go_ret
  exact ⟨rfl, hxw3⟩
 have b2 : decide ((20 : Int) < (cn : Int)) = false := decide_eq_false (by omega)
 have b2' : decide (20 < cn) = false := decide_eq_false h20
 clear h60 h20 hk hcn
 go_wp2_with fail
 go_at_call 12
 refine (HVL.out w3 hxw3).mono ?_
 rintro e w4 ⟨b, rfl, hb, hx4⟩
 have HB := Lib.hid hb
 have hxw4 := hxw3.trans hx4
 have hx14 := hx13.trans hx4
 clear hb HVL HSZ
 cases b with
 | false =>
  go_wp2_with fail
  go_ret
  exact ⟨rfl, hxw4⟩
 | true =>
  have HV := Lib.hid (HB.out.1 rfl)
  have hn1 := HV.out.n1
  have hn8 := HV.out.n8
  clear HB
  go_wp2_with fail
  go_at_call 10
  refine (HDW.out w4 hxw4).mono ?_
  rintro e w5 ⟨hx5, hp⟩
  obtain ⟨l, hl, rfl⟩ : ∃ l, DrawIs T.toTr none l ∧ e = .returned (limV l) := by
   rcases hp with ⟨_, l, h1, h2⟩ | ⟨h, _⟩
   ·exact ⟨l, h1, h2⟩
   ·exact absurd HV.out h
  have HL := Lib.hid hl
  have hxw5 := hxw4.trans hx5
  have hx15 := hx14.trans hx5
  clear hp hl HDW
  by_cases hbig : 16384 < l.length
  ·rw [show limV l = .tuple #[.string ⟨#[]⟩, .int .i64 5] from if_pos hbig]
   clear hbig
   go_wp2_with fail
   go_ret
   exact ⟨rfl, hxw5⟩
  rw [show limV l = .tuple #[.string (bts l), .int .i64 0] from if_neg hbig]
  obtain ⟨ln, nm, lin, N, K, hok, hspl⟩ := drawIs_ok HV.out HL.out
  have HOK := Lib.hid hok
  have HSPL := Lib.hid hspl
  have hsz := bts_size l
  obtain ⟨Ls, hLs⟩ : ∃ Ls, Ls = (List.range T.n).map ln ++ [[]] := ⟨_, rfl⟩
  have hLl : Ls.length = T.n + 1 := by rw [hLs]; simp
  have HLS := Lib.hid hLs
  have HLE := Lib.hid (show ∀ p, p < T.n → Ls.getD p [] = ln p from fun p hp => by
   rw [hLs, List.getD_eq_getElem?_getD, List.getElem?_append_left (by simpa using hp), List.getElem?_map, List.getElem?_range hp]; rfl)
  have HLN := Lib.hid (show Ls.getD T.n [] = [] from by
   rw [hLs, List.getD_eq_getElem?_getD, List.getElem?_append_right (by simp)]; simp)
  have HBG := Lib.hid hbig
  have HSP := Lib.hid (fun W (x : Ext w W) => split_any W (HML.out.ext x) l 10 Ls (by rw [HSPL.out, hLs]) (by omega))
  rw [hLl] at HSP
  clear hbig hok hspl hLs
  go_wp2_with fail
  go_at_call 20
  refine (HSP.out w5 hxw5).mono ?_
  rintro e w6 ⟨rfl, hw6⟩
  have hx56 : Ext w5 w6 := by rw [hw6]; exact (Ext.refl w5).alloc' _
  have HR6 := Lib.hid (show SRow w6 w5.heap.size (T.n + 1) (fun j => Ls.getD j []) from by rw [hw6, ← hLl]; exact SRow.new w5 Ls)
  obtain ⟨gb, hgb⟩ : ∃ z, z = w5.heap.size := ⟨_, rfl⟩
  rw [← hgb] at HR6 ⊢
  clear hgb hw6 HSP
  have hxw6 := hxw5.trans hx56
  have hx16 := hx15.trans hx56
  have h66 : Ext w6 w6 := Ext.refl _
  have hwn : IntKind.i64.wrap ((T.n : Int) + 1) = (T.n : Int) + 1 := IntWalk.i64_in _ (by omega)
  have cN : ∀ w', Ext w6 w' → w'.cell? ⟨gb, T.n, none⟩ = some (.string ⟨#[]⟩) := fun w' x => by
   rw [x.cell (HR6.out.c T.n (by omega)), HLN.out]; rfl
  have cL : ∀ w', Ext w6 w' → gb < w'.heap.size := fun w' x => Nat.lt_of_lt_of_le HR6.out.lt x.le
  have hnn' : (T.n : Int) < (T.n : Int) + 1 := by omega
  have c00 : ∀ w', Ext w6 w' → w'.cell? ⟨gb, 0, none⟩ = some (.string (bts (ln 0))) := fun w' x => by
   rw [x.cell (HR6.out.c 0 (by omega)), HLE.out 0 (by omega)]
  have HNM := Lib.hid (show ∀ p, p < T.n → (nm p).length ≤ 16 from fun p hp => by
   have h1 := nameB_len (HV.out.pr p hp).1
   rw [show T.name p = bts (nm p) from HOK.out.name p, bts_size] at h1
   exact h1)
  have HKB := Lib.hid (show ∀ p, p < T.n → (ln p).length ≤ 16384 ∧ (padL (nm p) 32 N ++ [32]).length ≤ 16384 ∧ (lin p ++ [124]).length ≤ 16384 from fun p hpp => by
   have h1 : (ln p).length ≤ l.length := by
    refine splitK_len [10] (Lib.count l [10]) l (ln p) ?_
    show ln p ∈ Lib.split l [10]
    rw [HSPL.out]
    exact List.mem_append_left _ (List.mem_map_of_mem (List.mem_range.2 hpp))
   have h4 := HBG.out
   have h5 := HOK.out.eq p
   have h6 : (ln p).length = (padL (nm p) 32 N ++ [32]).length + 1 + (lin p ++ [124]).length := by rw [h5]; simp; omega
   omega)
  obtain rfl : ta = some ⟨T.b, T.off, none⟩ := by rw [HTA.out]; exact HT.out.P.pa (by omega)
  go_wp2_with fail
  go_loopg [71] T.n (fun gg v71 wr => ∃ p : Nat, p ≤ T.n ∧ gg = T.n - p ∧ v71 = .int .i64 p ∧ Ext w6 wr)
  case atStart => exact ⟨0, by omega, rfl, rfl, h66⟩
  case round =>
   obtain ⟨p, hp, rfl, rfl, hxr⟩ := hrel
   have hxwr := hxw6.trans hxr
   have hx1r := hx16.trans hxr
   by_cases hpn : p < T.n
   ·have hpn' : (p : Int) < (T.n : Int) := by omega
    have hpn1 : (p : Int) < (T.n : Int) + 1 := by omega
    have hen : T.en p ≤ 64 := (HV.out.pr p hpn).2.2.2.2
    have pb := HT.out.P.pb (by omega)
    obtain ⟨na, hna⟩ : ∃ na, na = nm p := ⟨_, rfl⟩
    have hnb : T.name p = bts na := by rw [hna]; exact HOK.out.name p
    have p0 : ∀ w', Ext w w' → w'.cell? ⟨T.b, T.off + p * 3, none⟩ = some (.string (bts na)) := fun w' h => by rw [← hnb]; exact HT.out.P.p0 w' h p hpn
    have p1 : ∀ w', Ext w w' → w'.cell? ⟨T.b, T.off + p * 3 + 1, none⟩ = some (.slice (T.va p) (T.vn p) (T.vc p)) := fun w' h => HT.out.P.p1 w' h p hpn
    obtain ⟨ea, hea⟩ : ∃ z, z = T.ea p := ⟨_, rfl⟩
    have p2 : ∀ w', Ext w w' → w'.cell? ⟨T.b, T.off + p * 3 + 2, none⟩ = some (.slice ea (T.en p) (T.ec p)) := fun w' h => by rw [hea]; exact HT.out.P.p2 w' h p hpn
    have HEA := Lib.hid hea
    have HNA := Lib.hid hna
    clear hea hnb hna
    go_upto_region 14 with fail
    refine boxed1 (w := wr) (G := fun x => Code.wp _ _ _ _ x) ?_
    intro w7 hx7 hs7 ⟨l7, c7, _, _⟩
    have h77 : Ext w7 w7 := Ext.refl _
    have hx67 := hxr.trans hx7
    have hxw7 := hxwr.trans hx7
    clear hs7 p0 p1 p2 pb
    generalize wr.heap.size = xb at l7 c7 ⊢
    obtain ⟨lp, hlp⟩ : ∃ z, z = ln p := ⟨_, rfl⟩
    obtain ⟨l00, hl00⟩ : ∃ z, z = ln 0 := ⟨_, rfl⟩
    obtain ⟨ap, hap⟩ : ∃ z, z = padL (nm p) 32 N ++ [32] := ⟨_, rfl⟩
    obtain ⟨li, hli⟩ : ∃ z, z = lin p := ⟨_, rfl⟩
    obtain ⟨hb1, hb2, hb3⟩ := HKB.out p hpn
    have hb4 : li.length ≤ 16384 := by rw [hli]; rw [List.length_append] at hb3; omega
    rw [← hlp] at hb1
    rw [← hap] at hb2
    have cp : ∀ w', Ext w6 w' → w'.cell? ⟨gb, p, none⟩ = some (.string (bts lp)) := fun w' x => by
     rw [x.cell (HR6.out.c p (by omega)), HLE.out p hpn, hlp]
    rw [← hl00] at c00
    have hz1 : (bts lp).size = K := by rw [bts_size, hlp]; exact HOK.out.len p hpn
    have hz0 : (bts l00).size = K := by rw [bts_size, hl00]; exact HOK.out.len 0 (by omega)
    have HCU := Lib.hid (fun W (x : Ext w W) => cut_any W (HML.out.ext x) lp ap (li ++ [124]) 124 (by rw [hlp, hap, hli]; exact HOK.out.cut p hpn) (by omega))
    have HTR := Lib.hid (fun W => trim_any W ap na (by rw [hap, HNA.out]; exact HOK.out.trim p hpn) (by omega))
    have HSU := Lib.hid (fun W => hasSuf_any W li (by omega))
    have HTS := Lib.hid (fun W => trimSuf_any W li (by omega))
    obtain ⟨Wd, hWd⟩ : ∃ Wd, Wd = Lib.split li [45] := ⟨_, rfl⟩
    have HWF := Lib.hid (show Wd.filter (· ≠ []) = (List.range (T.en p)).map (T.toTr.lab p) from by rw [hWd, hli]; exact HOK.out.wrd p hpn)
    have HSW := Lib.hid (fun W (x : Ext w W) => split_any W (HML.out.ext x) li 45 Wd hWd.symm (by omega))
    have hWl : Wd.length ≤ 20000 := by
     have h1 : (Lib.splitK [45] 0 (Lib.count li [45]) li).length ≤ Lib.count li [45] + 1 := splitK_cnt _ _ _
     have h2 : Lib.count li [45] ≤ li.length := by rw [Lib.count_one]; exact List.count_le_length
     rw [hWd]; unfold Lib.split; omega
    clear hlp hl00 hap hli hWd hb1 hb2 hb3
    go_upto_region 16 with (go_at_call 21; refine (HCU.out _ hxw7).mono ?_; rintro e w8 ⟨rfl, hx8⟩)
    have hx78 := hx8
    have hx68 := hx67.trans hx8
    have hxw8 := hxw7.trans hx8
    have hg6 : ∀ d os, Ext w6 (Sort.grow (redrawn w8 d) os) := fun d os => hx68.trans (below_regrown w8 d os)
    have hg7 : ∀ d os, Ext w7 (Sort.grow (redrawn w8 d) os) := fun d os => hx78.trans (below_regrown w8 d os)
    refine wp_region_quiet_below (by kernel_rfl) (by kernel_rfl) ?_
    repeat (go_big_quiet_step (first | exact Calls.regrown_of (HTR.out _) | exact Calls.regrown_of (HSU.out _)))
    refine wpQuiet_nil ?_
    intro _ hw'
    obtain ⟨⟨dq, osq⟩, hw''⟩ := hw'
    subst hw''
    have hx69 := hg6 dq osq
    have hx79 := hg7 dq osq
    generalize Sort.grow (redrawn w8 dq) osq = w9 at hx69 hx79 ⊢
    have hxw9 := hxw6.trans hx69
    clear hg6 hg7 hz1 hz0
    go_wp2_with fail
    go_at_call 24
    refine (HTS.out _).mono ?_
    rintro e wA ⟨rfl, hxA⟩
    have hxwA := hxw9.trans hxA
    have hx6A := hx69.trans hxA
    have hx7A := hx79.trans hxA
    go_wp2_with fail
    go_at_call 20
    refine (HSW.out _ hxwA).mono ?_
    rintro e wB ⟨rfl, hwB⟩
    have hxB : Ext wA wB := by rw [hwB]; exact (Ext.refl wA).alloc' _
    have HRB := Lib.hid (show SRow wB wA.heap.size Wd.length (fun j => Wd.getD j []) from by rw [hwB]; exact SRow.new wA Wd)
    clear hwB
    have hx6B := hx6A.trans hxB
    have hx7B := hx7A.trans hxB
    have hxwB := hxwA.trans hxB
    have hBB : Ext wB wB := Ext.refl _
    obtain ⟨gw, hgw⟩ : ∃ z, z = wA.heap.size := ⟨_, rfl⟩
    rw [← hgw] at HRB ⊢
    clear hgw
    go_wp2_with fail
    have gwl : ∀ w', Ext wB w' → gw < w'.heap.size := fun w' x => Nat.lt_of_lt_of_le HRB.out.lt x.le
    go_loopg [14, 113] Wd.length (fun gg v14 v113 wk => ∃ j : Nat, j ≤ Wd.length ∧ gg = Wd.length - j ∧ v113 = .int .i64 j ∧ LbI wB Wd j v14 wk)
    case atStart => exact ⟨0, by omega, rfl, rfl, ⟨hBB, Que.nil _ _ _⟩⟩
    case round =>
     obtain ⟨j, hj, rfl, rfl, hI⟩ := hrel
     obtain ⟨a14, c14, hv14⟩ := hI.q.slice
     subst hv14
     have hxk := hI.x
     have hx7k := hx7B.trans hxk
     have hxwk := hxwB.trans hxk
     have hx6k := hx6B.trans hxk
     have HI := Lib.hid hI
     obtain ⟨Lj, hLj⟩ : ∃ Lj, Lj = (Wd.take j).filter (· ≠ []) := ⟨_, rfl⟩
     obtain ⟨kj, hkj⟩ : ∃ kj, kj = Lj.length := ⟨_, rfl⟩
     have hkb : kj ≤ 20000 := by
      rw [hkj, hLj]
      exact Nat.le_trans (List.length_filter_le _ _) (by rw [List.length_take]; omega)
     rw [← hLj, ← hkj]
     have HLJ := Lib.hid (And.intro hLj hkj)
     clear hI hLj hkj
     by_cases hjl : j < Wd.length
     ·have hjl' : (j : Int) < (Wd.length : Int) := by omega
      by_cases hem : Wd.getD j [] = []
      ·have cw : ∀ w', Ext wB w' → w'.cell? ⟨gw, j, none⟩ = some (.string ⟨#[]⟩) := fun w' x => by
         rw [x.cell (HRB.out.c j hjl), hem]; rfl
       have HST := Lib.hid (show (Wd.take (j + 1)).filter (· ≠ []) = Lj from by rw [filt_step hjl, if_pos hem, List.append_nil, HLJ.out.1])
       clear hem
       go_wp2_with fail
       go_roundg (Wd.length - (j + 1))
       case rel => exact ⟨j + 1, by omega, rfl, by go_num, hxk, by rw [HST.out, ← HLJ.out.2]; have := HI.out.q; rw [← HLJ.out.1, ← HLJ.out.2] at this; exact this⟩
       case measure => omega
      ·obtain ⟨wd, hwd⟩ : ∃ wd, wd = Wd.getD j [] := ⟨_, rfl⟩
       have cw : ∀ w', Ext wB w' → w'.cell? ⟨gw, j, none⟩ = some (.string (bts wd)) := fun w' x => by
        rw [x.cell (HRB.out.c j hjl), hwd]
       have HST := Lib.hid (show (Wd.take (j + 1)).filter (· ≠ []) = Lj ++ [wd] from by rw [filt_step hjl, if_neg hem, HLJ.out.1, hwd])
       have hwe : wd ≠ [] := by rw [hwd]; exact hem
       have hne : ((bts wd).toList == (⟨#[]⟩ : ByteArray).toList) = false := bts_ne hwe
       have hne2 : (bts wd).toList.isEmpty = false := bts_nem hwe
       clear hem hwd hwe
       go_wp2_with (at_builtin; refine wpList_append_que _ rfl _ _ 50 50 rfl (base := wB.heap.size) (e := 9) (size := 1) j0 (.string ⟨#[]⟩) 16 Tryz.underlying50 hj0 hy0 hy1 hy2 rfl rfl (v := .slice a14 kj c14) (n := kj) (xs := strV Lj) (by have := (HI.out.ext (Ext.alloc wr (.cells #[.string (bts wd)] 9))).q; rw [← HLJ.out.1, ← HLJ.out.2] at this; exact this) (by rw [World.size_alloc]; have := hxk.le; omega) (.slice (some ⟨wr.heap.size, 0, none⟩) 1 1) 1 [.string (bts wd)] rfl (by exact Src.ofSlice _ Tryz.underlying50 ⟨wr.heap.size, 0, none⟩ 1 1 _ rfl (news_ok wr _ _) (one_str _)) (by unfold maxLen; omega) (by omega) ?_; rintro v9 wx hq9 hg9 -; have HQ9 := Lib.hid (And.intro hq9 hg9); clear hq9 hg9)
       go_roundg (Wd.length - (j + 1))
       case rel => exact ⟨j + 1, by omega, rfl, by go_num, ⟨Below.grown (hxk.trans (Ext.alloc wr (.cells #[.string (bts wd)] 9))) HQ9.out.2 (by rw [World.size_alloc]; have := hxk.le; omega) (fun g e => by have h1 := HI.out.q.block g (by rw [← HLJ.out.1, ← HLJ.out.2]; exact e); omega), by rw [HST.out, List.length_append, ← HLJ.out.2]; simpa [strV] using HQ9.out.1⟩⟩
       case measure => omega
     ·have hjl' : ¬ (j : Int) < (Wd.length : Int) := by omega
      have hLB : Lj = (List.range (T.en p)).map (T.toTr.lab p) := by rw [HLJ.out.1, List.take_of_length_le (by omega)]; exact HWF.out
      obtain rfl : kj = T.en p := by rw [HLJ.out.2, hLB]; simp
      have hq := HI.out.q
      rw [← HLJ.out.1, ← HLJ.out.2] at hq
      obtain ⟨g4, o4, hstr⟩ := hq.strs HLJ.out.2.symm
      have HSTR := Lib.hid hstr
      have HLB := Lib.hid (show ∀ i, i < T.en p → Lj.getD i [] = T.toTr.lab p i from fun i hi => by
       rw [hLB, List.getD_eq_getElem?_getD, List.getElem?_map, List.getElem?_range hi]; rfl)
      have hkk : Ext wr wr := Ext.refl _
      obtain ⟨wo, hwo⟩ : ∃ wo, wo = wr := ⟨_, rfl⟩
      have hoo : Ext wo wr := by rw [hwo]; exact hkk
      have HSTRo := Lib.hid (show ∀ i, i < T.en p → a14 = some ⟨g4, o4, none⟩ ∧ g4 < wo.heap.size ∧ wo.cell? ⟨g4, o4 + i, none⟩ = some (.string (bts (Lj.getD i []))) from by rw [hwo]; exact hstr)
      have hx7o : Ext w7 wo := by rw [hwo]; exact hx7k
      have hxwo : Ext w wo := by rw [hwo]; exact hxwk
      have hx6o : Ext w6 wo := by rw [hwo]; exact hx6k
      clear hLB hq hstr hwo
      go_wp2_with fail
      go_loopg [133] (T.en p) (fun gg v133 wi => ∃ i : Nat, i ≤ T.en p ∧ gg = T.en p - i ∧ v133 = .int .i64 i ∧ Ext wo wi)
      case atStart => exact ⟨0, by omega, rfl, rfl, hoo⟩
      case round =>
       obtain ⟨i, hi, rfl, rfl, hxi⟩ := hrel
       have hx7i := hx7o.trans hxi
       have hxwi := hxwo.trans hxi
       have hx6i := hx6o.trans hxi
       by_cases hie : i < T.en p
       ·have hie' : (i : Int) < (T.en p : Int) := by omega
        obtain ⟨kz, hkz⟩ : ∃ kz, kz = T.kind p i := ⟨_, rfl⟩
        obtain rfl : ea = some ⟨T.eb p, T.eo p, none⟩ := by rw [HEA.out]; exact HT.out.E.ea p hpn (by omega)
        have eb := HT.out.E.eb p hpn (by omega)
        have e0 : ∀ w', Ext w w' → w'.cell? ⟨T.eb p, T.eo p + i * 5, none⟩ = some (.int .i64 kz) := fun w' x => by rw [hkz]; exact HT.out.E.e0 w' x p i hpn hie
        have e1 : ∀ w', Ext w w' → w'.cell? ⟨T.eb p, T.eo p + i * 5 + 1, none⟩ = some (.int .i64 (T.peer p i)) := fun w' x => HT.out.E.e1 w' x p i hpn hie
        have e2 : ∀ w', Ext w w' → w'.cell? ⟨T.eb p, T.eo p + i * 5 + 2, none⟩ = some (.int .i64 (T.msg p i)) := fun w' x => HT.out.E.e2 w' x p i hpn hie
        have e3 : ∀ w', Ext w w' → w'.cell? ⟨T.eb p, T.eo p + i * 5 + 3, none⟩ = some (.int .i64 (T.time p i)) := fun w' x => HT.out.E.e3 w' x p i hpn hie
        have e4 : ∀ w', Ext w w' → w'.cell? ⟨T.eb p, T.eo p + i * 5 + 4, none⟩ = some (.slice (T.aa p i) (T.an p i) (T.ac p i)) := fun w' x => HT.out.E.e4 w' x p i hpn hie
        obtain ⟨hav, hg4, hc4⟩ := HSTRo.out i hie
        try subst hav
        obtain ⟨lz, hlz⟩ : ∃ lz, lz = T.toTr.lab p i := ⟨_, rfl⟩
        have c4 : ∀ w', Ext wo w' → w'.cell? ⟨g4, o4 + i, none⟩ = some (.string (bts lz)) := fun w' x => by rw [x.cell hc4, HLB.out i hie, hlz]
        have l4 : ∀ w', Ext wo w' → g4 < w'.heap.size := fun w' x => Nat.lt_of_lt_of_le hg4 x.le
        have hlc := lab_case HV.out hpn hie
        rw [show T.toTr.kind p i = kz from hkz.symm, ← hlz] at hlc
        obtain ⟨qz, hqz⟩ : ∃ qz, (bts lz).size = qz := ⟨_, rfl⟩
        have hql : qz = lz.length := by rw [← hqz, bts_size]
        have HLC := Lib.hid (And.intro hlc hql)
        clear hkz hlz hc4 hg4 hlc hql
        go_upto_region 30 with fail
        refine boxed1 (w := wr) (G := fun x => Code.wp _ _ _ _ x) ?_
        intro wy hxy hsy ⟨ly, cy, _, _⟩
        have hyy : Ext wy wy := Ext.refl _
        have hxoy := hxi.trans hxy
        have hx7y := hx7i.trans hxy
        have hxwy := hxwi.trans hxy
        clear hsy e0 e1 e2 e3 e4 eb
        generalize wr.heap.size = yb at ly cy ⊢
        obtain ⟨hlc, hql⟩ := HLC.out
        rcases hlc with ⟨rfl, hlz⟩ | ⟨rfl, r, hr, hlz⟩ | ⟨rfl, r, hr, hlz⟩
        ·have hq1 : qz = 1 := by rw [hql, hlz]; rfl
         have hgt : decide ((1 : Int) < (qz : Int)) = false := decide_eq_false (by omega)
         have hgt' : decide (1 < qz) = false := decide_eq_false (by omega)
         clear hq1 hql
         have hs1 : ∀ W, (Instr.slice 9 (.string (bts lz)) none (some (.int .i64 1)) none).run Tryz.prog W = .ok (.string ⟨#[111]⟩) W := fun W => by
          have h := slice_to W lz 1 (by rw [hlz]; simp)
          rw [hlz] at h ⊢
          exact h
         have hwk : IntKind.i64.wrap ((1 : Int) - 1) = 0 := IntWalk.i64_in _ (by omega)
         clear hlz
         go_upto_region 31 with fail
         refine wp_region_held_drew (S := fun w' => Ext wy w') (by kernel_rfl) (Ext.refl _).drew (fun hHeld => ?_)
         refine heldTake 0 (v := ?_) rfl (by kernel_rfl) (by kernel_rfl) (by kernel_rfl) (fun _ _ _ h => h) (Or.inl ⟨by rfl, ?_⟩) (by assumption) ?_
         rotate_left
         ·(intro w' hSw; (try dsimp only at hSw); have hS1 := hxoy.trans hSw; go_simp; try with_reducible rfl)
         try simp only [Act.put, List.setIfInBounds_toArray, List.set_cons_zero, List.set_cons_succ]
         refine heldTake 2 (v := ?_) rfl (by kernel_rfl) (by kernel_rfl) (by kernel_rfl) (fun _ _ _ h => h) (Or.inl ⟨by rfl, ?_⟩) (by assumption) ?_
         rotate_left
         ·(intro w' hSw; (try dsimp only at hSw); have hS1 := hxoy.trans hSw; go_simp; try with_reducible rfl)
         try simp only [Act.put, List.setIfInBounds_toArray, List.set_cons_zero, List.set_cons_succ]
         refine heldTake 3 (v := ?_) rfl (by kernel_rfl) (by kernel_rfl) (by kernel_rfl) (fun _ _ _ h => h) (Or.inl ⟨by rfl, ?_⟩) (by assumption) ?_
         rotate_left
         ·(intro w' hSw; (try dsimp only at hSw); have hS1 := hxoy.trans hSw; go_simp; try with_reducible rfl)
         try simp only [Act.put, List.setIfInBounds_toArray, List.set_cons_zero, List.set_cons_succ]
         refine heldTake 4 (v := ?_) rfl (by kernel_rfl) (by kernel_rfl) (by kernel_rfl) (fun _ _ _ h => h) (Or.inl ⟨by rfl, ?_⟩) (by assumption) ?_
         rotate_left
         ·(intro w' hSw; (try dsimp only at hSw); have hS1 := hxoy.trans hSw; go_simp; try with_reducible rfl)
         try simp only [Act.put, List.setIfInBounds_toArray, List.set_cons_zero, List.set_cons_succ]
         refine wpAnyH_ready (rs := [1]) (by kernel_rfl) (by simp) ?_
         refine AllReadyH.cons rfl (fun K hK => ?_) AllReadyH.nil
         go_simp
         have hxNew := (Ext.refl wy).drew.alloc' (.cells #[.string ⟨#[111]⟩, .string ⟨#[115]⟩, .string ⟨#[114]⟩] 9)
         refine hK.out _ _ ?_ (fun hHeld2 => ?_)
         ·exact hxNew
         clear hK K
         try simp only [Act.put, List.setIfInBounds_toArray, List.set_cons_zero, List.set_cons_succ]
         refine wpAnyH_ready (rs := [5]) (by kernel_rfl) (by simp) ?_
         refine AllReadyH.cons rfl (fun K hK => ?_) AllReadyH.nil
         go_simp
         refine hK.out _ _ ?_ (fun hHeld3 => ?_)
         ·exact hxNew
         clear hK K
         try simp only [Act.put, List.setIfInBounds_toArray, List.set_cons_zero, List.set_cons_succ]
         refine wpAnyH_ready (rs := [6]) (by kernel_rfl) (by simp) ?_
         refine AllReadyH.cons rfl (fun K hK => ?_) AllReadyH.nil
         go_simp
         refine hK.out _ _ ?_ (fun hHeld4 => ?_)
         ·exact hxNew
         clear hK K
         try simp only [Act.put, List.setIfInBounds_toArray, List.set_cons_zero, List.set_cons_succ]
         refine wpAnyH_ready (rs := [7]) (by kernel_rfl) (by simp) ?_
         refine AllReadyH.cons rfl (fun K hK => ?_) AllReadyH.nil
         go_simp
         refine hK.out _ _ ?_ (fun hHeld5 => ?_)
         ·exact hxNew
         clear hK K
         try simp only [Act.put, List.setIfInBounds_toArray, List.set_cons_zero, List.set_cons_succ]
         refine wpAnyH_ready (rs := [8]) (by kernel_rfl) (by simp) ?_
         refine AllReadyH.cons rfl (fun K hK => ?_) AllReadyH.nil
         go_simp
         refine hK.out _ _ ?_ (fun hHeld6 => ?_)
         ·exact hxNew
         clear hK K
         try simp only [Act.put, List.setIfInBounds_toArray, List.set_cons_zero, List.set_cons_succ]
         refine heldTake 9 (v := ?_) rfl (by kernel_rfl) (by kernel_rfl) (by kernel_rfl) (fun _ _ _ h => h) (Or.inl ⟨by rfl, ?_⟩) (by assumption) ?_
         rotate_left
         ·(intro w' hSw; (try dsimp only at hSw); have hS1 := hxoy.trans hSw; go_simp; try with_reducible rfl)
         try simp only [Act.put, List.setIfInBounds_toArray, List.set_cons_zero, List.set_cons_succ]
         refine heldTake 10 (v := ?_) rfl (by kernel_rfl) (by kernel_rfl) (by kernel_rfl) (fun _ _ _ h => h) (Or.inl ⟨by rfl, ?_⟩) (by assumption) ?_
         rotate_left
         ·(intro w' hSw; (try dsimp only at hSw); have hS1 := hxoy.trans hSw; go_simp; try with_reducible rfl)
         try simp only [Act.put, List.setIfInBounds_toArray, List.set_cons_zero, List.set_cons_succ]
         refine heldTake 11 (v := ?_) rfl (by kernel_rfl) (by kernel_rfl) (by kernel_rfl) (fun _ _ _ h => h) (Or.inl ⟨by rfl, ?_⟩) (by assumption) ?_
         rotate_left
         ·(intro w' hSw; (try dsimp only at hSw); have hS1 := hxoy.trans hSw; go_simp; try with_reducible rfl)
         try simp only [Act.put, List.setIfInBounds_toArray, List.set_cons_zero, List.set_cons_succ]
         refine heldTake 12 (v := ?_) rfl (by kernel_rfl) (by kernel_rfl) (by kernel_rfl) (fun _ _ _ h => h) (Or.inl ⟨by rfl, ?_⟩) (by assumption) ?_
         rotate_left
         ·(intro w' hSw; (try dsimp only at hSw); have hS1 := hxoy.trans hSw; go_simp; try with_reducible rfl)
         try simp only [Act.put, List.setIfInBounds_toArray, List.set_cons_zero, List.set_cons_succ]
         refine heldTake 13 (v := ?_) rfl (by kernel_rfl) (by kernel_rfl) (by kernel_rfl) (fun _ _ _ h => h) (Or.inl ⟨by rfl, ?_⟩) (by assumption) ?_
         rotate_left
         ·(intro w' hSw; (try dsimp only at hSw); have hS1 := hxoy.trans hSw; go_simp; try with_reducible rfl)
         try simp only [Act.put, List.setIfInBounds_toArray, List.set_cons_zero, List.set_cons_succ]
         refine heldTake 14 (v := ?_) rfl (by kernel_rfl) (by kernel_rfl) (by kernel_rfl) (fun _ _ _ h => h) (Or.inl ⟨by rfl, ?_⟩) (by assumption) ?_
         rotate_left
         ·(intro w' hSw; (try dsimp only at hSw); have hS1 := hxoy.trans hSw; go_simp; try with_reducible rfl)
         try simp only [Act.put, List.setIfInBounds_toArray, List.set_cons_zero, List.set_cons_succ]
         refine heldTake 15 (v := ?_) rfl (by kernel_rfl) (by kernel_rfl) (by kernel_rfl) (fun _ _ _ h => h) (Or.inl ⟨by rfl, ?_⟩) (by assumption) ?_
         rotate_left
         ·(intro w' hSw; (try dsimp only at hSw); have hS1 := hxoy.trans hSw; go_simp; try with_reducible rfl)
         try simp only [Act.put, List.setIfInBounds_toArray, List.set_cons_zero, List.set_cons_succ]
         refine heldTake 16 (v := ?_) rfl (by kernel_rfl) (by kernel_rfl) (by kernel_rfl) (fun _ _ _ h => h) (Or.inl ⟨by rfl, ?_⟩) (by assumption) ?_
         rotate_left
         ·(intro w' hSw; (try dsimp only at hSw); have hS1 := hxoy.trans hSw; go_simp; try with_reducible rfl)
         try simp only [Act.put, List.setIfInBounds_toArray, List.set_cons_zero, List.set_cons_succ]
         refine heldTake 17 (v := ?_) rfl (by kernel_rfl) (by kernel_rfl) (by kernel_rfl) (fun _ _ _ h => h) (Or.inl ⟨by rfl, ?_⟩) (by assumption) ?_
         rotate_left
         ·(intro w' hSw; (try dsimp only at hSw); have hS1 := hxoy.trans hSw; go_simp; try with_reducible rfl)
         try simp only [Act.put, List.setIfInBounds_toArray, List.set_cons_zero, List.set_cons_succ]
         refine heldTake 18 (v := ?_) rfl (by kernel_rfl) (by kernel_rfl) (by kernel_rfl) (fun _ _ _ h => h) (Or.inl ⟨by rfl, ?_⟩) (by assumption) ?_
         rotate_left
         ·(intro w' hSw; (try dsimp only at hSw); have hS1 := hxoy.trans hSw; go_simp; try with_reducible rfl)
         try simp only [Act.put, List.setIfInBounds_toArray, List.set_cons_zero, List.set_cons_succ]
         refine wpAnyH_ready (rs := [19]) (by kernel_rfl) (by simp) ?_
         refine AllReadyH.cons rfl (fun K hK => ?_) AllReadyH.nil
         go_simp
         refine hK.out _ _ ?_ (fun hHeld7 => ?_)
         ·exact hxNew
         clear hK K
         try simp only [Act.put, List.setIfInBounds_toArray, List.set_cons_zero, List.set_cons_succ]
         refine wpAnyH_done (by kernel_rfl) ?_ _
         have hxNo := hxoy.trans hxNew
         clear hHeld hHeld2 hHeld3 hHeld4 hHeld5 hHeld6 hHeld7
         go_wp2_with fail
         go_roundg (T.en p - (i + 1))
         case rel => exact ⟨i + 1, by omega, rfl, by go_num, hxNo⟩
         case measure => omega
        ·have hq1 : 1 < qz := by
           cases r with
           | nil => exact absurd rfl hr
           | cons x y => rw [hql, hlz]; simp
         have hgt : decide ((1 : Int) < (qz : Int)) = true := decide_eq_true (by omega)
         have hgt' : decide (1 < qz) = true := decide_eq_true hq1
         clear hq1 hql hr
         have hs1 : ∀ W, (Instr.slice 9 (.string (bts lz)) none (some (.int .i64 1)) none).run Tryz.prog W = .ok (.string ⟨#[115]⟩) W := fun W => by
          have h := slice_to W lz 1 (by rw [hlz]; simp)
          rw [hlz] at h ⊢
          exact h
         have hwk : IntKind.i64.wrap ((2 : Int) - 1) = 1 := IntWalk.i64_in _ (by omega)
         clear hlz
         go_upto_region 31 with fail
         refine wp_region_held_drew (S := fun w' => Ext wy w') (by kernel_rfl) (Ext.refl _).drew (fun hHeld => ?_)
         refine heldTake 0 (v := ?_) rfl (by kernel_rfl) (by kernel_rfl) (by kernel_rfl) (fun _ _ _ h => h) (Or.inl ⟨by rfl, ?_⟩) (by assumption) ?_
         rotate_left
         ·(intro w' hSw; (try dsimp only at hSw); have hS1 := hxoy.trans hSw; go_simp; try with_reducible rfl)
         try simp only [Act.put, List.setIfInBounds_toArray, List.set_cons_zero, List.set_cons_succ]
         refine heldTake 2 (v := ?_) rfl (by kernel_rfl) (by kernel_rfl) (by kernel_rfl) (fun _ _ _ h => h) (Or.inl ⟨by rfl, ?_⟩) (by assumption) ?_
         rotate_left
         ·(intro w' hSw; (try dsimp only at hSw); have hS1 := hxoy.trans hSw; go_simp; try with_reducible rfl)
         try simp only [Act.put, List.setIfInBounds_toArray, List.set_cons_zero, List.set_cons_succ]
         refine heldTake 3 (v := ?_) rfl (by kernel_rfl) (by kernel_rfl) (by kernel_rfl) (fun _ _ _ h => h) (Or.inl ⟨by rfl, ?_⟩) (by assumption) ?_
         rotate_left
         ·(intro w' hSw; (try dsimp only at hSw); have hS1 := hxoy.trans hSw; go_simp; try with_reducible rfl)
         try simp only [Act.put, List.setIfInBounds_toArray, List.set_cons_zero, List.set_cons_succ]
         refine heldTake 4 (v := ?_) rfl (by kernel_rfl) (by kernel_rfl) (by kernel_rfl) (fun _ _ _ h => h) (Or.inl ⟨by rfl, ?_⟩) (by assumption) ?_
         rotate_left
         ·(intro w' hSw; (try dsimp only at hSw); have hS1 := hxoy.trans hSw; go_simp; try with_reducible rfl)
         try simp only [Act.put, List.setIfInBounds_toArray, List.set_cons_zero, List.set_cons_succ]
         refine wpAnyH_ready (rs := [1]) (by kernel_rfl) (by simp) ?_
         refine AllReadyH.cons rfl (fun K hK => ?_) AllReadyH.nil
         go_simp
         have hxNew := (Ext.refl wy).drew.alloc' (.cells #[.string ⟨#[111]⟩, .string ⟨#[115]⟩, .string ⟨#[114]⟩] 9)
         refine hK.out _ _ ?_ (fun hHeld2 => ?_)
         ·exact hxNew
         clear hK K
         try simp only [Act.put, List.setIfInBounds_toArray, List.set_cons_zero, List.set_cons_succ]
         refine wpAnyH_ready (rs := [5]) (by kernel_rfl) (by simp) ?_
         refine AllReadyH.cons rfl (fun K hK => ?_) AllReadyH.nil
         go_simp
         refine hK.out _ _ ?_ (fun hHeld3 => ?_)
         ·exact hxNew
         clear hK K
         try simp only [Act.put, List.setIfInBounds_toArray, List.set_cons_zero, List.set_cons_succ]
         refine wpAnyH_ready (rs := [6]) (by kernel_rfl) (by simp) ?_
         refine AllReadyH.cons rfl (fun K hK => ?_) AllReadyH.nil
         go_simp
         refine hK.out _ _ ?_ (fun hHeld4 => ?_)
         ·exact hxNew
         clear hK K
         try simp only [Act.put, List.setIfInBounds_toArray, List.set_cons_zero, List.set_cons_succ]
         refine wpAnyH_ready (rs := [7]) (by kernel_rfl) (by simp) ?_
         refine AllReadyH.cons rfl (fun K hK => ?_) AllReadyH.nil
         go_simp
         refine hK.out _ _ ?_ (fun hHeld5 => ?_)
         ·exact hxNew
         clear hK K
         try simp only [Act.put, List.setIfInBounds_toArray, List.set_cons_zero, List.set_cons_succ]
         refine wpAnyH_ready (rs := [8]) (by kernel_rfl) (by simp) ?_
         refine AllReadyH.cons rfl (fun K hK => ?_) AllReadyH.nil
         go_simp
         refine hK.out _ _ ?_ (fun hHeld6 => ?_)
         ·exact hxNew
         clear hK K
         try simp only [Act.put, List.setIfInBounds_toArray, List.set_cons_zero, List.set_cons_succ]
         refine heldTake 9 (v := ?_) rfl (by kernel_rfl) (by kernel_rfl) (by kernel_rfl) (fun _ _ _ h => h) (Or.inl ⟨by rfl, ?_⟩) (by assumption) ?_
         rotate_left
         ·(intro w' hSw; (try dsimp only at hSw); have hS1 := hxoy.trans hSw; go_simp; try with_reducible rfl)
         try simp only [Act.put, List.setIfInBounds_toArray, List.set_cons_zero, List.set_cons_succ]
         refine heldTake 10 (v := ?_) rfl (by kernel_rfl) (by kernel_rfl) (by kernel_rfl) (fun _ _ _ h => h) (Or.inl ⟨by rfl, ?_⟩) (by assumption) ?_
         rotate_left
         ·(intro w' hSw; (try dsimp only at hSw); have hS1 := hxoy.trans hSw; go_simp; try with_reducible rfl)
         try simp only [Act.put, List.setIfInBounds_toArray, List.set_cons_zero, List.set_cons_succ]
         refine heldTake 11 (v := ?_) rfl (by kernel_rfl) (by kernel_rfl) (by kernel_rfl) (fun _ _ _ h => h) (Or.inl ⟨by rfl, ?_⟩) (by assumption) ?_
         rotate_left
         ·(intro w' hSw; (try dsimp only at hSw); have hS1 := hxoy.trans hSw; go_simp; try with_reducible rfl)
         try simp only [Act.put, List.setIfInBounds_toArray, List.set_cons_zero, List.set_cons_succ]
         refine heldTake 12 (v := ?_) rfl (by kernel_rfl) (by kernel_rfl) (by kernel_rfl) (fun _ _ _ h => h) (Or.inl ⟨by rfl, ?_⟩) (by assumption) ?_
         rotate_left
         ·(intro w' hSw; (try dsimp only at hSw); have hS1 := hxoy.trans hSw; go_simp; try with_reducible rfl)
         try simp only [Act.put, List.setIfInBounds_toArray, List.set_cons_zero, List.set_cons_succ]
         refine heldTake 13 (v := ?_) rfl (by kernel_rfl) (by kernel_rfl) (by kernel_rfl) (fun _ _ _ h => h) (Or.inl ⟨by rfl, ?_⟩) (by assumption) ?_
         rotate_left
         ·(intro w' hSw; (try dsimp only at hSw); have hS1 := hxoy.trans hSw; go_simp; try with_reducible rfl)
         try simp only [Act.put, List.setIfInBounds_toArray, List.set_cons_zero, List.set_cons_succ]
         refine heldTake 14 (v := ?_) rfl (by kernel_rfl) (by kernel_rfl) (by kernel_rfl) (fun _ _ _ h => h) (Or.inl ⟨by rfl, ?_⟩) (by assumption) ?_
         rotate_left
         ·(intro w' hSw; (try dsimp only at hSw); have hS1 := hxoy.trans hSw; go_simp; try with_reducible rfl)
         try simp only [Act.put, List.setIfInBounds_toArray, List.set_cons_zero, List.set_cons_succ]
         refine heldTake 15 (v := ?_) rfl (by kernel_rfl) (by kernel_rfl) (by kernel_rfl) (fun _ _ _ h => h) (Or.inl ⟨by rfl, ?_⟩) (by assumption) ?_
         rotate_left
         ·(intro w' hSw; (try dsimp only at hSw); have hS1 := hxoy.trans hSw; go_simp; try with_reducible rfl)
         try simp only [Act.put, List.setIfInBounds_toArray, List.set_cons_zero, List.set_cons_succ]
         refine heldTake 16 (v := ?_) rfl (by kernel_rfl) (by kernel_rfl) (by kernel_rfl) (fun _ _ _ h => h) (Or.inl ⟨by rfl, ?_⟩) (by assumption) ?_
         rotate_left
         ·(intro w' hSw; (try dsimp only at hSw); have hS1 := hxoy.trans hSw; go_simp; try with_reducible rfl)
         try simp only [Act.put, List.setIfInBounds_toArray, List.set_cons_zero, List.set_cons_succ]
         refine heldTake 17 (v := ?_) rfl (by kernel_rfl) (by kernel_rfl) (by kernel_rfl) (fun _ _ _ h => h) (Or.inl ⟨by rfl, ?_⟩) (by assumption) ?_
         rotate_left
         ·(intro w' hSw; (try dsimp only at hSw); have hS1 := hxoy.trans hSw; go_simp; try with_reducible rfl)
         try simp only [Act.put, List.setIfInBounds_toArray, List.set_cons_zero, List.set_cons_succ]
         refine heldTake 18 (v := ?_) rfl (by kernel_rfl) (by kernel_rfl) (by kernel_rfl) (fun _ _ _ h => h) (Or.inl ⟨by rfl, ?_⟩) (by assumption) ?_
         rotate_left
         ·(intro w' hSw; (try dsimp only at hSw); have hS1 := hxoy.trans hSw; go_simp; try with_reducible rfl)
         try simp only [Act.put, List.setIfInBounds_toArray, List.set_cons_zero, List.set_cons_succ]
         refine wpAnyH_ready (rs := [19]) (by kernel_rfl) (by simp) ?_
         refine AllReadyH.cons rfl (fun K hK => ?_) AllReadyH.nil
         go_simp
         refine hK.out _ _ ?_ (fun hHeld7 => ?_)
         ·exact hxNew
         clear hK K
         try simp only [Act.put, List.setIfInBounds_toArray, List.set_cons_zero, List.set_cons_succ]
         refine wpAnyH_done (by kernel_rfl) ?_ _
         have hxNo := hxoy.trans hxNew
         clear hHeld hHeld2 hHeld3 hHeld4 hHeld5 hHeld6 hHeld7
         go_wp2_with fail
         go_roundg (T.en p - (i + 1))
         case rel => exact ⟨i + 1, by omega, rfl, by go_num, hxNo⟩
         case measure => omega
        ·have hq1 : 1 < qz := by
           cases r with
           | nil => exact absurd rfl hr
           | cons x y => rw [hql, hlz]; simp
         have hgt : decide ((1 : Int) < (qz : Int)) = true := decide_eq_true (by omega)
         have hgt' : decide (1 < qz) = true := decide_eq_true hq1
         clear hq1 hql hr
         have hs1 : ∀ W, (Instr.slice 9 (.string (bts lz)) none (some (.int .i64 1)) none).run Tryz.prog W = .ok (.string ⟨#[114]⟩) W := fun W => by
          have h := slice_to W lz 1 (by rw [hlz]; simp)
          rw [hlz] at h ⊢
          exact h
         have hwk : IntKind.i64.wrap ((3 : Int) - 1) = 2 := IntWalk.i64_in _ (by omega)
         clear hlz
         go_upto_region 31 with fail
         refine wp_region_held_drew (S := fun w' => Ext wy w') (by kernel_rfl) (Ext.refl _).drew (fun hHeld => ?_)
         refine heldTake 0 (v := ?_) rfl (by kernel_rfl) (by kernel_rfl) (by kernel_rfl) (fun _ _ _ h => h) (Or.inl ⟨by rfl, ?_⟩) (by assumption) ?_
         rotate_left
         ·(intro w' hSw; (try dsimp only at hSw); have hS1 := hxoy.trans hSw; go_simp; try with_reducible rfl)
         try simp only [Act.put, List.setIfInBounds_toArray, List.set_cons_zero, List.set_cons_succ]
         refine heldTake 2 (v := ?_) rfl (by kernel_rfl) (by kernel_rfl) (by kernel_rfl) (fun _ _ _ h => h) (Or.inl ⟨by rfl, ?_⟩) (by assumption) ?_
         rotate_left
         ·(intro w' hSw; (try dsimp only at hSw); have hS1 := hxoy.trans hSw; go_simp; try with_reducible rfl)
         try simp only [Act.put, List.setIfInBounds_toArray, List.set_cons_zero, List.set_cons_succ]
         refine heldTake 3 (v := ?_) rfl (by kernel_rfl) (by kernel_rfl) (by kernel_rfl) (fun _ _ _ h => h) (Or.inl ⟨by rfl, ?_⟩) (by assumption) ?_
         rotate_left
         ·(intro w' hSw; (try dsimp only at hSw); have hS1 := hxoy.trans hSw; go_simp; try with_reducible rfl)
         try simp only [Act.put, List.setIfInBounds_toArray, List.set_cons_zero, List.set_cons_succ]
         refine heldTake 4 (v := ?_) rfl (by kernel_rfl) (by kernel_rfl) (by kernel_rfl) (fun _ _ _ h => h) (Or.inl ⟨by rfl, ?_⟩) (by assumption) ?_
         rotate_left
         ·(intro w' hSw; (try dsimp only at hSw); have hS1 := hxoy.trans hSw; go_simp; try with_reducible rfl)
         try simp only [Act.put, List.setIfInBounds_toArray, List.set_cons_zero, List.set_cons_succ]
         refine wpAnyH_ready (rs := [1]) (by kernel_rfl) (by simp) ?_
         refine AllReadyH.cons rfl (fun K hK => ?_) AllReadyH.nil
         go_simp
         have hxNew := (Ext.refl wy).drew.alloc' (.cells #[.string ⟨#[111]⟩, .string ⟨#[115]⟩, .string ⟨#[114]⟩] 9)
         refine hK.out _ _ ?_ (fun hHeld2 => ?_)
         ·exact hxNew
         clear hK K
         try simp only [Act.put, List.setIfInBounds_toArray, List.set_cons_zero, List.set_cons_succ]
         refine wpAnyH_ready (rs := [5]) (by kernel_rfl) (by simp) ?_
         refine AllReadyH.cons rfl (fun K hK => ?_) AllReadyH.nil
         go_simp
         refine hK.out _ _ ?_ (fun hHeld3 => ?_)
         ·exact hxNew
         clear hK K
         try simp only [Act.put, List.setIfInBounds_toArray, List.set_cons_zero, List.set_cons_succ]
         refine wpAnyH_ready (rs := [6]) (by kernel_rfl) (by simp) ?_
         refine AllReadyH.cons rfl (fun K hK => ?_) AllReadyH.nil
         go_simp
         refine hK.out _ _ ?_ (fun hHeld4 => ?_)
         ·exact hxNew
         clear hK K
         try simp only [Act.put, List.setIfInBounds_toArray, List.set_cons_zero, List.set_cons_succ]
         refine wpAnyH_ready (rs := [7]) (by kernel_rfl) (by simp) ?_
         refine AllReadyH.cons rfl (fun K hK => ?_) AllReadyH.nil
         go_simp
         refine hK.out _ _ ?_ (fun hHeld5 => ?_)
         ·exact hxNew
         clear hK K
         try simp only [Act.put, List.setIfInBounds_toArray, List.set_cons_zero, List.set_cons_succ]
         refine wpAnyH_ready (rs := [8]) (by kernel_rfl) (by simp) ?_
         refine AllReadyH.cons rfl (fun K hK => ?_) AllReadyH.nil
         go_simp
         refine hK.out _ _ ?_ (fun hHeld6 => ?_)
         ·exact hxNew
         clear hK K
         try simp only [Act.put, List.setIfInBounds_toArray, List.set_cons_zero, List.set_cons_succ]
         refine heldTake 9 (v := ?_) rfl (by kernel_rfl) (by kernel_rfl) (by kernel_rfl) (fun _ _ _ h => h) (Or.inl ⟨by rfl, ?_⟩) (by assumption) ?_
         rotate_left
         ·(intro w' hSw; (try dsimp only at hSw); have hS1 := hxoy.trans hSw; go_simp; try with_reducible rfl)
         try simp only [Act.put, List.setIfInBounds_toArray, List.set_cons_zero, List.set_cons_succ]
         refine heldTake 10 (v := ?_) rfl (by kernel_rfl) (by kernel_rfl) (by kernel_rfl) (fun _ _ _ h => h) (Or.inl ⟨by rfl, ?_⟩) (by assumption) ?_
         rotate_left
         ·(intro w' hSw; (try dsimp only at hSw); have hS1 := hxoy.trans hSw; go_simp; try with_reducible rfl)
         try simp only [Act.put, List.setIfInBounds_toArray, List.set_cons_zero, List.set_cons_succ]
         refine heldTake 11 (v := ?_) rfl (by kernel_rfl) (by kernel_rfl) (by kernel_rfl) (fun _ _ _ h => h) (Or.inl ⟨by rfl, ?_⟩) (by assumption) ?_
         rotate_left
         ·(intro w' hSw; (try dsimp only at hSw); have hS1 := hxoy.trans hSw; go_simp; try with_reducible rfl)
         try simp only [Act.put, List.setIfInBounds_toArray, List.set_cons_zero, List.set_cons_succ]
         refine heldTake 12 (v := ?_) rfl (by kernel_rfl) (by kernel_rfl) (by kernel_rfl) (fun _ _ _ h => h) (Or.inl ⟨by rfl, ?_⟩) (by assumption) ?_
         rotate_left
         ·(intro w' hSw; (try dsimp only at hSw); have hS1 := hxoy.trans hSw; go_simp; try with_reducible rfl)
         try simp only [Act.put, List.setIfInBounds_toArray, List.set_cons_zero, List.set_cons_succ]
         refine heldTake 13 (v := ?_) rfl (by kernel_rfl) (by kernel_rfl) (by kernel_rfl) (fun _ _ _ h => h) (Or.inl ⟨by rfl, ?_⟩) (by assumption) ?_
         rotate_left
         ·(intro w' hSw; (try dsimp only at hSw); have hS1 := hxoy.trans hSw; go_simp; try with_reducible rfl)
         try simp only [Act.put, List.setIfInBounds_toArray, List.set_cons_zero, List.set_cons_succ]
         refine heldTake 14 (v := ?_) rfl (by kernel_rfl) (by kernel_rfl) (by kernel_rfl) (fun _ _ _ h => h) (Or.inl ⟨by rfl, ?_⟩) (by assumption) ?_
         rotate_left
         ·(intro w' hSw; (try dsimp only at hSw); have hS1 := hxoy.trans hSw; go_simp; try with_reducible rfl)
         try simp only [Act.put, List.setIfInBounds_toArray, List.set_cons_zero, List.set_cons_succ]
         refine heldTake 15 (v := ?_) rfl (by kernel_rfl) (by kernel_rfl) (by kernel_rfl) (fun _ _ _ h => h) (Or.inl ⟨by rfl, ?_⟩) (by assumption) ?_
         rotate_left
         ·(intro w' hSw; (try dsimp only at hSw); have hS1 := hxoy.trans hSw; go_simp; try with_reducible rfl)
         try simp only [Act.put, List.setIfInBounds_toArray, List.set_cons_zero, List.set_cons_succ]
         refine heldTake 16 (v := ?_) rfl (by kernel_rfl) (by kernel_rfl) (by kernel_rfl) (fun _ _ _ h => h) (Or.inl ⟨by rfl, ?_⟩) (by assumption) ?_
         rotate_left
         ·(intro w' hSw; (try dsimp only at hSw); have hS1 := hxoy.trans hSw; go_simp; try with_reducible rfl)
         try simp only [Act.put, List.setIfInBounds_toArray, List.set_cons_zero, List.set_cons_succ]
         refine heldTake 17 (v := ?_) rfl (by kernel_rfl) (by kernel_rfl) (by kernel_rfl) (fun _ _ _ h => h) (Or.inl ⟨by rfl, ?_⟩) (by assumption) ?_
         rotate_left
         ·(intro w' hSw; (try dsimp only at hSw); have hS1 := hxoy.trans hSw; go_simp; try with_reducible rfl)
         try simp only [Act.put, List.setIfInBounds_toArray, List.set_cons_zero, List.set_cons_succ]
         refine heldTake 18 (v := ?_) rfl (by kernel_rfl) (by kernel_rfl) (by kernel_rfl) (fun _ _ _ h => h) (Or.inl ⟨by rfl, ?_⟩) (by assumption) ?_
         rotate_left
         ·(intro w' hSw; (try dsimp only at hSw); have hS1 := hxoy.trans hSw; go_simp; try with_reducible rfl)
         try simp only [Act.put, List.setIfInBounds_toArray, List.set_cons_zero, List.set_cons_succ]
         refine wpAnyH_ready (rs := [19]) (by kernel_rfl) (by simp) ?_
         refine AllReadyH.cons rfl (fun K hK => ?_) AllReadyH.nil
         go_simp
         refine hK.out _ _ ?_ (fun hHeld7 => ?_)
         ·exact hxNew
         clear hK K
         try simp only [Act.put, List.setIfInBounds_toArray, List.set_cons_zero, List.set_cons_succ]
         refine wpAnyH_done (by kernel_rfl) ?_ _
         have hxNo := hxoy.trans hxNew
         clear hHeld hHeld2 hHeld3 hHeld4 hHeld5 hHeld6 hHeld7
         go_wp2_with fail
         go_roundg (T.en p - (i + 1))
         case rel => exact ⟨i + 1, by omega, rfl, by go_num, hxNo⟩
         case measure => omega
       ·have hie' : ¬ (i : Int) < (T.en p : Int) := by omega
        obtain rfl : i = T.en p := by omega
        go_wp2_with fail
        go_roundg (T.n - (p + 1))
        case rel => exact ⟨p + 1, by omega, rfl, by go_num, hx6i⟩
        case measure => omega
   ·have hpn' : ¬ (p : Int) < (T.n : Int) := by omega
    obtain rfl : p = T.n := by omega
    go_wp2_with fail
    go_at_call 11
    refine (HCT.out wr hxwr).mono ?_
    rintro e w7 ⟨hx7, hp⟩
    have hxw7 := hxwr.trans hx7
    rcases hp with ⟨_, h0, x, h1, rfl⟩ | ⟨_, h0, rfl⟩ | ⟨h, _⟩
    ·obtain ⟨hb1, hb2⟩ := cut_back HV.out HL.out h1
     have hbg := HBG.out
     rw [show limV x = .tuple #[.string (bts x), .int .i64 0] from if_neg (by omega)]
     have HRB := Lib.hid (fun W (y : Ext w W) => replaceB_any W (HML.out.ext y) x (by omega))
     rw [hb1] at HRB
     clear h0 h1 hb1 hb2 hbg
     go_wp2_with (go_at_call 25; refine (HRB.out _ hxw7).mono ?_; rintro e w8 ⟨rfl, hx8⟩)
     go_ret
     exact ⟨rfl, hxw7.trans hx8⟩
    ·clear h0
     rw [show bts [] = ⟨#[]⟩ from rfl]
     go_wp2_with fail
     go_ret
     exact ⟨rfl, hxw7⟩
    ·exact absurd HV.out h
theorem ml_of {W : World} (h : W.ShapedOpen Tryz.prog) : MaxL W :=
 cell_of_shapedOpen_int (P := Tryz.prog) (g := 0) (t := 3) (zero := #[.int .i64 0]) h (of_decide_eq_true (by kernel_rfl)) (by kernel_rfl) rfl (by kernel_rfl) (by kernel_rfl) Tryz.underlying3
set_option maxRecDepth 100000 in
theorem contract (H : Type) (enc : TypeId × Value → H) (W : World) (base : Nat) (args : Array Value) (ds gs : List (DataW H)) (before : List MemPlace)
    (hval0 : ∀ (j : Nat) t v, Tryz.f5.params[j]? = some t → args[j]? = some v → Value.okWide Tryz.prog W .any base t v)
    (hW : DataW.Whole enc Tryz.prog Tryz.f5.params.toList Rows.diagramShapeSpec.vars false W args.toList ds gs before)
    (hsz0 : (DataW.weightsEach Tryz.prog (Tryz.f5.params.toList ++ (OpenSpec.ofChange Rows.diagramShapeSpec).bare.plain.varTypes Tryz.prog) (ds ++ gs)).all (· ≤ reachBytes) = true) (hL : laidMetH Tryz.prog Rows.diagramShapeRow.laid W) (hsh : W.ShapedOpen Tryz.prog) :
    Calls Tryz.prog 5 args W fun e W' => ∃ v, e = .returned v ∧ Rows.diagramShapeSpec.post enc Tryz.prog Tryz.f5 false true false false W args v W' := by
 have hsz1 := hsz0
 have hval := hval0
 clear hsz0
 have hW' := hW
 obtain ⟨p, q, hA0, hV, rfl, hfz, hnd⟩ := hW
 have hA : DataW.TrodAll enc Tryz.prog W 0 (fun _ => true) true Tryz.f5.params.toList args.toList ds p := hA0
 rw [Tryz.params5] at hA hval hsz1
 obtain ⟨v0, vs0, d0, ds0, p0, q0, hargs, rfl, rfl, h0, r0⟩ := trodAll_cons hA
 obtain ⟨v1, vs1, d1, ds1, p1, q1, rfl, rfl, rfl, h1, r1⟩ := trodAll_cons r0
 obtain ⟨rfl, rfl, rfl⟩ := trodAll_nil r1
 obtain rfl : args = #[v0, v1] := by cases args; simp_all
 obtain ⟨rfl, rfl⟩ := trodVars_none hV
 obtain ⟨T0, rfl, hX0⟩ := arg_trace (hval 0 24 v0 rfl rfl) h0 (small_of hsz1 (j := 0) rfl rfl)
 obtain ⟨C1, rfl, hX1⟩ := arg_ints (hval 1 25 v1 rfl rfl) h1 (small_of hsz1 (j := 1) rfl rfl)
 clear hA0 hval0 hsz1
 simp only [List.append_nil] at hW'
 have hl1 : ∀ x ∈ p1, x.block < W.heap.size := fun x hx => hW'.lt x (by simp [hx])
 have hl0 : ∀ x ∈ p0, x.block < W.heap.size := fun x hx => hW'.lt x (by simp [hx])
 refine (walk T0 C1 W hX0 hX1 (tb_of hL) (ml_of hsh)).mono fun e W' ⟨he, hg⟩ => ?_
 subst he
 exact ⟨_, rfl, post_ext1 (pa := (p0 ++ (p1 ++ []))) (pv := []) hW' (fun _ _ _ => (trodAll_cons_mk (shut_bool Tryz.underlying4 _) trodAll_mk0)) (trodAll_cons_mk (Below.trod laid14 (by kernel_rfl) (of_decide_eq_true (by kernel_rfl)) h0 hg.below hl0) (trodAll_cons_mk (Below.trod laid14 (by kernel_rfl) (of_decide_eq_true (by kernel_rfl)) h1 hg.below hl1) trodAll_mk0)) rfl hg⟩
abbrev arg0 : Value := .agg #[.slice none 0 0]
abbrev arg1 : Value := .slice none 0 0
set_option maxRecDepth 100000 in
theorem laid_met (os : Os) : laidMet Tryz.prog Rows.diagramShapeRow.laid ((laidWorld os).forCall (fun _ _ => 0) ⟨#[], #[arg0, arg1], []⟩).memory :=
 laidMet_of_run' 8 (by kernel_rfl) (by kernel_rfl)
set_option maxRecDepth 100000 in
theorem reads (os : Os) {H : Type} (enc : TypeId × Value → H) : ∃ d places, DataW.whole enc Tryz.prog ((laidWorld os).forCall (fun _ _ => 0) ⟨#[], #[arg0, arg1], []⟩).memory Tryz.f5.params.toList Rows.diagramShapeSpec.vars false #[arg0, arg1].toList 8 = some (d, [], places) :=
 ⟨[.agg [.nil], .nil], [], by kernel_rfl⟩
set_option maxRecDepth 100000 in
theorem lifted (os : Os) (started : os.Started) (H : Type) (enc : TypeId × Value → H) (F : Stop.Interp) :
    ReturnsInHanded {} Tryz.checked os 5 .any ((OpenSpec.ofChange Rows.diagramShapeSpec).preRow enc Tryz.prog Tryz.f5 Rows.diagramShapeRow.domain false Rows.diagramShapeRow.laid) (((OpenSpec.ofChange Rows.diagramShapeSpec).at F).post enc Tryz.prog Tryz.f5 false true false false) := by
 obtain ⟨d, places, hx⟩ := reads os enc
 refine returnsInHanded_of_row (C := Tryz.checked) (s := OpenSpec.ofChange Rows.diagramShapeSpec) own14 started (by kernel_rfl) Tryz.func5
  (witness_row_at (enc := enc) (C := Tryz.checked) false (laidWorld os) #[arg0, arg1] rfl (by kernel_rfl) (by kernel_rfl) (by kernel_rfl)
   (OpenSpec.preRow_of_cond 8 hx (by kernel_rfl) (fun k hk => by cases hk) (by kernel_rfl) (laid_met os))) ?_
 intro W base args ds gs before hval hW _ _ hsz hL hsh _
 exact contract H enc W base args ds gs before hval hW hsz hL hsh
theorem over : Rows.DiagramShapeSaid :=
 OpenClaim.holds_of_cond 5 Tryz.f5 rfl rfl rfl rfl rfl rfl rfl ⟨rfl, rfl, rfl, rfl, rfl⟩ rfl rfl rfl rfl rfl (by kernel_rfl) Tryz.func5 (by kernel_rfl)
  (of_decide_eq_true (by kernel_rfl)) (by unfold Func.isWrapper; first | (rw [if_pos (by decide +kernel)]; kernel_rfl) | (rw [if_neg (by decide +kernel)]; exact ⟨rfl, rfl⟩))
  (fun os started H enc _ F => by rw [OpenClaim.pre_eq_preRow]; exact lifted os started H enc F)
theorem plain (f : FuncId) (fn : Func) (hf : Tryz.pinned.checked.prog.funcNamed "antecede/antecedelaw56.DiagramShape" = some f) (hfn : Tryz.pinned.checked.prog.funcs[f]? = some fn) :
    false = Tryz.pinned.checked.prog.looks [] ∧ ∀ (j : Nat) t, fn.params[j]? = some t → Tryz.pinned.checked.prog.wantsStandIn t = false := by
 obtain rfl : f = 5 := Option.some.inj ((show Tryz.prog.funcNamed "antecede/antecedelaw56.DiagramShape" = some 5 by kernel_rfl).symm.trans hf) |>.symm
 obtain rfl : fn = Tryz.f5 := (Option.some.inj (Tryz.func5.symm.trans hfn)).symm
 refine ⟨by kernel_rfl, fun j t ht => ?_⟩
 rw [Tryz.params5] at ht
 have hm : t = 24 ∨ t = 25 := by simpa using Array.mem_of_getElem? ht
 rcases hm with rfl | rfl
 ·exact (show Tryz.prog.wantsStandIn 24 = false by kernel_rfl)
 ·exact (show Tryz.prog.wantsStandIn 25 = false by kernel_rfl)
theorem proved : Rows.DiagramShapeCardSaid :=
 Claim7.holds_tied_plain_at .later [] _ _ _ _ over (fun _ h => by cases h) (by kernel_rfl) (fun _ h => by cases h) diagramShape_row_tie rfl ⟨rfl, rfl⟩ (by kernel_rfl) rfl plain (by kernel_rfl)
#print axioms proved
end Go.Proofs.YtmhapcnlpoilpaaGreatDoor.diagramShape
