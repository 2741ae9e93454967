/- Contracts and laws in plain Lean for RApp: group T83. -/
import Derived.Test.YtlfdfkbmollaaaaGreatDoorT82
import Derived.Test.YtlfdfkbmollaaaaGreatDoorT77
namespace Go.Proofs.YtlfdfkbmollaaaaGreatDoor
open Go.RowKit Go.Shelf
attribute [local go_sem] Oper.semAt_some
def restE (r:Rdr):Rdr:=if r.e=0∧r.rest≠[] then Rdr.fail ⟨r.rest,IntKind.i64.wrap (r.line+1),r.al,r.ac,r.e⟩ 1 3 else r
abbrev zeroS:Value:=.agg #[.bool false,.slice none 0 0,.slice none 0 0,.slice none 0 0]
abbrev posV (a b:Int):Value:=.agg #[.int .i64 a,.int .i64 b]
def ParsePost (T:Tr) (text:List UInt8) (w:World) (e:Ending) (w':World):Prop:=Ext w w'∧
 ((¬T.Valid∧e=.returned (.tuple #[zeroS,posV 0 0,.int .i64 1]))∨
  (T.Valid∧16384<text.length∧e=.returned (.tuple #[zeroS,posV 0 0,.int .i64 5]))∨
  (T.Valid∧text.length≤16384∧(restE (readP T text).2).e≠0∧e=.returned (.tuple #[zeroS,posV (restE (readP T text).2).al (restE (readP T text).2).ac,.int .i64 (restE (readP T text).2).e]))∨
  (T.Valid∧text.length≤16384∧(restE (readP T text).2).e=0∧∃ S:SlcD,S.Is (readP T text).1∧S.At w'∧
   ((S.Ok T∧e=.returned (.tuple #[S.val,posV 0 0,.int .i64 0]))∨(¬S.Ok T∧e=.returned (.tuple #[zeroS,posV 1 1,.int .i64 17])))))
theorem parse_results (tmps : Array Value) (W : World) (b c : Nat) (x0 x1 x2 x3 y0 y1 z : Value) (t4 : tmps[4]? = some (.pointer (some ⟨b, 0, none⟩))) (t5 : tmps[5]? = some (.pointer (some ⟨c, 0, none⟩))) (t6 : tmps[6]? = some z) (h : Hold W b #[x0, x1, x2, x3]) (h' : Hold W c #[y0, y1]) :
    (results Tryz.f10 tmps).run Tryz.prog W=.ok (.tuple #[.agg #[x0,x1,x2,x3],.agg #[y0,y1],z]) W:=by
 have c0:W.cell? ⟨b,0,none⟩=some x0:=h.cell0 0
 have c1:W.cell? ⟨b,1,none⟩=some x1:=h.cell0 1
 have c2:W.cell? ⟨b,2,none⟩=some x2:=h.cell0 2
 have c3:W.cell? ⟨b,3,none⟩=some x3:=h.cell0 3
 have d0:W.cell? ⟨c,0,none⟩=some y0:=h'.cell0 0
 have d1:W.cell? ⟨c,1,none⟩=some y1:=h'.cell0 1
 simp [results,go_sem,t4,t5,t6,c0,c1,c2,c3,d0,d1]
theorem put6 {w : World} {g4 g5 : Nat} (hne : g4 ≠ g5) {u0 u1 u2 u3 v0 v1 : Value} (h : Hold w g4 #[u0, u1, u2, u3]) (h' : Hold w g5 #[v0, v1]) (x0 x1 x2 x3 y0 y1 : Value) :
    Hold ((((((w.setCell ⟨g4,0,none⟩ x0).setCell ⟨g4,1,none⟩ x1).setCell ⟨g4,2,none⟩ x2).setCell ⟨g4,3,none⟩ x3).setCell ⟨g5,0,none⟩ y0).setCell ⟨g5,1,none⟩ y1) g4 #[x0,x1,x2,x3]∧
    Hold ((((((w.setCell ⟨g4,0,none⟩ x0).setCell ⟨g4,1,none⟩ x1).setCell ⟨g4,2,none⟩ x2).setCell ⟨g4,3,none⟩ x3).setCell ⟨g5,0,none⟩ y0).setCell ⟨g5,1,none⟩ y1) g5 #[y0,y1]:=
 ⟨((h.put4 x0 x1 x2 x3).other _ _ (by show g4≠g5;exact hne)).other _ _ (by show g4≠g5;exact hne),((h'.oth4 (fun e=>hne e.symm) x0 x1 x2 x3).set 0 y0).set 1 y1⟩
theorem put6_ext {W w : World} {g4 g5 : Nat} (h : Ext W w) (h4 : W.heap.size ≤ g4) (h5 : W.heap.size ≤ g5) (x0 x1 x2 x3 y0 y1 : Value) :
    Ext W ((((((w.setCell ⟨g4,0,none⟩ x0).setCell ⟨g4,1,none⟩ x1).setCell ⟨g4,2,none⟩ x2).setCell ⟨g4,3,none⟩ x3).setCell ⟨g5,0,none⟩ y0).setCell ⟨g5,1,none⟩ y1):=
 ((h.put4 h4 x0 x1 x2 x3).setCell (p:=⟨g5,0,none⟩) h5 y0).setCell (p:=⟨g5,1,none⟩) h5 y1
theorem put6_cg (w : World) (g4 g5 : Nat) (x0 x1 x2 x3 y0 y1 : Value) :
    Cg (fun g=>g=g4∨g=g5) w ((((((w.setCell ⟨g4,0,none⟩ x0).setCell ⟨g4,1,none⟩ x1).setCell ⟨g4,2,none⟩ x2).setCell ⟨g4,3,none⟩ x3).setCell ⟨g5,0,none⟩ y0).setCell ⟨g5,1,none⟩ y1):=
 (((put4_cg w g4 x0 x1 x2 x3).weak fun _ e=>.inl e).set ⟨g5,0,none⟩ y0 (.inr rfl)).set ⟨g5,1,none⟩ y1 (.inr rfl)
theorem Cg.ext {b:Nat} {w W w':World} (h:Cg (· = b) W w') (x:Ext w W) (hb:w.heap.size≤b):Ext w w':=
 ⟨h.1.os.trans x.os,h.1.tape.trans x.tape,h.1.output.trans x.output,Nat.le_trans x.size h.1.size,fun k hk=>(h.2 k (Nat.lt_of_lt_of_le hk x.le) (by omega)).trans (x.block k hk)⟩
set_option maxRecDepth 100000 in
set_option maxHeartbeats 8000000 in
theorem parse_any (w : World) (hW : LibB w) (T : TM) (hT : T.At w) (text : List UInt8) :
    Calls Tryz.prog 10 #[T.val,.string (bts text)] w (ParsePost T.toTr text w):=by
 have HVA:=Lib.hid (fun W (x:Ext w W)=>valid_any W T (hT.ext x))
 have HT:=Lib.hid hT
 have HLW:=Lib.hid (fun W (x:Ext w W)=>hW.ext x)
 have HSV:=Lib.hid (fun W (x:Ext w W) S (hS:SlcD.At S W)=>svalid_any W T (hT.ext x) S hS)
 unfold ParsePost
 have hzt:=bts_size text
 simp only [TM.val] at HVA HSV ⊢
 clear hT hW
 go_enter Tryz.func10,Tryz.ntmps10
 go_upto_region 1 with fail
 refine boxed3 (w:=w) (G:=fun x=>Code.wp _ _ _ _ x) ?_
 intro w1 hx1 hs1 ⟨l0,c0,_,_⟩ ⟨l4,c4,f4,k4⟩ ⟨l5,c5,f5,k5⟩
 have hx11:Ext w1 w1:=Ext.refl _
 have HK4':=Lib.hid (show Hold w1 (w.heap.size+1) _ from k4)
 have HK5':=Lib.hid (show Hold w1 (w.heap.size+1+1) _ from k5)
 have hs1':w1.heap.size=w.heap.size+1+1+1:=hs1
 clear hs1 k4 k5
 go_wp2_with fail
 go_at_call 34
 refine (HVA.out w1 hx1).mono ?_
 rintro e w2 ⟨bv,rfl,hb,hx12⟩
 have HB:=Lib.hid hb
 have hxw2:=hx1.trans hx12
 have HK4:=Lib.hid (HK4'.out.ext hx12)
 have HK5:=Lib.hid (HK5'.out.ext hx12)
 clear hb HVA HK4' HK5'
 rcases bv with _ | _
 ·have HNO:=Lib.hid (show ¬T.toTr.Valid from fun h=>absurd (HB.out.2 h) (by decide))
  go_wp2_with fail
  try simp only [Exit.inBlock,Exit.then]
  refine bodyPost_ret (parse_results _ _ (w.heap.size+1) (w.heap.size+1+1) _ _ _ _ _ _ _ rfl rfl rfl (put6 (by omega) HK4.out HK5.out _ _ _ _ _ _).1 (put6 (by omega) HK4.out HK5.out _ _ _ _ _ _).2) rfl ?_
  exact ⟨put6_ext hxw2 (by omega) (by omega) _ _ _ _ _ _,.inl ⟨HNO.out,rfl⟩⟩
 have HVD:=Lib.hid (HB.out.1 rfl)
 clear HB
 by_cases hlen:16384<text.length
 ·have d1:decide ((16384:Int)<(text.length:Int))=true:=decide_eq_true (by omega)
  have HLN:=Lib.hid hlen
  clear hlen
  go_wp2_with fail
  try simp only [Exit.inBlock,Exit.then]
  refine bodyPost_ret (parse_results _ _ (w.heap.size+1) (w.heap.size+1+1) _ _ _ _ _ _ _ rfl rfl rfl (put6 (by omega) HK4.out HK5.out _ _ _ _ _ _).1 (put6 (by omega) HK4.out HK5.out _ _ _ _ _ _).2) rfl ?_
  exact ⟨put6_ext hxw2 (by omega) (by omega) _ _ _ _ _ _,.inr (.inl ⟨HVD.out,HLN.out,rfl⟩)⟩
 have d1:decide ((16384:Int)<(text.length:Int))=false:=decide_eq_false (by omega)
 have hl16:text.length≤16384:=by omega
 clear hlen
 go_upto_region 6 with fail
 refine boxed1t' (w:=w2) (G:=fun x=>Code.wp _ _ _ _ x) ?_
 intro w6 hx6 hs6 k6
 obtain ⟨b,hb⟩:∃ z,z=w2.heap.size:=⟨_,rfl⟩
 rw [←hb] at k6 ⊢
 have HH6:=Lib.hid (show Hold w6 b (rdrC ⟨text,0,0,0,0⟩) from k6)
 have hbw:w1.heap.size≤b:=by rw [hb];exact hx12.le
 have hxw6:=hxw2.trans hx6
 have hx16:=hx12.trans hx6
 have HRD:=Lib.hid (show Calls Tryz.prog 35 #[.pointer (some ⟨b,0,none⟩),.agg #[.slice T.a T.n T.cap]] w6 (RdPost w6 b T.toTr text) from
  read_any w6 (HLW.out w6 hxw6) b (LibB.apt (HLW.out w2 hxw2) (by rw [hb];exact Nat.le_refl _)) text HH6.out (by omega) T (fun w' x=>HT.out.ext (x.ext hxw6 (by omega))) HVD.out)
 have HK46:=Lib.hid (HK4.out.ext hx6)
 have HK56:=Lib.hid (HK5.out.ext hx6)
 have hb6:b<w6.heap.size:=HH6.out.lt
 clear hb k6 hs6 hx6 d1 hzt HK4 HK5
 go_upto_region 7 with (go_at_call 35;refine HRD.out.mono ?_;rintro e w7 ⟨b0,a1,n1,c1,a2,n2,c2,a3,n3,c3,rfl,hh,hc,hs⟩;have HH7:=Lib.hid hh;have HC7:=Lib.hid hc;have HSS:=Lib.hid hs;clear hh hc hs)
 obtain ⟨g8,hg8⟩:∃ z,z=w7.heap.size:=⟨_,rfl⟩
 have HK8:=Lib.hid (show Hold (w7.alloc (.cells #[.bool b0,.slice a1 n1 c1,.slice a2 n2 c2,.slice a3 n3 c3] 30)) g8 #[.bool b0,.slice a1 n1 c1,.slice a2 n2 c2,.slice a3 n3 c3] from by rw [hg8];exact Hold.new _ _ _)
 have hx78:Ext w7 (w7.alloc (.cells #[.bool b0,.slice a1 n1 c1,.slice a2 n2 c2,.slice a3 n3 c3] 30)):=(Ext.refl w7).alloc' _
 rw [←hg8]
 generalize w7.alloc (.cells #[.bool b0,.slice a1 n1 c1,.slice a2 n2 c2,.slice a3 n3 c3] 30)=w8 at HK8 hx78 ⊢
 have hx18:Ext w1 w8:=(HC7.out.ext hx16 hbw).trans hx78
 have hxw8:=hx1.trans hx18
 have hg8b:b<g8:=by rw [hg8];have:=HC7.out.le;omega
 have HH8:=Lib.hid (HH7.out.ext hx78)
 have HK4:=Lib.hid ((HK46.out.cg HC7.out (by omega)).ext hx78)
 have HK5:=Lib.hid ((HK56.out.cg HC7.out (by omega)).ext hx78)
 have HX78:=Lib.hid hx78
 obtain ⟨r,hr⟩:∃ r,r=(readP T.toTr text).2:=⟨_,rfl⟩
 have HRR:=Lib.hid hr
 rw [←hr] at HH8 HSS
 have h88:Ext w8 w8:=Ext.refl _
 obtain ⟨lb,cb,fb,_⟩:=HH8.out.box
 unfold rdrC at cb
 clear hg8 hr HH7 HK46 HK56 HRD hx78 hx16 hxw6
 by_cases h0:r.e=0
 case neg=>
  have d0:(r.e == 0)=false:=by simpa using h0
  have d2:(r.e != 0)=true:=by simpa using h0
  have HRE:=Lib.hid (show restE r=r from if_neg fun h=>h0 h.1)
  have HNE:=Lib.hid h0
  clear h0
  go_upto_region 14 with fail
  have HZB:=Lib.hid (show ∀ w',Cg (fun g=>g=w.heap.size+1∨g=w.heap.size+1+1) w8 w'→∀ i,w'.cell? ⟨b,i,none⟩=(#[.string (bts r.rest),.int .i64 r.line,.int .i64 r.al,.int .i64 r.ac,.int .i64 r.e]:Array Value)[i]? from (HH8.out.boxG (S:=fun g=>g=w.heap.size+1∨g=w.heap.size+1+1) (fun e=>by omega)).2)
  have hxz:Ext w w8:=hxw8
  refine wp_region_T (t:=9) (S:=Cg (fun g=>g=w.heap.size+1∨g=w.heap.size+1+1) w8) (R:=fun _=>True) (by kernel_rfl) (Cg.drew (Cg.refl _ _)) trivial (fun hHeld=>?_)
  have HG4:=Lib.hid (HK4.out.ext (h88.drew))
  have HG5:=Lib.hid (HK5.out.ext (h88.drew))
  have hxd:=hxz.drew
  generalize World.drew w8=v0 at HG4 HG5 hxd hHeld ⊢
  refine takeS 0 (v:=?_) rfl (by kernel_rfl) (by kernel_rfl) (by kernel_rfl) (fun _ _ _ h=>h) (by decide) (Or.inl ⟨by rfl,?_⟩) hHeld.1 hHeld.2 ?_
  rotate_left
  ·intro w' hSw
   have z0:=HZB.out w' hSw
   have hSS:=Ext.refl w'
   go_simp
   try with_reducible rfl
  try simp only [Act.put,zA,zB,zC]
  refine takeS 1 (v:=?_) rfl (by kernel_rfl) (by kernel_rfl) (by kernel_rfl) (fun _ _ _ h=>h) (by decide) (Or.inl ⟨by rfl,?_⟩) hHeld.1 hHeld.2 ?_
  rotate_left
  ·intro w' hSw
   have z0:=HZB.out w' hSw
   have hSS:=Ext.refl w'
   go_simp
   try with_reducible rfl
  try simp only [Act.put,zA,zB,zC]
  refine takeS 2 (v:=?_) rfl (by kernel_rfl) (by kernel_rfl) (by kernel_rfl) (fun _ _ _ h=>h) (by decide) (Or.inl ⟨by rfl,?_⟩) hHeld.1 hHeld.2 ?_
  rotate_left
  ·intro w' hSw
   have z0:=HZB.out w' hSw
   have hSS:=Ext.refl w'
   go_simp
   try with_reducible rfl
  try simp only [Act.put,zA,zB,zC]
  refine takeS 3 (v:=?_) rfl (by kernel_rfl) (by kernel_rfl) (by kernel_rfl) (fun _ _ _ h=>h) (by decide) (Or.inl ⟨by rfl,?_⟩) hHeld.1 hHeld.2 ?_
  rotate_left
  ·intro w' hSw
   have z0:=HZB.out w' hSw
   have hSS:=Ext.refl w'
   go_simp
   try with_reducible rfl
  try simp only [Act.put,zA,zB,zC]
  refine takeS 4 (v:=?_) rfl (by kernel_rfl) (by kernel_rfl) (by kernel_rfl) (fun _ _ _ h=>h) (by decide) (Or.inl ⟨by rfl,?_⟩) hHeld.1 hHeld.2 ?_
  rotate_left
  ·intro w' hSw
   have z0:=HZB.out w' hSw
   have hSS:=Ext.refl w'
   go_simp
   try with_reducible rfl
  try simp only [Act.put,zA,zB,zC]
  refine takeS 5 (v:=?_) rfl (by kernel_rfl) (by kernel_rfl) (by kernel_rfl) (fun _ _ _ h=>h) (by decide) (Or.inl ⟨by rfl,?_⟩) hHeld.1 hHeld.2 ?_
  rotate_left
  ·intro w' hSw
   have z0:=HZB.out w' hSw
   have hSS:=Ext.refl w'
   go_simp
   try with_reducible rfl
  try simp only [Act.put,zA,zB,zC]
  refine takeS 6 (v:=?_) rfl (by kernel_rfl) (by kernel_rfl) (by kernel_rfl) (fun _ _ _ h=>h) (by decide) (Or.inl ⟨by rfl,?_⟩) hHeld.1 hHeld.2 ?_
  rotate_left
  ·intro w' hSw
   have z0:=HZB.out w' hSw
   have hSS:=Ext.refl w'
   go_simp
   try with_reducible rfl
  try simp only [Act.put,zA,zB,zC]
  refine takeS 7 (v:=?_) rfl (by kernel_rfl) (by kernel_rfl) (by kernel_rfl) (fun _ _ _ h=>h) (by decide) (Or.inl ⟨by rfl,?_⟩) hHeld.1 hHeld.2 ?_
  rotate_left
  ·intro w' hSw
   have z0:=HZB.out w' hSw
   have hSS:=Ext.refl w'
   go_simp
   try with_reducible rfl
  try simp only [Act.put,zA,zB,zC]
  refine takeS 8 (v:=?_) rfl (by kernel_rfl) (by kernel_rfl) (by kernel_rfl) (fun _ _ _ h=>h) (by decide) (Or.inl ⟨by rfl,?_⟩) hHeld.1 hHeld.2 ?_
  rotate_left
  ·intro w' hSw
   have z0:=HZB.out w' hSw
   have hSS:=Ext.refl w'
   go_simp
   try with_reducible rfl
  try simp only [Act.put,zA,zB,zC]
  have hS0:=hHeld.1
  clear hHeld
  obtain ⟨m4,k4,f4,_⟩:=HG4.out.box
  have hv0:Ext v0 v0:=Ext.refl _
  refine wpAnyT_ready (rs:=[9]) (by kernel_rfl) (by simp) ?_
  refine AllReadyT.late rfl (by decide) (fun K hK=>?_) AllReadyT.nil
  go_simp
  have hS1:Cg (fun g=>g=w.heap.size+1∨g=w.heap.size+1+1) w8 ((((v0.setCell ⟨w.heap.size+1,0,none⟩ (.bool false)).setCell ⟨w.heap.size+1,1,none⟩ (.slice none 0 0)).setCell ⟨w.heap.size+1,2,none⟩ (.slice none 0 0)).setCell ⟨w.heap.size+1,3,none⟩ (.slice none 0 0)):=hS0.trans ((put4_cg v0 (w.heap.size+1) _ _ _ _).weak fun _ e=>.inl e)
  refine hK.out _ _ hS1 (fun hH1=>?_)
  clear hK K
  try simp only [Act.put,zA,zB,zC]
  have HP4:=Lib.hid (HG4.out.put4 (.bool false) (.slice none 0 0) (.slice none 0 0) (.slice none 0 0))
  have HP5:=Lib.hid (HG5.out.oth4 (b:=w.heap.size+1+1) (g:=w.heap.size+1) (by omega) (.bool false) (.slice none 0 0) (.slice none 0 0) (.slice none 0 0))
  have hx4:=hxd.put4 (g:=w.heap.size+1) (by omega) (.bool false) (.slice none 0 0) (.slice none 0 0) (.slice none 0 0)
  clear m4 k4 f4 hv0 hH1 hS0
  generalize ((((v0.setCell ⟨w.heap.size+1,0,none⟩ (.bool false)).setCell ⟨w.heap.size+1,1,none⟩ (.slice none 0 0)).setCell ⟨w.heap.size+1,2,none⟩ (.slice none 0 0)).setCell ⟨w.heap.size+1,3,none⟩ (.slice none 0 0))=v1 at HP4 HP5 hx4 hS1 ⊢
  obtain ⟨m5,k5,f5,_⟩:=HP5.out.box
  have hv1:Ext v1 v1:=Ext.refl _
  refine wpAnyT_ready (rs:=[10]) (by kernel_rfl) (by simp) ?_
  refine AllReadyT.late rfl (by decide) (fun K hK=>?_) AllReadyT.nil
  go_simp
  refine hK.out _ _ ((hS1.set ⟨w.heap.size+1+1,0,none⟩ _ (.inr rfl)).set ⟨w.heap.size+1+1,1,none⟩ _ (.inr rfl)) (fun hH2=>?_)
  clear hK K
  try simp only [Act.put,zA,zB,zC]
  refine wpAnyT_ready (rs:=[11]) (by kernel_rfl) (by simp) ?_
  refine AllReadyT.late rfl (by decide) (fun K hK=>?_) AllReadyT.nil
  go_simp
  refine hK.out _ _ hH2 (fun hH3=>?_)
  clear hK K
  try simp only [Act.put,zA,zB,zC]
  refine wpAnyT_done (by kernel_rfl) ?_ _
  clear hH3 m5 k5 f5 hv1
  go_wp2_with fail
  try simp only [Exit.inBlock,Exit.then]
  refine bodyPost_ret (parse_results _ _ (w.heap.size+1) (w.heap.size+1+1) _ _ _ _ _ _ _ rfl rfl rfl ((HP4.out.other _ _ (by show w.heap.size+1≠w.heap.size+1+1;omega)).other _ _ (by show w.heap.size+1≠w.heap.size+1+1;omega)) ((HP5.out.set 0 _).set 1 _)) rfl ?_
  have hxe:=(hx4.setCell (p:=⟨w.heap.size+1+1,0,none⟩) (by show _≤w.heap.size+1+1;omega) (.int .i64 r.al)).setCell (p:=⟨w.heap.size+1+1,1,none⟩) (by show _≤w.heap.size+1+1;omega) (.int .i64 r.ac)
  exact ⟨hxe,.inr (.inr (.inl ⟨HVD.out,hl16,by rw [←HRR.out,HRE.out];exact HNE.out,by rw [←HRR.out,HRE.out] <;> rfl⟩))⟩
 have d0:(r.e == 0)=true:=by simpa using h0
 by_cases hr0:r.rest=[]
 case neg=>
  have dr:(bts r.rest).toList.isEmpty=false:=by rw [bts_isE];cases hrr:r.rest with | nil=>exact absurd hrr hr0 | cons x y=>rfl
  have HRE:=Lib.hid (show restE r=⟨r.rest,IntKind.i64.wrap (r.line+1),IntKind.i64.wrap (r.line+1),1,3⟩ from by
   unfold restE Rdr.fail
   rw [if_pos ⟨h0,hr0⟩,if_pos h0])
  obtain ⟨ln,hln⟩:∃ z,z=IntKind.i64.wrap (r.line+1):=⟨_,rfl⟩
  rw [←hln] at HRE
  have hw:IntKind.i64.wrap (r.line+1)=ln:=hln.symm
  have HFE:=Lib.hid (show Rdr.fail ⟨r.rest,ln,r.al,r.ac,r.e⟩ 1 3=⟨r.rest,ln,ln,1,3⟩ from if_pos h0)
  clear h0 hr0 hln
  go_upto_region 9 with fail
  have HH9:=Lib.hid (show Hold (w8.setCell ⟨b,1,none⟩ (.int .i64 ln)) b (rdrC ⟨r.rest,ln,r.al,r.ac,r.e⟩) from HH8.out.set 1 _)
  have HC9:=Lib.hid (show Cg (· = b) w8 (w8.setCell ⟨b,1,none⟩ (.int .i64 ln)) from (Cg.refl _ w8).put 1 _)
  generalize w8.setCell ⟨b,1,none⟩ (.int .i64 ln)=w9 at HH9 HC9 ⊢
  have HFL:=Lib.hid (rfail_any w9 b ⟨r.rest,ln,r.al,r.ac,r.e⟩ HH9.out 1 3)
  rw [HFE.out] at HFL
  go_upto_region 10 with (go_at_call 36;refine HFL.out.mono ?_;rintro e w10 ⟨rfl,hh,hc⟩;have HH10':=Lib.hid hh;have HC10:=Lib.hid (HC9.out.trans hc);clear hh hc)
  obtain ⟨q,hq⟩:∃ q:Rdr,q=⟨r.rest,ln,ln,1,3⟩:=⟨_,rfl⟩
  rw [←hq] at HH10'
  have HQ:=Lib.hid hq
  have d3:(q.e == 0)=false:=by rw [hq];rfl
  have d4:(q.e != 0)=true:=by rw [hq];rfl
  have HH10:=HH10'
  have hxw10:Ext w w10:=HC10.out.ext hxw8 (by omega)
  have HK4:=Lib.hid (HK4.out.cg HC10.out (by omega))
  have HK5:=Lib.hid (HK5.out.cg HC10.out (by omega))
  have h1010:Ext w10 w10:=Ext.refl _
  clear hq lb cb fb hw HH10'
  obtain ⟨lb,cb,fb,_⟩:=HH10.out.box
  unfold rdrC at cb
  go_upto_region 14 with fail
  have HZB:=Lib.hid (show ∀ w',Cg (fun g=>g=w.heap.size+1∨g=w.heap.size+1+1) w10 w'→∀ i,w'.cell? ⟨b,i,none⟩=(#[.string (bts q.rest),.int .i64 q.line,.int .i64 q.al,.int .i64 q.ac,.int .i64 q.e]:Array Value)[i]? from (HH10.out.boxG (S:=fun g=>g=w.heap.size+1∨g=w.heap.size+1+1) (fun e=>by omega)).2)
  have hxz:Ext w w10:=hxw10
  refine wp_region_T (t:=9) (S:=Cg (fun g=>g=w.heap.size+1∨g=w.heap.size+1+1) w10) (R:=fun _=>True) (by kernel_rfl) (Cg.drew (Cg.refl _ _)) trivial (fun hHeld=>?_)
  have HG4:=Lib.hid (HK4.out.ext (h1010.drew))
  have HG5:=Lib.hid (HK5.out.ext (h1010.drew))
  have hxd:=hxz.drew
  generalize World.drew w10=v0 at HG4 HG5 hxd hHeld ⊢
  refine takeS 0 (v:=?_) rfl (by kernel_rfl) (by kernel_rfl) (by kernel_rfl) (fun _ _ _ h=>h) (by decide) (Or.inl ⟨by rfl,?_⟩) hHeld.1 hHeld.2 ?_
  rotate_left
  ·intro w' hSw
   have z0:=HZB.out w' hSw
   have hSS:=Ext.refl w'
   go_simp
   try with_reducible rfl
  try simp only [Act.put,zA,zB,zC]
  refine takeS 1 (v:=?_) rfl (by kernel_rfl) (by kernel_rfl) (by kernel_rfl) (fun _ _ _ h=>h) (by decide) (Or.inl ⟨by rfl,?_⟩) hHeld.1 hHeld.2 ?_
  rotate_left
  ·intro w' hSw
   have z0:=HZB.out w' hSw
   have hSS:=Ext.refl w'
   go_simp
   try with_reducible rfl
  try simp only [Act.put,zA,zB,zC]
  refine takeS 2 (v:=?_) rfl (by kernel_rfl) (by kernel_rfl) (by kernel_rfl) (fun _ _ _ h=>h) (by decide) (Or.inl ⟨by rfl,?_⟩) hHeld.1 hHeld.2 ?_
  rotate_left
  ·intro w' hSw
   have z0:=HZB.out w' hSw
   have hSS:=Ext.refl w'
   go_simp
   try with_reducible rfl
  try simp only [Act.put,zA,zB,zC]
  refine takeS 3 (v:=?_) rfl (by kernel_rfl) (by kernel_rfl) (by kernel_rfl) (fun _ _ _ h=>h) (by decide) (Or.inl ⟨by rfl,?_⟩) hHeld.1 hHeld.2 ?_
  rotate_left
  ·intro w' hSw
   have z0:=HZB.out w' hSw
   have hSS:=Ext.refl w'
   go_simp
   try with_reducible rfl
  try simp only [Act.put,zA,zB,zC]
  refine takeS 4 (v:=?_) rfl (by kernel_rfl) (by kernel_rfl) (by kernel_rfl) (fun _ _ _ h=>h) (by decide) (Or.inl ⟨by rfl,?_⟩) hHeld.1 hHeld.2 ?_
  rotate_left
  ·intro w' hSw
   have z0:=HZB.out w' hSw
   have hSS:=Ext.refl w'
   go_simp
   try with_reducible rfl
  try simp only [Act.put,zA,zB,zC]
  refine takeS 5 (v:=?_) rfl (by kernel_rfl) (by kernel_rfl) (by kernel_rfl) (fun _ _ _ h=>h) (by decide) (Or.inl ⟨by rfl,?_⟩) hHeld.1 hHeld.2 ?_
  rotate_left
  ·intro w' hSw
   have z0:=HZB.out w' hSw
   have hSS:=Ext.refl w'
   go_simp
   try with_reducible rfl
  try simp only [Act.put,zA,zB,zC]
  refine takeS 6 (v:=?_) rfl (by kernel_rfl) (by kernel_rfl) (by kernel_rfl) (fun _ _ _ h=>h) (by decide) (Or.inl ⟨by rfl,?_⟩) hHeld.1 hHeld.2 ?_
  rotate_left
  ·intro w' hSw
   have z0:=HZB.out w' hSw
   have hSS:=Ext.refl w'
   go_simp
   try with_reducible rfl
  try simp only [Act.put,zA,zB,zC]
  refine takeS 7 (v:=?_) rfl (by kernel_rfl) (by kernel_rfl) (by kernel_rfl) (fun _ _ _ h=>h) (by decide) (Or.inl ⟨by rfl,?_⟩) hHeld.1 hHeld.2 ?_
  rotate_left
  ·intro w' hSw
   have z0:=HZB.out w' hSw
   have hSS:=Ext.refl w'
   go_simp
   try with_reducible rfl
  try simp only [Act.put,zA,zB,zC]
  refine takeS 8 (v:=?_) rfl (by kernel_rfl) (by kernel_rfl) (by kernel_rfl) (fun _ _ _ h=>h) (by decide) (Or.inl ⟨by rfl,?_⟩) hHeld.1 hHeld.2 ?_
  rotate_left
  ·intro w' hSw
   have z0:=HZB.out w' hSw
   have hSS:=Ext.refl w'
   go_simp
   try with_reducible rfl
  try simp only [Act.put,zA,zB,zC]
  have hS0:=hHeld.1
  clear hHeld
  obtain ⟨m4,k4,f4,_⟩:=HG4.out.box
  have hv0:Ext v0 v0:=Ext.refl _
  refine wpAnyT_ready (rs:=[9]) (by kernel_rfl) (by simp) ?_
  refine AllReadyT.late rfl (by decide) (fun K hK=>?_) AllReadyT.nil
  go_simp
  have hS1:Cg (fun g=>g=w.heap.size+1∨g=w.heap.size+1+1) w10 ((((v0.setCell ⟨w.heap.size+1,0,none⟩ (.bool false)).setCell ⟨w.heap.size+1,1,none⟩ (.slice none 0 0)).setCell ⟨w.heap.size+1,2,none⟩ (.slice none 0 0)).setCell ⟨w.heap.size+1,3,none⟩ (.slice none 0 0)):=hS0.trans ((put4_cg v0 (w.heap.size+1) _ _ _ _).weak fun _ e=>.inl e)
  refine hK.out _ _ hS1 (fun hH1=>?_)
  clear hK K
  try simp only [Act.put,zA,zB,zC]
  have HP4:=Lib.hid (HG4.out.put4 (.bool false) (.slice none 0 0) (.slice none 0 0) (.slice none 0 0))
  have HP5:=Lib.hid (HG5.out.oth4 (b:=w.heap.size+1+1) (g:=w.heap.size+1) (by omega) (.bool false) (.slice none 0 0) (.slice none 0 0) (.slice none 0 0))
  have hx4:=hxd.put4 (g:=w.heap.size+1) (by omega) (.bool false) (.slice none 0 0) (.slice none 0 0) (.slice none 0 0)
  clear m4 k4 f4 hv0 hH1 hS0
  generalize ((((v0.setCell ⟨w.heap.size+1,0,none⟩ (.bool false)).setCell ⟨w.heap.size+1,1,none⟩ (.slice none 0 0)).setCell ⟨w.heap.size+1,2,none⟩ (.slice none 0 0)).setCell ⟨w.heap.size+1,3,none⟩ (.slice none 0 0))=v1 at HP4 HP5 hx4 hS1 ⊢
  obtain ⟨m5,k5,f5,_⟩:=HP5.out.box
  have hv1:Ext v1 v1:=Ext.refl _
  refine wpAnyT_ready (rs:=[10]) (by kernel_rfl) (by simp) ?_
  refine AllReadyT.late rfl (by decide) (fun K hK=>?_) AllReadyT.nil
  go_simp
  refine hK.out _ _ ((hS1.set ⟨w.heap.size+1+1,0,none⟩ _ (.inr rfl)).set ⟨w.heap.size+1+1,1,none⟩ _ (.inr rfl)) (fun hH2=>?_)
  clear hK K
  try simp only [Act.put,zA,zB,zC]
  refine wpAnyT_ready (rs:=[11]) (by kernel_rfl) (by simp) ?_
  refine AllReadyT.late rfl (by decide) (fun K hK=>?_) AllReadyT.nil
  go_simp
  refine hK.out _ _ hH2 (fun hH3=>?_)
  clear hK K
  try simp only [Act.put,zA,zB,zC]
  refine wpAnyT_done (by kernel_rfl) ?_ _
  clear hH3 m5 k5 f5 hv1
  go_wp2_with fail
  try simp only [Exit.inBlock,Exit.then]
  refine bodyPost_ret (parse_results _ _ (w.heap.size+1) (w.heap.size+1+1) _ _ _ _ _ _ _ rfl rfl rfl ((HP4.out.other _ _ (by show w.heap.size+1≠w.heap.size+1+1;omega)).other _ _ (by show w.heap.size+1≠w.heap.size+1+1;omega)) ((HP5.out.set 0 _).set 1 _)) rfl ?_
  have hxe:=(hx4.setCell (p:=⟨w.heap.size+1+1,0,none⟩) (by show _≤w.heap.size+1+1;omega) (.int .i64 q.al)).setCell (p:=⟨w.heap.size+1+1,1,none⟩) (by show _≤w.heap.size+1+1;omega) (.int .i64 q.ac)
  refine ⟨hxe,.inr (.inr (.inl ⟨HVD.out,hl16,?_,?_⟩))⟩
  ·rw [←HRR.out,HRE.out];show ¬(3:Int)=0;decide
  ·rw [←HRR.out,HRE.out,HQ.out] <;> rfl
 have dr:(bts r.rest).toList.isEmpty=true:=by rw [bts_isE,hr0];rfl
 have HRE:=Lib.hid (show restE r=r from if_neg fun h=>h.2 hr0)
 obtain ⟨S,hSv,hSi,hSa⟩:=HSS.out h0 w8 (HX78.out.cg _)
 have HSI:=Lib.hid hSi
 have HVL:=Lib.hid (show Calls Tryz.prog 17 #[.agg #[.slice T.a T.n T.cap],.agg #[.bool b0,.slice a1 n1 c1,.slice a2 n2 c2,.slice a3 n3 c3]] w8 (BoolPost (S.Ok T.toTr) w8) from by
  rw [hSv];exact HSV.out w8 hxw8 S hSa)
 have HS2:=Lib.hid (fun w' (x:Cg (fun g=>g<w6.heap.size) w7 w')=>HSS.out h0 w' x)
 have HE0:=Lib.hid h0
 obtain ⟨l8,c8,f8,_⟩:=HK8.out.box
 clear h0 hr0 hSv hSi hSa
 go_wp2_with fail
 go_at_call 17
 refine HVL.out.mono ?_
 rintro e w9 ⟨bv,rfl,hb,hx89⟩
 have HB:=Lib.hid hb
 have hxw9:=hxw8.trans hx89
 have HH9:=Lib.hid (HH8.out.ext hx89)
 have HK4:=Lib.hid (HK4.out.ext hx89)
 have HK5:=Lib.hid (HK5.out.ext hx89)
 have HC79:=Lib.hid (show Cg (fun g=>g<w6.heap.size) w7 w9 from (HX78.out.trans hx89).cg _)
 have hg6:w.heap.size+1+1<w6.heap.size:=by omega
 clear hb
 rcases bv with _ | _
 ·have HNO:=Lib.hid (show ¬S.Ok T.toTr from fun h=>absurd (HB.out.2 h) (by decide))
  have h99:Ext w9 w9:=Ext.refl _
  have HFE:=Lib.hid (show Rdr.fail ⟨r.rest,1,r.al,r.ac,r.e⟩ 1 17=⟨r.rest,1,1,1,17⟩ from if_pos HE0.out)
  go_upto_region 12 with fail
  have HH10:=Lib.hid (show Hold (w9.setCell ⟨b,1,none⟩ (.int .i64 1)) b (rdrC ⟨r.rest,1,r.al,r.ac,r.e⟩) from HH9.out.set 1 _)
  have HC10:=Lib.hid (show Cg (· = b) w9 (w9.setCell ⟨b,1,none⟩ (.int .i64 1)) from (Cg.refl _ w9).put 1 _)
  generalize w9.setCell ⟨b,1,none⟩ (.int .i64 1)=w10 at HH10 HC10 ⊢
  have HFL:=Lib.hid (rfail_any w10 b ⟨r.rest,1,r.al,r.ac,r.e⟩ HH10.out 1 17)
  rw [HFE.out] at HFL
  go_upto_region 13 with (go_at_call 36;refine HFL.out.mono ?_;rintro e w11 ⟨rfl,hh,hc⟩;have HH11':=Lib.hid hh;have HC11:=Lib.hid (HC10.out.trans hc);clear hh hc)
  obtain ⟨q,hq⟩:∃ q:Rdr,q=⟨r.rest,1,1,1,17⟩:=⟨_,rfl⟩
  rw [←hq] at HH11'
  have HQ:=Lib.hid hq
  have d4:(q.e != 0)=true:=by rw [hq];rfl
  have HH11:=HH11'
  have hxw11:Ext w w11:=HC11.out.ext hxw9 (by omega)
  have HK4:=Lib.hid (HK4.out.cg HC11.out (by omega))
  have HK5:=Lib.hid (HK5.out.cg HC11.out (by omega))
  have h1111:Ext w11 w11:=Ext.refl _
  clear hq lb cb fb HH11' l8 c8 f8
  obtain ⟨lb,cb,fb,_⟩:=HH11.out.box
  unfold rdrC at cb
  go_upto_region 14 with fail
  have HZB:=Lib.hid (show ∀ w',Cg (fun g=>g=w.heap.size+1∨g=w.heap.size+1+1) w11 w'→∀ i,w'.cell? ⟨b,i,none⟩=(#[.string (bts q.rest),.int .i64 q.line,.int .i64 q.al,.int .i64 q.ac,.int .i64 q.e]:Array Value)[i]? from (HH11.out.boxG (S:=fun g=>g=w.heap.size+1∨g=w.heap.size+1+1) (fun e=>by omega)).2)
  have hxz:Ext w w11:=hxw11
  refine wp_region_T (t:=9) (S:=Cg (fun g=>g=w.heap.size+1∨g=w.heap.size+1+1) w11) (R:=fun _=>True) (by kernel_rfl) (Cg.drew (Cg.refl _ _)) trivial (fun hHeld=>?_)
  have HG4:=Lib.hid (HK4.out.ext (h1111.drew))
  have HG5:=Lib.hid (HK5.out.ext (h1111.drew))
  have hxd:=hxz.drew
  generalize World.drew w11=v0 at HG4 HG5 hxd hHeld ⊢
  refine takeS 0 (v:=?_) rfl (by kernel_rfl) (by kernel_rfl) (by kernel_rfl) (fun _ _ _ h=>h) (by decide) (Or.inl ⟨by rfl,?_⟩) hHeld.1 hHeld.2 ?_
  rotate_left
  ·intro w' hSw
   have z0:=HZB.out w' hSw
   have hSS:=Ext.refl w'
   go_simp
   try with_reducible rfl
  try simp only [Act.put,zA,zB,zC]
  refine takeS 1 (v:=?_) rfl (by kernel_rfl) (by kernel_rfl) (by kernel_rfl) (fun _ _ _ h=>h) (by decide) (Or.inl ⟨by rfl,?_⟩) hHeld.1 hHeld.2 ?_
  rotate_left
  ·intro w' hSw
   have z0:=HZB.out w' hSw
   have hSS:=Ext.refl w'
   go_simp
   try with_reducible rfl
  try simp only [Act.put,zA,zB,zC]
  refine takeS 2 (v:=?_) rfl (by kernel_rfl) (by kernel_rfl) (by kernel_rfl) (fun _ _ _ h=>h) (by decide) (Or.inl ⟨by rfl,?_⟩) hHeld.1 hHeld.2 ?_
  rotate_left
  ·intro w' hSw
   have z0:=HZB.out w' hSw
   have hSS:=Ext.refl w'
   go_simp
   try with_reducible rfl
  try simp only [Act.put,zA,zB,zC]
  refine takeS 3 (v:=?_) rfl (by kernel_rfl) (by kernel_rfl) (by kernel_rfl) (fun _ _ _ h=>h) (by decide) (Or.inl ⟨by rfl,?_⟩) hHeld.1 hHeld.2 ?_
  rotate_left
  ·intro w' hSw
   have z0:=HZB.out w' hSw
   have hSS:=Ext.refl w'
   go_simp
   try with_reducible rfl
  try simp only [Act.put,zA,zB,zC]
  refine takeS 4 (v:=?_) rfl (by kernel_rfl) (by kernel_rfl) (by kernel_rfl) (fun _ _ _ h=>h) (by decide) (Or.inl ⟨by rfl,?_⟩) hHeld.1 hHeld.2 ?_
  rotate_left
  ·intro w' hSw
   have z0:=HZB.out w' hSw
   have hSS:=Ext.refl w'
   go_simp
   try with_reducible rfl
  try simp only [Act.put,zA,zB,zC]
  refine takeS 5 (v:=?_) rfl (by kernel_rfl) (by kernel_rfl) (by kernel_rfl) (fun _ _ _ h=>h) (by decide) (Or.inl ⟨by rfl,?_⟩) hHeld.1 hHeld.2 ?_
  rotate_left
  ·intro w' hSw
   have z0:=HZB.out w' hSw
   have hSS:=Ext.refl w'
   go_simp
   try with_reducible rfl
  try simp only [Act.put,zA,zB,zC]
  refine takeS 6 (v:=?_) rfl (by kernel_rfl) (by kernel_rfl) (by kernel_rfl) (fun _ _ _ h=>h) (by decide) (Or.inl ⟨by rfl,?_⟩) hHeld.1 hHeld.2 ?_
  rotate_left
  ·intro w' hSw
   have z0:=HZB.out w' hSw
   have hSS:=Ext.refl w'
   go_simp
   try with_reducible rfl
  try simp only [Act.put,zA,zB,zC]
  refine takeS 7 (v:=?_) rfl (by kernel_rfl) (by kernel_rfl) (by kernel_rfl) (fun _ _ _ h=>h) (by decide) (Or.inl ⟨by rfl,?_⟩) hHeld.1 hHeld.2 ?_
  rotate_left
  ·intro w' hSw
   have z0:=HZB.out w' hSw
   have hSS:=Ext.refl w'
   go_simp
   try with_reducible rfl
  try simp only [Act.put,zA,zB,zC]
  refine takeS 8 (v:=?_) rfl (by kernel_rfl) (by kernel_rfl) (by kernel_rfl) (fun _ _ _ h=>h) (by decide) (Or.inl ⟨by rfl,?_⟩) hHeld.1 hHeld.2 ?_
  rotate_left
  ·intro w' hSw
   have z0:=HZB.out w' hSw
   have hSS:=Ext.refl w'
   go_simp
   try with_reducible rfl
  try simp only [Act.put,zA,zB,zC]
  have hS0:=hHeld.1
  clear hHeld
  obtain ⟨m4,k4,f4,_⟩:=HG4.out.box
  have hv0:Ext v0 v0:=Ext.refl _
  refine wpAnyT_ready (rs:=[9]) (by kernel_rfl) (by simp) ?_
  refine AllReadyT.late rfl (by decide) (fun K hK=>?_) AllReadyT.nil
  go_simp
  have hS1:Cg (fun g=>g=w.heap.size+1∨g=w.heap.size+1+1) w11 ((((v0.setCell ⟨w.heap.size+1,0,none⟩ (.bool false)).setCell ⟨w.heap.size+1,1,none⟩ (.slice none 0 0)).setCell ⟨w.heap.size+1,2,none⟩ (.slice none 0 0)).setCell ⟨w.heap.size+1,3,none⟩ (.slice none 0 0)):=hS0.trans ((put4_cg v0 (w.heap.size+1) _ _ _ _).weak fun _ e=>.inl e)
  refine hK.out _ _ hS1 (fun hH1=>?_)
  clear hK K
  try simp only [Act.put,zA,zB,zC]
  have HP4:=Lib.hid (HG4.out.put4 (.bool false) (.slice none 0 0) (.slice none 0 0) (.slice none 0 0))
  have HP5:=Lib.hid (HG5.out.oth4 (b:=w.heap.size+1+1) (g:=w.heap.size+1) (by omega) (.bool false) (.slice none 0 0) (.slice none 0 0) (.slice none 0 0))
  have hx4:=hxd.put4 (g:=w.heap.size+1) (by omega) (.bool false) (.slice none 0 0) (.slice none 0 0) (.slice none 0 0)
  clear m4 k4 f4 hv0 hH1 hS0
  generalize ((((v0.setCell ⟨w.heap.size+1,0,none⟩ (.bool false)).setCell ⟨w.heap.size+1,1,none⟩ (.slice none 0 0)).setCell ⟨w.heap.size+1,2,none⟩ (.slice none 0 0)).setCell ⟨w.heap.size+1,3,none⟩ (.slice none 0 0))=v1 at HP4 HP5 hx4 hS1 ⊢
  obtain ⟨m5,k5,f5,_⟩:=HP5.out.box
  have hv1:Ext v1 v1:=Ext.refl _
  refine wpAnyT_ready (rs:=[10]) (by kernel_rfl) (by simp) ?_
  refine AllReadyT.late rfl (by decide) (fun K hK=>?_) AllReadyT.nil
  go_simp
  refine hK.out _ _ ((hS1.set ⟨w.heap.size+1+1,0,none⟩ _ (.inr rfl)).set ⟨w.heap.size+1+1,1,none⟩ _ (.inr rfl)) (fun hH2=>?_)
  clear hK K
  try simp only [Act.put,zA,zB,zC]
  refine wpAnyT_ready (rs:=[11]) (by kernel_rfl) (by simp) ?_
  refine AllReadyT.late rfl (by decide) (fun K hK=>?_) AllReadyT.nil
  go_simp
  refine hK.out _ _ hH2 (fun hH3=>?_)
  clear hK K
  try simp only [Act.put,zA,zB,zC]
  refine wpAnyT_done (by kernel_rfl) ?_ _
  clear hH3 m5 k5 f5 hv1
  go_wp2_with fail
  try simp only [Exit.inBlock,Exit.then]
  refine bodyPost_ret (parse_results _ _ (w.heap.size+1) (w.heap.size+1+1) _ _ _ _ _ _ _ rfl rfl rfl ((HP4.out.other _ _ (by show w.heap.size+1≠w.heap.size+1+1;omega)).other _ _ (by show w.heap.size+1≠w.heap.size+1+1;omega)) ((HP5.out.set 0 _).set 1 _)) rfl ?_
  have hxe:=(hx4.setCell (p:=⟨w.heap.size+1+1,0,none⟩) (by show _≤w.heap.size+1+1;omega) (.int .i64 q.al)).setCell (p:=⟨w.heap.size+1+1,1,none⟩) (by show _≤w.heap.size+1+1;omega) (.int .i64 q.ac)
  obtain ⟨S',_,hi,ha⟩:=HS2.out _ ((HC79.out.trans (HC11.out.weak fun g e=>by rw [e];exact hb6)).trans (hH2.weak fun g e=>by rcases e with e | e <;> omega))
  refine ⟨hxe,.inr (.inr (.inr ⟨HVD.out,hl16,?_,S',hi,ha,.inr ⟨fun h=>HNO.out (hi.ok HSI.out h),?_⟩⟩))⟩
  ·rw [←HRR.out,HRE.out];exact HE0.out
  ·rw [HQ.out] <;> rfl
 ·have HOK:=Lib.hid (HB.out.1 rfl)
  have h99:Ext w9 w9:=Ext.refl _
  have d2:(r.e != 0)=false:=by rw [HE0.out];rfl
  obtain ⟨m4,k4,f4',_⟩:=HK4.out.box
  obtain ⟨m5,k5,f5',_⟩:=HK5.out.box
  go_wp2_with fail
  try simp only [Exit.inBlock,Exit.then]
  refine bodyPost_ret (parse_results _ _ (w.heap.size+1) (w.heap.size+1+1) _ _ _ _ _ _ _ rfl rfl rfl (put6 (by omega) HK4.out HK5.out _ _ _ _ _ _).1 (put6 (by omega) HK4.out HK5.out _ _ _ _ _ _).2) rfl ?_
  obtain ⟨S',hv,hi,ha⟩:=HS2.out _ (HC79.out.trans ((put6_cg w9 (w.heap.size+1) (w.heap.size+1+1) (.bool b0) (.slice a1 n1 c1) (.slice a2 n2 c2) (.slice a3 n3 c3) (.int .i64 0) (.int .i64 0)).weak fun g e=>by rcases e with e | e <;> omega))
  refine ⟨put6_ext hxw9 (by omega) (by omega) _ _ _ _ _ _,.inr (.inr (.inr ⟨HVD.out,hl16,?_,S',hi,ha,.inl ⟨HSI.out.ok hi HOK.out,by rw [←hv] <;> rfl⟩⟩))⟩
  rw [←HRR.out,HRE.out];exact HE0.out
end Go.Proofs.YtlfdfkbmollaaaaGreatDoor
