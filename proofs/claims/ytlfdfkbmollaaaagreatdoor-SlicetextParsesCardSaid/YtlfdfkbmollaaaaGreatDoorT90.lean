/- Contracts and laws in plain Lean for RApp: group T90. -/
import Derived.Test.YtlfdfkbmollaaaaGreatDoorT89
import Derived.Test.YtlfdfkbmollaaaaGreatDoorT77
namespace Go.Proofs.YtlfdfkbmollaaaaGreatDoor
open Go.RowKit Go.Shelf
attribute [local go_sem] Oper.semAt_some
theorem rparse_results (tmps : Array Value) (W : World) (b c : Nat) (x0 x1 x2 x3 y0 y1 z : Value) (t4 : tmps[4]? = some (.pointer (some ⟨b, 0, none⟩))) (t5 : tmps[5]? = some (.pointer (some ⟨c, 0, none⟩))) (t6 : tmps[6]? = some z) (h : Hold W b #[x0, x1, x2, x3]) (h' : Hold W c #[y0, y1]) :
    (results Tryz.f13 tmps).run Tryz.prog W=.ok (.tuple #[.agg #[x0,x1,x2,x3],.agg #[y0,y1],z]) W:=by
 have c0:W.cell? ⟨b,0,none⟩=some x0:=h.cell0 0
 have c1:W.cell? ⟨b,1,none⟩=some x1:=h.cell0 1
 have c2:W.cell? ⟨b,2,none⟩=some x2:=h.cell0 2
 have c3:W.cell? ⟨b,3,none⟩=some x3:=h.cell0 3
 have d0:W.cell? ⟨c,0,none⟩=some y0:=h'.cell0 0
 have d1:W.cell? ⟨c,1,none⟩=some y1:=h'.cell0 1
 simp [results,go_sem,t4,t5,t6,c0,c1,c2,c3,d0,d1]
structure Ph1 (T:Tr) (text:List UInt8) (B b7:Nat) (tx:List UInt8) (f:List Int) (vf:Value) (w:World):Prop where
 h:Hold w b7 #[.bool false,vf,nilS,nilS]
 qf:Que w B 1 vf f.length (intCells f)
 nf:f.length=T.n
 of:Nat50 f
 cut:T.IsCut f.length (gi f)
 rd:readP T text=readQ T f ⟨tx,1,0,0,0⟩
structure Ph2 (T:Tr) (B b7:Nat) (f l:List Int) (vf vl v8:Value) (w2:World):Prop where
 h:Hold w2 b7 #[.bool false,vf,vl,nilS]
 qf:Que w2 B 1 vf f.length (intCells f)
 ql:Que w2 B 1 vl l.length (intCells l)
 nf:f.length=T.n
 nl:l.length=T.n
 of:Nat50 f
 ol:Nat50 l
 cf:T.IsCut f.length (gi f)
 cl:T.IsCut l.length (gi l)
 le:LeqL f.length l.length (gi f) (gi l)
 qo:Que w2 B 2 v8 (ownL (gi f) (gi l) T.n).length (evCells (ownL (gi f) (gi l) T.n))
structure Ph3 (T:Tr) (text:List UInt8) (f l:List Int) (w2:World) (k:Nat) (tx:List UInt8) (v9:Value) (EV:List Value) (vs:List (List Int)) (wr:World):Prop where
 x:Ext w2 wr
 kn:k≤(ownL (gi f) (gi l) T.n).length
 lol:Lol wr w2.heap.size v9 EV (vs.map intCells)
 nv:vs.length=k
 vn:∀ v∈vs,v.length=T.n∧Nat50 v
 rd:readP T text=(⟨false,f,l,(evsGo T ((ownL (gi f) (gi l) T.n).drop k) (putJ ((ownL (gi f) (gi l) T.n).take k) vs (J0 T f)) ⟨tx,2+(k:Int),0,0,0⟩).1⟩,(evsGo T ((ownL (gi f) (gi l) T.n).drop k) (putJ ((ownL (gi f) (gi l) T.n).take k) vs (J0 T f)) ⟨tx,2+(k:Int),0,0,0⟩).2)
def PsI (T:Tr) (text:List UInt8) (B b7:Nat) (wS:World) (gg:Nat) (v1 v8 v9 v10 v11:Value) (wr:World):Prop:=
 ∃ tx:List UInt8,v1=.string (bts tx)∧tx.length≤text.length∧Cg (· = b7) wS wr∧
  ((gg=700∧v8=nilS∧v9=nilS∧v10=.int .i64 0∧v11=.int .i64 1∧tx=text∧Hold wr b7 #[.bool false,nilS,nilS,nilS])∨
   (gg=699∧v8=nilS∧v9=nilS∧v10=.int .i64 1∧v11=.int .i64 1∧Hold wr b7 #[.bool true,nilS,nilS,nilS]∧readP T text=(⟨true,[],[],[]⟩,⟨tx,1,0,0,0⟩))∨
   (gg=699∧v8=nilS∧v9=nilS∧v10=.int .i64 1∧v11=.int .i64 2∧∃ f vf,Ph1 T text B b7 tx f vf wr)∨
   (∃ k f l vf vl EV vs w2,gg=698 - k∧v10=.int .i64 (2+(k:Int))∧v11=.int .i64 (2+((ownL (gi f) (gi l) T.n).length:Int))∧Cg (· = b7) wS w2∧Ph2 T B b7 f l vf vl v8 w2∧Ph3 T text f l w2 k tx v9 EV vs wr))
theorem sld0 (w:World):SlD.At ⟨none,0,0,0,0⟩ w:=⟨by decide,by decide,fun h=>absurd h (by decide),fun h=>absurd h (by decide)⟩
abbrev Semp:SlcD:=⟨true,⟨⟨none,0,0,0,0⟩,fun _=>0⟩,⟨⟨none,0,0,0,0⟩,fun _=>0⟩,⟨⟨none,0,0,0,0⟩,fun _=>default⟩⟩
theorem Semp_at (w:World):Semp.At w:=⟨⟨sld0 w,fun k hk=>absurd hk (Nat.not_lt_zero k)⟩,⟨sld0 w,fun k hk=>absurd hk (Nat.not_lt_zero k)⟩,⟨sld0 w,fun k hk=>absurd hk (Nat.not_lt_zero k)⟩⟩
theorem Semp_is:Semp.Is ⟨true,[],[],[]⟩:=⟨rfl,rfl,fun i hi=>absurd hi (by simp),rfl,fun i hi=>absurd hi (by simp),rfl,fun p hp=>absurd hp (by simp),fun p i hp=>absurd hp (by simp),fun p i q hp=>absurd hp (by simp)⟩
theorem restE_more {tx:List UInt8} {z z1:Int} (h:tx≠[]) (hz:IntKind.i64.wrap (z+1)=z1):restE ⟨tx,z,0,0,0⟩=⟨tx,z1,z1,1,3⟩:=by
 unfold restE
 rw [if_pos ⟨rfl,h⟩]
 show Rdr.fail ⟨tx,IntKind.i64.wrap (z+1),0,0,0⟩ 1 3=_
 rw [hz];exact if_pos rfl
theorem restE_done {z:Int}:restE ⟨[],z,0,0,0⟩=⟨[],z,0,0,0⟩:=if_neg fun k=>k.2 rfl
set_option maxRecDepth 100000 in
set_option maxHeartbeats 16000000 in
theorem rparse_any (W : World) (T : TM) (hT : T.At W) (hV : T.toTr.Valid) (text : List UInt8) :
    Calls Tryz.prog 13 #[T.val,.string (bts text)] W (ParsePost T.toTr text W):=by
 obtain ⟨i0,hi0,hz0,hz1,hz2⟩:=info_parts infoScR
 obtain ⟨j0,hj0,hy0,hy1,hy2⟩:=info_parts infoScJ
 have htn8:=hV.n8
 have HT:=Lib.hid (fun w (x:Ext W w)=>hT.ext x)
 have HVD:=Lib.hid hV
 have HLN:=Lib.hid (fun w (x:Ext W w) l (hl:l.length≤100000) fst p z first hF r hr=>rline_any w T (hT.ext x) l hl fst p z first hF r hr)
 have HIS:=Lib.hid (fun w (x:Ext W w) a g o n cap v hC=>ris23_any w T (hT.ext x) hV a g o n cap v hC)
 have HOW:=Lib.hid (fun w (x:Ext W w) a1 a2 g1 o1 g2 o2 n c1 c2 u v h1 h2 hn hn' hb=>rown_any w T a1 a2 g1 o1 g2 o2 n c1 c2 u v h1 h2 hn hn' hb)
 have HRV:=Lib.hid (fun w (x:Ext W w) S (hS:SlcD.At S w)=>rvalid34_any w T (hT.ext x) S hS)
 have hzt:=bts_size text
 simp only [TM.val] at HLN HIS HOW HRV ⊢
 unfold ParsePost
 clear hT hV
 go_enter Tryz.func13,Tryz.ntmps13
 go_upto_region 1 with fail
 refine boxed3 (w:=W) (G:=fun x=>Code.wp _ _ _ _ x) ?_
 intro w1 hx1 hs1 ⟨l2,c2,f2,k2⟩ ⟨l4,c4,f4,k4⟩ ⟨l5,c5,f5,k5⟩
 have hx11:Ext w1 w1:=Ext.refl _
 have HK2':=Lib.hid (show Hold w1 W.heap.size _ from k2)
 have HK4':=Lib.hid (show Hold w1 (W.heap.size+1) _ from k4)
 have HK5':=Lib.hid (show Hold w1 (W.heap.size+1+1) _ from k5)
 have HS1:=Lib.hid (show w1.heap.size=W.heap.size+1+1+1 from hs1)
 clear hs1 k2 k4 k5
 by_cases hlen:16384<text.length
 ·have d1:decide ((16384:Int)<(text.length:Int))=true:=decide_eq_true (by omega)
  have HLN':=Lib.hid hlen
  clear hlen
  go_wp2_with fail
  try simp only [Exit.inBlock,Exit.then]
  refine bodyPost_ret (rparse_results _ _ (W.heap.size+1) (W.heap.size+1+1) _ _ _ _ _ _ _ rfl rfl rfl (put6 (by omega) HK4'.out HK5'.out _ _ _ _ _ _).1 (put6 (by omega) HK4'.out HK5'.out _ _ _ _ _ _).2) rfl ?_
  exact ⟨put6_ext hx1 (by omega) (by omega) _ _ _ _ _ _,.inr (.inl ⟨HVD.out,HLN'.out,rfl⟩)⟩
 have d1:decide ((16384:Int)<(text.length:Int))=false:=decide_eq_false (by omega)
 have hl17:text.length≤20000:=by omega
 have HL16:=Lib.hid (show text.length≤16384 from by omega)
 clear hlen
 go_upto_region 4 with fail
 refine boxed1t' (w:=w1) (G:=fun x=>Code.wp _ _ _ _ x) ?_
 intro wS hx1S hsS k7
 obtain ⟨b7,hb7⟩:∃ z,z=w1.heap.size:=⟨_,rfl⟩
 rw [←hb7] at k7 ⊢
 have HK7:=Lib.hid (show Hold wS b7 #[.bool false,nilS,nilS,nilS] from k7)
 have hb7W:W.heap.size+1+1<b7:=by have:=HS1.out;omega
 have hsS':wS.heap.size=b7+1:=by rw [hsS,hb7]
 have HXS:=Lib.hid (hx1.trans hx1S)
 have HK2:=Lib.hid (fun w (x:Cg (· = b7) wS w)=>(HK2'.out.ext hx1S).cg x (by omega))
 have HK4:=Lib.hid (fun w (x:Cg (· = b7) wS w)=>(HK4'.out.ext hx1S).cg x (by omega))
 have HK5:=Lib.hid (fun w (x:Cg (· = b7) wS w)=>(HK5'.out.ext hx1S).cg x (by omega))
 have HXT:=Lib.hid (fun w (x:Cg (· = b7) wS w)=>x.ext (HXS.out) (show W.heap.size≤b7 by omega))
 clear l2 c2 f2 l4 c4 f4 l5 c5 f5 hx11 HK2' HK4' HK5' k7 hb7 hsS d1 hzt
 go_wp2_with fail
 go_loopg [1,8,9,10,11] 700 (PsI T.toTr text (b7+1) b7 wS)
 case atStart=>exact ⟨text,rfl,Nat.le_refl _,Cg.refl _ _,.inl ⟨rfl,rfl,rfl,rfl,rfl,rfl,HK7.out⟩⟩
 case round=>
  obtain ⟨tx,rfl,htx,hSr,hp⟩:=hrel
  have hxr:=HXT.out wr hSr
  have hrr:Ext wr wr:=Ext.refl _
  have HB2:=Lib.hid (HK2.out wr hSr)
  obtain ⟨l2,c2,f2,_⟩:=HB2.out.box
  rcases hp with ⟨rfl,rfl,rfl,rfl,rfl,rfl,hh⟩ | ⟨rfl,rfl,rfl,rfl,rfl,hh,hrd⟩ | ⟨rfl,rfl,rfl,rfl,rfl,f,vf,hp1⟩ | ⟨k,f,l,vf,vl,EV,vs,w2,rfl,rfl,rfl,hS2,hp2,hp3⟩
  ·have H7:=Lib.hid hh
   clear hh
   obtain ⟨l,hl⟩:∃ z,z=(Lib.cut tx [10]).1:=⟨_,rfl⟩
   obtain ⟨rest,hrest⟩:∃ z,z=(Lib.cut tx [10]).2.1:=⟨_,rfl⟩
   obtain ⟨ok,hok⟩:∃ z,z=(Lib.cut tx [10]).2.2:=⟨_,rfl⟩
   have hcl:=cut_len tx 10
   rw [←hl,←hrest] at hcl
   obtain ⟨hcl1,hcl2⟩:=hcl
   have HNX:=Lib.hid (show Calls Tryz.prog 40 #[.string (bts tx)] wr (fun e w'=>e=.returned (.tuple #[.string (bts l),.string (bts rest),.bool ok])∧Ext wr w') from by
    rw [hl,hrest,hok];exact rnext36_any wr (bts tx) (by rw [bts_size];omega))
   have HCUT:=Lib.hid (show Lib.cut tx [10]=(l,rest,ok) from by rw [hl,hrest,hok])
   have hzl:=bts_size l
   have hwl:IntKind.i64.wrap ((l.length:Int)+1)=(l.length:Int)+1:=IntWalk.i64_in _ (by omega)
   clear hl hrest hok
   go_upto_region 11 with (go_at_call 40;refine HNX.out.mono ?_;rintro e w3 ⟨rfl,hx3⟩)
   have hS3:=hSr.trans (hx3.cg _)
   have hxW3:=HXT.out w3 hS3
   have h33:Ext w3 w3:=Ext.refl _
   have HB7:=Lib.hid (H7.out.ext hx3)
   clear HNX
   cases ok with
   | false =>
    have HE:=Lib.hid (show (readP T.toTr tx).2=⟨tx,1,1,(l.length:Int)+1,4⟩ from by
     rw [rd_no (by rw [HCUT.out]),HCUT.out])
    have HB4:=Lib.hid (HK4.out w3 hS3)
    have HB5:=Lib.hid (HK5.out w3 hS3)
    obtain ⟨m4,k4,f4,_⟩:=HB4.out.box
    obtain ⟨m5,k5,f5,_⟩:=HB5.out.box
    go_wp2_with fail
    try simp only [Exit.inBlock,Exit.then]
    refine bodyPost_ret (rparse_results _ _ (W.heap.size+1) (W.heap.size+1+1) _ _ _ _ _ _ _ rfl rfl rfl (put6 (by omega) HB4.out HB5.out _ _ _ _ _ _).1 (put6 (by omega) HB4.out HB5.out _ _ _ _ _ _).2) rfl ?_
    exact ⟨put6_ext hxW3 (by omega) (by omega) _ _ _ _ _ _,.inr (.inr (.inl ⟨HVD.out,HL16.out,by rw [restE_bad (by rw [HE.out];exact (show (4:Int)≠0 by decide)),HE.out];exact (show (4:Int)≠0 by decide),by rw [restE_bad (by rw [HE.out];exact (show (4:Int)≠0 by decide)),HE.out] <;> rfl⟩))⟩
   | true =>
    by_cases hem:l=[101,109,112,116,121]
    ·have d2:((bts l).toList == [101,109,112,116,121])=true:=by rw [bts_const];simp [hem]
     have HE:=Lib.hid (show readP T.toTr tx=(⟨true,[],[],[]⟩,⟨rest,1,0,0,0⟩) from rd_em (by rw [HCUT.out,hem]))
     obtain ⟨l7,c7,f7,_⟩:=HB7.out.box
     clear hem
     go_wp2_with fail
     go_roundg 699
     case rel=>exact ⟨rest,rfl,by omega,hS3.put 0 _,.inr (.inl ⟨rfl,rfl,rfl,by go_num,rfl,HB7.out.set 0 _,HE.out⟩)⟩
     case measure=>omega
    have d2:((bts l).toList == [101,109,112,116,121])=false:=by rw [bts_const];simp [hem]
    have HEM:=Lib.hid hem
    clear hem
    go_upto_region 18 with fail
    refine boxed1 (w:=w3) (G:=fun x=>Code.wp _ _ _ _ x) ?_
    intro w4 hx34 _ ⟨l16,c16,f16,_⟩
    have hS4:=hS3.trans (hx34.cg _)
    have hxW4:=HXT.out w4 hS4
    have h44:Ext w4 w4:=Ext.refl _
    have hr4:=hx3.trans hx34
    obtain ⟨C,hC⟩:∃ C,C=(Rdr.mk rest 1 0 0 0).counts l (Lib.split l [32]) T.n (wordE [102,105,114,115,116]):=⟨_,rfl⟩
    have HLNc:=Lib.hid (show Calls Tryz.prog 41 #[.agg #[.slice T.a T.n T.cap],.string (bts l),.string ⟨#[102,105,114,115,116]⟩,.agg #[.int .i64 0,.int .i64 0]] w4 (LinePost w4 C ⟨rest,1,0,0,0⟩ T.n) from by
     rw [hC]
     exact HLN.out w4 hxW4 l (by omega) [102,105,114,115,116] 0 0 _ (.inl ⟨by decide,rfl⟩) ⟨rest,1,0,0,0⟩ rfl)
    have HC:=Lib.hid hC.symm
    clear hC
    go_upto_region 24 with (go_at_call 41;refine HLNc.out.mono ?_;rintro e w5 ⟨hx45,v,col,ec,rfl,hcase⟩)
    have hS5:=hS4.trans (hx45.cg _)
    have hxW5:=HXT.out w5 hS5
    have h55:Ext w5 w5:=Ext.refl _
    clear HLNc
    rcases hcase with ⟨hec,hbad⟩ | ⟨rfl,hr2,hcn,hok,hq⟩
    ·have d3:(ec != 0)=true:=by simpa using hec
     have HN:=Lib.hid hec
     have HE:=Lib.hid (show (readP T.toTr tx).2=⟨rest,1,1,col,ec⟩ from rd_bad1 HCUT.out HEM.out hec (by rw [HC.out];exact hbad))
     have HB4:=Lib.hid (HK4.out w5 hS5)
     have HB5:=Lib.hid (HK5.out w5 hS5)
     clear hec hbad
     obtain ⟨m4,k4,f4,_⟩:=HB4.out.box
     obtain ⟨m5,k5,f5,_⟩:=HB5.out.box
     go_wp2_with fail
     try simp only [Exit.inBlock,Exit.then]
     refine bodyPost_ret (rparse_results _ _ (W.heap.size+1) (W.heap.size+1+1) _ _ _ _ _ _ _ rfl rfl rfl (put6 (by omega) HB4.out HB5.out _ _ _ _ _ _).1 (put6 (by omega) HB4.out HB5.out _ _ _ _ _ _).2) rfl ?_
     exact ⟨put6_ext hxW5 (by omega) (by omega) _ _ _ _ _ _,.inr (.inr (.inl ⟨HVD.out,HL16.out,by rw [restE_bad (by rw [HE.out];exact HN.out),HE.out];exact HN.out,by rw [restE_bad (by rw [HE.out];exact HN.out),HE.out] <;> rfl⟩))⟩
    ·have HB75:=Lib.hid ((HB7.out.ext hx34).ext hx45)
     obtain ⟨l7,c7,f7,_⟩:=HB75.out.box
     obtain ⟨f,hf⟩:∃ f,f=C.1:=⟨_,rfl⟩
     rw [←hf] at hcn hok hq
     rw [←hcn] at hq
     obtain ⟨av,cv,gv,ov,rfl,hnum⟩:=hq.num (by omega)
     have HCC:=Lib.hid (And.intro hf hr2)
     have HQ5:=Lib.hid hq
     have HOK:=Lib.hid hok
     have HCN:=Lib.hid hcn
     rw [hcn] at hnum ⊢
     have HNUM:=Lib.hid hnum
     clear hf hr2 hq hok hcn hnum
     go_upto_region 32 with fail
     have HS6:=Lib.hid (hS5.put 1 (.slice av T.n cv))
     have HC56:=Lib.hid ((Cg.refl (· = b7) w5).put 1 (.slice av T.n cv))
     have HB76:=Lib.hid (HB75.out.set 1 (.slice av T.n cv))
     generalize w5.setCell ⟨b7,1,none⟩ (.slice av T.n cv)=w6 at HS6 HC56 HB76 ⊢
     clear l7 c7 f7 l16 c16 f16 l2 c2 f2
     have hxW6:=HXT.out w6 HS6.out
     have h66:Ext w6 w6:=Ext.refl _
     obtain ⟨l7,c7,f7,_⟩:=HB76.out.box
     obtain ⟨l2,c2,f2,_⟩:=(HK2.out w6 HS6.out).box
     have HQ6:=Lib.hid (HQ5.out.keepB HC56.out (show b7<w4.heap.size by have:=hS4.le;omega))
     have HN6:=Lib.hid (show ∃ g o,NumAt w6 T.n av g o (gi f) from by
      have h:=HQ6.out.num2 (by have:=HCN.out;omega)
      rw [HCN.out] at h;exact h)
     obtain ⟨g6,o6,hn6⟩:=HN6.out
     have HISc:=Lib.hid (HIS.out w6 hxW6 av g6 o6 T.n cv (gi f) hn6)
     have HLEc:=Lib.hid (fun w (x:Ext w6 w)=>rleq_any w av av g6 o6 g6 o6 T.n T.n cv cv (gi f) (gi f) (hn6.ext x) (hn6.ext x))
     clear hn6
     go_wp2_with fail
     go_at_call 42
     refine HISc.out.mono ?_
     rintro e w7 ⟨b,rfl,hb,hx67⟩
     have HB:=Lib.hid hb
     have hS7:=HS6.out.trans (hx67.cg _)
     have hxW7:=HXT.out w7 hS7
     have h77:Ext w7 w7:=Ext.refl _
     clear hb
     cases b with
     | false =>
      have HE:=Lib.hid (show (readP T.toTr tx).2=⟨rest,1,1,1,18⟩ from rd_cut1 HCUT.out HEM.out HC.out HCC.out.2 (by
       rw [←HCC.out.1,HCN.out]
       exact fun h=>absurd (HB.out.2 h) (by decide)))
      have HB4:=Lib.hid (HK4.out w7 hS7)
      have HB5:=Lib.hid (HK5.out w7 hS7)
      obtain ⟨m4,k4,f4,_⟩:=HB4.out.box
      obtain ⟨m5,k5,f5,_⟩:=HB5.out.box
      go_wp2_with fail
      try simp only [Exit.inBlock,Exit.then]
      refine bodyPost_ret (rparse_results _ _ (W.heap.size+1) (W.heap.size+1+1) _ _ _ _ _ _ _ rfl rfl rfl (put6 (by omega) HB4.out HB5.out _ _ _ _ _ _).1 (put6 (by omega) HB4.out HB5.out _ _ _ _ _ _).2) rfl ?_
      exact ⟨put6_ext hxW7 (by omega) (by omega) _ _ _ _ _ _,.inr (.inr (.inl ⟨HVD.out,HL16.out,by rw [restE_bad (by rw [HE.out];exact (show (18:Int)≠0 by decide)),HE.out];exact (show (18:Int)≠0 by decide),by rw [restE_bad (by rw [HE.out];exact (show (18:Int)≠0 by decide)),HE.out] <;> rfl⟩))⟩
     | true =>
      have HCT:=Lib.hid (HB.out.1 rfl)
      go_wp2_with (go_at_call 43;refine (HLEc.out w7 hx67).mono ?_;rintro e w8 ⟨b,rfl,hb,hx78⟩;obtain rfl:b=true:=hb.2 ⟨rfl,fun i _=>Int.le_refl _⟩;clear hb)
      go_roundg 699
      case rel=>
       have hx68:=hx67.trans hx78
       refine ⟨rest,rfl,by omega,HS6.out.trans (hx68.cg _),.inr (.inr (.inl ⟨rfl,rfl,rfl,by go_num,rfl,f,.slice av T.n cv,?_,?_,HCN.out,HOK.out,by rw [HCN.out];exact HCT.out,?_⟩))⟩
       ·exact HB76.out.ext hx68
       ·have h:=(HQ6.out.ext hx68).mono (base':=b7+1) (by have:=hS4.le;omega)
        rw [HCN.out] at h ⊢;exact h
       ·rw [rd_ok1 HCUT.out HEM.out HC.out HCC.out.2 (by rw [←HCC.out.1,HCN.out];exact HCT.out),←HCC.out.1]
      case measure=>omega
  ·have H7:=Lib.hid hh
   have HRD:=Lib.hid hrd
   have HB4:=Lib.hid (HK4.out wr hSr)
   have HB5:=Lib.hid (HK5.out wr hSr)
   obtain ⟨l7,c7,f7,_⟩:=H7.out.box
   clear hh hrd
   by_cases htx0:tx=[]
   ·have dr:(bts tx).toList.isEmpty=true:=by rw [bts_isE,htx0];rfl
    have HRE:=Lib.hid (show restE (readP T.toTr text).2=⟨[],1,0,0,0⟩ from by rw [HRD.out,htx0];exact restE_done)
    clear htx0
    obtain ⟨m4,k4,f4,_⟩:=HB4.out.box
    obtain ⟨m5,k5,f5,_⟩:=HB5.out.box
    go_wp2_with fail
    try simp only [Exit.inBlock,Exit.then]
    refine bodyPost_ret (rparse_results _ _ (W.heap.size+1) (W.heap.size+1+1) _ _ _ _ _ _ _ rfl rfl rfl (put6 (by omega) HB4.out HB5.out _ _ _ _ _ _).1 (put6 (by omega) HB4.out HB5.out _ _ _ _ _ _).2) rfl ?_
    exact ⟨put6_ext hxr (by omega) (by omega) _ _ _ _ _ _,.inr (.inr (.inr ⟨HVD.out,HL16.out,by rw [HRE.out],Semp,by rw [HRD.out];exact Semp_is,Semp_at _,.inl ⟨⟨HVD.out,.inl ⟨rfl,rfl,rfl,rfl⟩⟩,rfl⟩⟩))⟩
   ·have dr:(bts tx).toList.isEmpty=false:=by rw [bts_isE];cases hrr:tx with | nil=>exact absurd hrr htx0 | cons x y=>rfl
    have HRE:=Lib.hid (show restE (readP T.toTr text).2=⟨tx,2,2,1,3⟩ from by rw [HRD.out];exact restE_more htx0 (IntWalk.i64_in _ (by omega)))
    clear htx0
    obtain ⟨m4,k4,f4,_⟩:=HB4.out.box
    obtain ⟨m5,k5,f5,_⟩:=HB5.out.box
    go_wp2_with fail
    try simp only [Exit.inBlock,Exit.then]
    refine bodyPost_ret (rparse_results _ _ (W.heap.size+1) (W.heap.size+1+1) _ _ _ _ _ _ _ rfl rfl rfl (put6 (by omega) HB4.out HB5.out _ _ _ _ _ _).1 (put6 (by omega) HB4.out HB5.out _ _ _ _ _ _).2) rfl ?_
    exact ⟨put6_ext hxr (by omega) (by omega) _ _ _ _ _ _,.inr (.inr (.inl ⟨HVD.out,HL16.out,by rw [HRE.out];exact (show (3:Int)≠0 by decide),by rw [HRE.out] <;> rfl⟩))⟩
  ·obtain ⟨av1,cv1,_,_,hvf,_⟩:=hp1.qf.num (by have:=hp1.nf;omega)
   rw [hp1.nf] at hvf
   subst hvf
   have HP1:=Lib.hid hp1
   clear hp1
   obtain ⟨l,hl⟩:∃ z,z=(Lib.cut tx [10]).1:=⟨_,rfl⟩
   obtain ⟨rest,hrest⟩:∃ z,z=(Lib.cut tx [10]).2.1:=⟨_,rfl⟩
   obtain ⟨ok,hok⟩:∃ z,z=(Lib.cut tx [10]).2.2:=⟨_,rfl⟩
   have hcl:=cut_len tx 10
   rw [←hl,←hrest] at hcl
   obtain ⟨hcl1,hcl2⟩:=hcl
   have HNX:=Lib.hid (show Calls Tryz.prog 40 #[.string (bts tx)] wr (fun e w'=>e=.returned (.tuple #[.string (bts l),.string (bts rest),.bool ok])∧Ext wr w') from by
    rw [hl,hrest,hok];exact rnext36_any wr (bts tx) (by rw [bts_size];omega))
   have HCUT:=Lib.hid (show Lib.cut tx [10]=(l,rest,ok) from by rw [hl,hrest,hok])
   have hzl:=bts_size l
   have hwl:IntKind.i64.wrap ((l.length:Int)+1)=(l.length:Int)+1:=IntWalk.i64_in _ (by omega)
   clear hl hrest hok
   go_upto_region 11 with (go_at_call 40;refine HNX.out.mono ?_;rintro e w3 ⟨rfl,hx3⟩)
   have hS3:=hSr.trans (hx3.cg _)
   have hxW3:=HXT.out w3 hS3
   have h33:Ext w3 w3:=Ext.refl _
   have HB7:=Lib.hid (HP1.out.h.ext hx3)
   clear HNX
   cases ok with
   | false =>
    have HE:=Lib.hid (show (readP T.toTr text).2=⟨tx,2,2,(l.length:Int)+1,4⟩ from by
     rw [HP1.out.rd,rq_no (by rw [HCUT.out]),HCUT.out])
    have HB4:=Lib.hid (HK4.out w3 hS3)
    have HB5:=Lib.hid (HK5.out w3 hS3)
    obtain ⟨m4,k4,f4,_⟩:=HB4.out.box
    obtain ⟨m5,k5,f5,_⟩:=HB5.out.box
    go_wp2_with fail
    try simp only [Exit.inBlock,Exit.then]
    refine bodyPost_ret (rparse_results _ _ (W.heap.size+1) (W.heap.size+1+1) _ _ _ _ _ _ _ rfl rfl rfl (put6 (by omega) HB4.out HB5.out _ _ _ _ _ _).1 (put6 (by omega) HB4.out HB5.out _ _ _ _ _ _).2) rfl ?_
    exact ⟨put6_ext hxW3 (by omega) (by omega) _ _ _ _ _ _,.inr (.inr (.inl ⟨HVD.out,HL16.out,by rw [restE_bad (by rw [HE.out];exact (show (4:Int)≠0 by decide)),HE.out];exact (show (4:Int)≠0 by decide),by rw [restE_bad (by rw [HE.out];exact (show (4:Int)≠0 by decide)),HE.out] <;> rfl⟩))⟩
   | true =>
    go_upto_region 18 with fail
    refine boxed1 (w:=w3) (G:=fun x=>Code.wp _ _ _ _ x) ?_
    intro w4 hx34 _ ⟨l16,c16,f16,_⟩
    have hS4:=hS3.trans (hx34.cg _)
    have hxW4:=HXT.out w4 hS4
    have h44:Ext w4 w4:=Ext.refl _
    have hr4:=hx3.trans hx34
    obtain ⟨C,hC⟩:∃ C,C=(Rdr.mk rest 2 0 0 0).counts l (Lib.split l [32]) T.n (wordE [108,97,115,116]):=⟨_,rfl⟩
    have HLNc:=Lib.hid (show Calls Tryz.prog 41 #[.agg #[.slice T.a T.n T.cap],.string (bts l),.string ⟨#[108,97,115,116]⟩,.agg #[.int .i64 0,.int .i64 0]] w4 (LinePost w4 C ⟨rest,2,0,0,0⟩ T.n) from by
     rw [hC]
     exact HLN.out w4 hxW4 l (by omega) [108,97,115,116] 0 0 _ (.inl ⟨by decide,rfl⟩) ⟨rest,2,0,0,0⟩ rfl)
    have HC:=Lib.hid hC.symm
    clear hC
    go_upto_region 24 with (go_at_call 41;refine HLNc.out.mono ?_;rintro e w5 ⟨hx45,v,col,ec,rfl,hcase⟩)
    have hS5:=hS4.trans (hx45.cg _)
    have hxW5:=HXT.out w5 hS5
    have h55:Ext w5 w5:=Ext.refl _
    clear HLNc
    rcases hcase with ⟨hec,hbad⟩ | ⟨rfl,hr2,hcn,hok,hq⟩
    ·have d3:(ec != 0)=true:=by simpa using hec
     have HN:=Lib.hid hec
     have HE:=Lib.hid (show (readP T.toTr text).2=⟨rest,2,2,col,ec⟩ from by
      rw [HP1.out.rd];exact rq_bad HCUT.out hec (by rw [HC.out];exact hbad))
     have HB4:=Lib.hid (HK4.out w5 hS5)
     have HB5:=Lib.hid (HK5.out w5 hS5)
     clear hec hbad
     obtain ⟨m4,k4,f4,_⟩:=HB4.out.box
     obtain ⟨m5,k5,f5,_⟩:=HB5.out.box
     go_wp2_with fail
     try simp only [Exit.inBlock,Exit.then]
     refine bodyPost_ret (rparse_results _ _ (W.heap.size+1) (W.heap.size+1+1) _ _ _ _ _ _ _ rfl rfl rfl (put6 (by omega) HB4.out HB5.out _ _ _ _ _ _).1 (put6 (by omega) HB4.out HB5.out _ _ _ _ _ _).2) rfl ?_
     exact ⟨put6_ext hxW5 (by omega) (by omega) _ _ _ _ _ _,.inr (.inr (.inl ⟨HVD.out,HL16.out,by rw [restE_bad (by rw [HE.out];exact HN.out),HE.out];exact HN.out,by rw [restE_bad (by rw [HE.out];exact HN.out),HE.out] <;> rfl⟩))⟩
    ·have HB75:=Lib.hid ((HB7.out.ext hx34).ext hx45)
     obtain ⟨l7,c7,f7,_⟩:=HB75.out.box
     obtain ⟨g,hg⟩:∃ g,g=C.1:=⟨_,rfl⟩
     rw [←hg] at hcn hok hq
     rw [←hcn] at hq
     obtain ⟨av,cv,gv,ov,rfl,hnum⟩:=hq.num (by omega)
     have HCC:=Lib.hid (And.intro hg hr2)
     have HQ5:=Lib.hid hq
     have HOK:=Lib.hid hok
     have HCN:=Lib.hid hcn
     rw [hcn]
     clear hg hr2 hq hok hcn hnum
     go_upto_region 32 with fail
     have HS6:=Lib.hid (hS5.put 2 (.slice av T.n cv))
     have HC56:=Lib.hid ((Cg.refl (· = b7) w5).put 2 (.slice av T.n cv))
     have HCr6:=Lib.hid (((hr4.trans hx45).cg (· = b7)).trans HC56.out)
     have HB76:=Lib.hid (HB75.out.set 2 (.slice av T.n cv))
     generalize w5.setCell ⟨b7,2,none⟩ (.slice av T.n cv)=w6 at HS6 HC56 HCr6 HB76 ⊢
     clear l7 c7 f7 l16 c16 f16 l2 c2 f2
     have hxW6:=HXT.out w6 HS6.out
     have h66:Ext w6 w6:=Ext.refl _
     obtain ⟨l7,c7,f7,_⟩:=HB76.out.box
     obtain ⟨l2,c2,f2,_⟩:=(HK2.out w6 HS6.out).box
     have HQ6:=Lib.hid ((HQ5.out.keepB HC56.out (show b7<w4.heap.size by have:=hS4.le;omega)).mono (base':=b7+1) (by have:=hS4.le;omega))
     have HF6:=Lib.hid (HP1.out.qf.keepB HCr6.out (Nat.lt_succ_self _))
     have HN6:=Lib.hid (show ∃ g' o,NumAt w6 T.n av g' o (gi g) from by
      have h:=HQ6.out.num2 (by have:=HCN.out;omega)
      rw [HCN.out] at h;exact h)
     have HM6:=Lib.hid (show ∃ g' o,NumAt w6 T.n av1 g' o (gi f) from by
      have h1:=HF6.out
      rw [show (Value.slice av1 T.n cv1)=.slice av1 f.length cv1 from by rw [HP1.out.nf]] at h1
      have h:=h1.num2 (by have:=HP1.out.nf;omega)
      rw [HP1.out.nf] at h;exact h)
     obtain ⟨g6,o6,hn6⟩:=HN6.out
     obtain ⟨q6,p6,hm6⟩:=HM6.out
     have HISc:=Lib.hid (HIS.out w6 hxW6 av g6 o6 T.n cv (gi g) hn6)
     have HLEc:=Lib.hid (fun w (x:Ext w6 w)=>rleq_any w av1 av q6 p6 g6 o6 T.n T.n cv1 cv (gi f) (gi g) (hm6.ext x) (hn6.ext x))
     have HOWc:=Lib.hid (fun w (y:Ext W w) (x:Ext w6 w) hb=>HOW.out w y av1 av q6 p6 g6 o6 T.n cv1 cv (gi f) (gi g) (hm6.ext x) (hn6.ext x) rfl (by omega) hb)
     clear hn6 hm6
     go_wp2_with fail
     go_at_call 42
     refine HISc.out.mono ?_
     rintro e w7 ⟨b,rfl,hb,hx67⟩
     have HB:=Lib.hid hb
     have hS7:=HS6.out.trans (hx67.cg _)
     have hxW7:=HXT.out w7 hS7
     have h77:Ext w7 w7:=Ext.refl _
     clear hb
     cases b with
     | false =>
      have HE:=Lib.hid (show (readP T.toTr text).2=⟨rest,2,2,1,18⟩ from by
       rw [HP1.out.rd]
       exact rq_cut HCUT.out HC.out HCC.out.2 (.inl (by
        rw [←HCC.out.1,HCN.out]
        exact fun h=>absurd (HB.out.2 h) (by decide))))
      have HB4:=Lib.hid (HK4.out w7 hS7)
      have HB5:=Lib.hid (HK5.out w7 hS7)
      obtain ⟨m4,k4,f4,_⟩:=HB4.out.box
      obtain ⟨m5,k5,f5,_⟩:=HB5.out.box
      go_wp2_with fail
      try simp only [Exit.inBlock,Exit.then]
      refine bodyPost_ret (rparse_results _ _ (W.heap.size+1) (W.heap.size+1+1) _ _ _ _ _ _ _ rfl rfl rfl (put6 (by omega) HB4.out HB5.out _ _ _ _ _ _).1 (put6 (by omega) HB4.out HB5.out _ _ _ _ _ _).2) rfl ?_
      exact ⟨put6_ext hxW7 (by omega) (by omega) _ _ _ _ _ _,.inr (.inr (.inl ⟨HVD.out,HL16.out,by rw [restE_bad (by rw [HE.out];exact (show (18:Int)≠0 by decide)),HE.out];exact (show (18:Int)≠0 by decide),by rw [restE_bad (by rw [HE.out];exact (show (18:Int)≠0 by decide)),HE.out] <;> rfl⟩))⟩
     | true =>
      have HCT:=Lib.hid (show T.toTr.IsCut g.length (gi g) from by rw [HCN.out];exact HB.out.1 rfl)
      go_wp2_with fail
      go_at_call 43
      refine (HLEc.out w7 hx67).mono ?_
      rintro e w8 ⟨b,rfl,hb,hx78⟩
      have HB2':=Lib.hid hb
      have hS8:=hS7.trans (hx78.cg _)
      have hxW8:=HXT.out w8 hS8
      have h88:Ext w8 w8:=Ext.refl _
      have hx68:=hx67.trans hx78
      clear hb
      cases b with
      | false =>
       have HE:=Lib.hid (show (readP T.toTr text).2=⟨rest,2,2,1,18⟩ from by
        rw [HP1.out.rd]
        exact rq_cut HCUT.out HC.out HCC.out.2 (.inr (by
         rw [←HCC.out.1,HCN.out,HP1.out.nf]
         exact fun h=>absurd (HB2'.out.2 h) (by decide))))
       have HB4:=Lib.hid (HK4.out w8 hS8)
       have HB5:=Lib.hid (HK5.out w8 hS8)
       obtain ⟨m4,k4,f4,_⟩:=HB4.out.box
       obtain ⟨m5,k5,f5,_⟩:=HB5.out.box
       go_wp2_with fail
       try simp only [Exit.inBlock,Exit.then]
       refine bodyPost_ret (rparse_results _ _ (W.heap.size+1) (W.heap.size+1+1) _ _ _ _ _ _ _ rfl rfl rfl (put6 (by omega) HB4.out HB5.out _ _ _ _ _ _).1 (put6 (by omega) HB4.out HB5.out _ _ _ _ _ _).2) rfl ?_
       exact ⟨put6_ext hxW8 (by omega) (by omega) _ _ _ _ _ _,.inr (.inr (.inl ⟨HVD.out,HL16.out,by rw [restE_bad (by rw [HE.out];exact (show (18:Int)≠0 by decide)),HE.out];exact (show (18:Int)≠0 by decide),by rw [restE_bad (by rw [HE.out];exact (show (18:Int)≠0 by decide)),HE.out] <;> rfl⟩))⟩
      | true =>
       have HLE:=Lib.hid (show LeqL f.length g.length (gi f) (gi g) from by rw [HCN.out,HP1.out.nf];exact HB2'.out.1 rfl)
       have HOB:=Lib.hid (show ∀ p,p<T.n→0≤gi f p∧gi f p≤1000∧gi g p≤1000 from fun p hp=>by
        have h1:=HP1.out.cut.2.1 p hp
        have h2:=HCT.out.2.1 p hp
        have h3:=HVD.out.en64 hp
        omega)
       go_wp2_with fail
       go_at_call 44
       refine (HOWc.out w8 hxW8 hx68 HOB.out).mono ?_
       rintro e w9 ⟨hx89,a8,c8,rfl,hqo⟩
       have HQO:=Lib.hid hqo
       have hx69:=hx68.trans hx89
       obtain ⟨N,hN⟩:∃ N,N=(ownL (gi f) (gi g) T.n).length:=⟨_,rfl⟩
       have HNN:=Lib.hid hN
       rw [←hN]
       have hN5:N≤8*64:=by
        rw [hN]
        have:=ownL_len (u:=gi f) (v:=gi g) (c:=64) (n:=T.n) fun p hp=>by
         have h1:=HP1.out.cut.2.1 p hp
         have h2:=HCT.out.2.1 p hp
         have h3:=HVD.out.en64 hp
         omega
        omega
       have hwN:IntKind.i64.wrap (2+(N:Int))=2+(N:Int):=IntWalk.i64_in _ (by omega)
       clear hqo hN
       go_wp2_with fail
       go_roundg 698
       case rel=>
        have h69:=hx69.cg (· = b7)
        refine ⟨rest,rfl,by omega,HS6.out.trans h69,.inr (.inr (.inr ⟨0,f,g,.slice av1 T.n cv1,.slice av T.n cv,[],[],w9,rfl,by go_num,by rw [←HNN.out],HS6.out.trans h69,⟨?_,?_,?_,HP1.out.nf,HCN.out,HP1.out.of,HOK.out,HP1.out.cut,HCT.out,HLE.out,?_⟩,⟨Ext.refl _,Nat.zero_le _,Lol.nil _ _,rfl,fun v hv=>(by cases hv),?_⟩⟩))⟩
        ·exact HB76.out.ext hx69
        ·exact HF6.out.ext hx69
        ·have h:=HQ6.out.ext hx69
         rw [HCN.out] at h ⊢;exact h
        ·rw [HNN.out];exact HQO.out.mono (by have:=hS8.le;omega)
        ·rw [HP1.out.rd,rq_ok HCUT.out HC.out HCC.out.2 (by rw [←HCC.out.1];exact HCT.out) (by rw [←HCC.out.1];exact HLE.out),←HCC.out.1,List.drop_zero,List.take_zero]
         rfl
       case measure=>omega
  ·obtain ⟨O,hO⟩:∃ O,O=ownL (gi f) (gi l) T.n:=⟨_,rfl⟩
   obtain ⟨N,hN⟩:∃ N,N=O.length:=⟨_,rfl⟩
   have HO:=Lib.hid hO
   have HN:=Lib.hid hN
   have h0f:∀ p,p<T.n→0≤gi f p:=fun p hp=>(hp2.cf.2.1 p hp).1
   have hN5:N≤8*64:=by
    rw [hN,hO]
    have:=ownL_len (u:=gi f) (v:=gi l) (c:=64) (n:=T.n) fun p hp=>by
     have h1:=hp2.cf.2.1 p hp
     have h2:=hp2.cl.2.1 p hp
     have h3:=HVD.out.en64 hp
     omega
    omega
   have hkN:=hp3.kn
   rw [←hO,←hN] at hkN ⊢
   have hx2r:=hp3.x
   obtain ⟨a8,c8,hv8⟩:=hp2.qo.slice
   rw [←hO,←hN] at hv8
   subst hv8
   obtain ⟨a9,c9,hv9⟩:=hp3.lol.q.slice
   have hEV:EV.length=k:=by rw [←hp3.lol.n,List.length_map,hp3.nv]
   rw [hEV] at hv9
   subst hv9
   have HP2:=Lib.hid hp2
   have HP3:=Lib.hid hp3
   have HEV:=Lib.hid hEV
   have H0F:=Lib.hid h0f
   have HB7:=Lib.hid (hp2.h.ext hp3.x)
   clear hp2 hp3 hO hN h0f hEV
   obtain ⟨z0,hz0⟩:∃ z:Int,z=2+(k:Int):=⟨_,rfl⟩
   obtain ⟨zN,hzN⟩:∃ z:Int,z=2+(N:Int):=⟨_,rfl⟩
   rw [←hz0,←hzN]
   obtain ⟨z1,hz1⟩:∃ z:Int,z=z0+1:=⟨_,rfl⟩
   have hw1:IntKind.i64.wrap (z0+1)=z1:=by rw [hz1];exact IntWalk.i64_in _ (by omega)
   have HZ:=Lib.hid (And.intro hz0 (And.intro hzN hz1))
   by_cases hlt:k<N
   ·have d0:decide (z0<zN)=true:=decide_eq_true (by omega)
    have d0':z0<zN:=by omega
    have e1:(z1 == 1)=false:=by simpa using (show ¬z1=1 by omega)
    have e2:(z1 == 2)=false:=by simpa using (show ¬z1=2 by omega)
    have e3:decide (z1≤2)=false:=decide_eq_false (by omega)
    have hw3:IntKind.i64.wrap (z1 - 3)=(k:Int):=by rw [show z1 - 3=(k:Int) by omega];exact IntWalk.i64_in _ (by omega)
    have hlt':(k:Int)<(N:Int):=by omega
    clear hz0 hzN hz1
    obtain ⟨fl,hfl⟩:∃ z,z=l:=⟨_,rfl⟩
    rw [←hfl] at HP2 HP3 HO
    clear hfl l
    obtain ⟨l,hl⟩:∃ z,z=(Lib.cut tx [10]).1:=⟨_,rfl⟩
    obtain ⟨rest,hrest⟩:∃ z,z=(Lib.cut tx [10]).2.1:=⟨_,rfl⟩
    obtain ⟨ok,hok⟩:∃ z,z=(Lib.cut tx [10]).2.2:=⟨_,rfl⟩
    have hcl:=cut_len tx 10
    rw [←hl,←hrest] at hcl
    obtain ⟨hcl1,hcl2⟩:=hcl
    have HNX:=Lib.hid (show Calls Tryz.prog 40 #[.string (bts tx)] wr (fun e w'=>e=.returned (.tuple #[.string (bts l),.string (bts rest),.bool ok])∧Ext wr w') from by
     rw [hl,hrest,hok];exact rnext36_any wr (bts tx) (by rw [bts_size];omega))
    have HCUT:=Lib.hid (show Lib.cut tx [10]=(l,rest,ok) from by rw [hl,hrest,hok])
    have hzl:=bts_size l
    have hwl:IntKind.i64.wrap ((l.length:Int)+1)=(l.length:Int)+1:=IntWalk.i64_in _ (by omega)
    clear hl hrest hok
    go_upto_region 11 with (go_at_call 40;refine HNX.out.mono ?_;rintro e w3 ⟨rfl,hx3⟩)
    have hS3:=hSr.trans (hx3.cg _)
    have hxW3:=HXT.out w3 hS3
    have h33:Ext w3 w3:=Ext.refl _
    clear HNX
    have hkO:k<O.length:=by rw [←HN.out];exact hlt
    obtain ⟨p,i,hxk,hp,hpi1,hpi2⟩:=ownf_at H0F.out (x:=O[k]) (by rw [←HO.out];exact List.getElem_mem hkO)
    have hkO':k<(ownL (gi f) (gi fl) T.n).length:=by rw [←HO.out];exact hkO
    have HXK:=Lib.hid (show (ownL (gi f) (gi fl) T.n)[k]=((p:Int),(i:Int)+1) from by
     rw [←hxk]
     have h:O[k]?=(ownL (gi f) (gi fl) T.n)[k]?:=by rw [HO.out]
     rw [List.getElem?_eq_getElem hkO,List.getElem?_eq_getElem hkO'] at h
     exact (Option.some.inj h).symm)
    have HKO:=Lib.hid hkO'
    cases ok with
    | false =>
     have HE:=Lib.hid (show (readP T.toTr text).2=⟨tx,z1,z1,(l.length:Int)+1,4⟩ from by
      rw [HP3.out.rd,ev_no HKO.out (by rw [HCUT.out]),HCUT.out,HZ.out.2.2,HZ.out.1])
     have HB4:=Lib.hid (HK4.out w3 hS3)
     have HB5:=Lib.hid (HK5.out w3 hS3)
     obtain ⟨m4,k4,f4,_⟩:=HB4.out.box
     obtain ⟨m5,k5,f5,_⟩:=HB5.out.box
     go_wp2_with fail
     try simp only [Exit.inBlock,Exit.then]
     refine bodyPost_ret (rparse_results _ _ (W.heap.size+1) (W.heap.size+1+1) _ _ _ _ _ _ _ rfl rfl rfl (put6 (by omega) HB4.out HB5.out _ _ _ _ _ _).1 (put6 (by omega) HB4.out HB5.out _ _ _ _ _ _).2) rfl ?_
     exact ⟨put6_ext hxW3 (by omega) (by omega) _ _ _ _ _ _,.inr (.inr (.inl ⟨HVD.out,HL16.out,by rw [restE_bad (by rw [HE.out];exact (show (4:Int)≠0 by decide)),HE.out];exact (show (4:Int)≠0 by decide),by rw [restE_bad (by rw [HE.out];exact (show (4:Int)≠0 by decide)),HE.out] <;> rfl⟩))⟩
    | true =>
     have hqo:=HP2.out.qo
     rw [←HO.out,←HN.out] at hqo
     obtain ⟨rb,ro,ha8,_,hrb,hco⟩:=hqo.cellsE HN.out.symm (by omega)
     subst ha8
     obtain ⟨z,hz⟩:∃ z:Int,z=(i:Int)+1:=⟨_,rfl⟩
     have HZI:=Lib.hid hz
     rw [←hz] at hxk
     have o0:∀ w',Ext w3 w'→w'.cell? ⟨rb,ro+k*2,none⟩=some (.int .i64 (p:Int)):=fun w' x=>by rw [((hx2r.trans hx3).trans x).cell (hco k hkO).1,hxk]
     have o1:∀ w',Ext w3 w'→w'.cell? ⟨rb,ro+k*2+1,none⟩=some (.int .i64 z):=fun w' x=>by rw [((hx2r.trans hx3).trans x).cell (hco k hkO).2,hxk]
     have ob:∀ w',Ext w3 w'→rb<w'.heap.size:=fun w' x=>Nat.lt_of_lt_of_le hrb ((hx2r.trans hx3).trans x).le
     have hz9:0≤z∧z≤1000:=by
      have h2:=HP2.out.cl.2.1 p hp
      have h3:=HVD.out.en64 hp
      omega
     have hNM:(T.name p).size≤1000:=by
      have:=nameB16 (HVD.out.pr p hp).1
      omega
     clear hxk hz hqo hco
     go_upto_region 18 with fail
     refine boxed1t' (w:=w3) (G:=fun x=>Code.wp _ _ _ _ x) ?_
     intro w4 hx34 _ k16
     obtain ⟨b16,hb16⟩:∃ b,b=w3.heap.size:=⟨_,rfl⟩
     rw [←hb16] at k16 ⊢
     have H16:=Lib.hid k16
     have HB16:=Lib.hid hb16
     obtain ⟨l16,c16,f16,_⟩:=k16.box
     have h44:Ext w4 w4:=Ext.refl _
     clear k16 hb16
     go_upto_region 23 with fail
     have HX35:=Lib.hid ((hx34.setCell (p:=⟨b16,0,none⟩) (by show w3.heap.size≤b16;rw [HB16.out];exact Nat.le_refl _) (.int .i64 (p:Int))).setCell (p:=⟨b16,1,none⟩) (by show w3.heap.size≤b16;rw [HB16.out];exact Nat.le_refl _) (.int .i64 z))
     have H165:=Lib.hid ((H16.out.set 0 (.int .i64 (p:Int))).set 1 (.int .i64 z))
     generalize (w4.setCell ⟨b16,0,none⟩ (.int .i64 (p:Int))).setCell ⟨b16,1,none⟩ (.int .i64 z)=w5 at HX35 H165 ⊢
     clear l16 c16 f16 h44 hx34
     obtain ⟨l16,c16,f16,_⟩:=H165.out.box
     have h55:Ext w5 w5:=Ext.refl _
     have hS5:=hS3.trans (HX35.out.cg _)
     have hxW5:=HXT.out w5 hS5
     have hr5:=hx3.trans HX35.out
     obtain ⟨C,hC⟩:∃ C,C=(Rdr.mk rest z1 0 0 0).counts l (Lib.split l [32]) T.n (fun w=>titleE w (evN T.toTr ((p:Int),z))):=⟨_,rfl⟩
     have HLNc:=Lib.hid (show Calls Tryz.prog 41 #[.agg #[.slice T.a T.n T.cap],.string (bts l),.string ⟨#[]⟩,.agg #[.int .i64 (p:Int),.int .i64 z]] w5 (LinePost w5 C ⟨rest,z1,0,0,0⟩ T.n) from by
      rw [hC]
      exact HLN.out w5 hxW5 l (by omega) [] p z _ (.inr ⟨rfl,hp,hNM,hz9.1,hz9.2,rfl⟩) ⟨rest,z1,0,0,0⟩ rfl)
     have HC:=Lib.hid hC.symm
     clear hC
     go_upto_region 24 with (go_at_call 41;refine HLNc.out.mono ?_;rintro e w6 ⟨hx56,v,col,ec,rfl,hcase⟩)
     have hS6:=hS5.trans (hx56.cg _)
     have hxW6:=HXT.out w6 hS6
     have h66:Ext w6 w6:=Ext.refl _
     have hr6:=hr5.trans hx56
     have h26:=hx2r.trans hr6
     clear HLNc
     rcases hcase with ⟨hec,hbad⟩ | ⟨rfl,hr2,hcn,hok,hq⟩
     ·have d3:(ec != 0)=true:=by simpa using hec
      have HNE:=Lib.hid hec
      have HE:=Lib.hid (show (readP T.toTr text).2=⟨rest,z1,z1,col,ec⟩ from by
       have h:=ev_bad (T:=T.toTr) (J:=putJ ((ownL (gi f) (gi fl) T.n).take k) vs (J0 T.toTr f)) (at':=z0) HKO.out HCUT.out HXK.out hec (by rw [←HZ.out.2.2,←HZI.out,HC.out];exact hbad)
       rw [HP3.out.rd,←HZ.out.1,h,←HZ.out.2.2])
      have HB4:=Lib.hid (HK4.out w6 hS6)
      have HB5:=Lib.hid (HK5.out w6 hS6)
      clear hec hbad
      obtain ⟨m4,k4,f4,_⟩:=HB4.out.box
      obtain ⟨m5,k5,f5,_⟩:=HB5.out.box
      go_wp2_with fail
      try simp only [Exit.inBlock,Exit.then]
      refine bodyPost_ret (rparse_results _ _ (W.heap.size+1) (W.heap.size+1+1) _ _ _ _ _ _ _ rfl rfl rfl (put6 (by omega) HB4.out HB5.out _ _ _ _ _ _).1 (put6 (by omega) HB4.out HB5.out _ _ _ _ _ _).2) rfl ?_
      exact ⟨put6_ext hxW6 (by omega) (by omega) _ _ _ _ _ _,.inr (.inr (.inl ⟨HVD.out,HL16.out,by rw [restE_bad (by rw [HE.out];exact HNE.out),HE.out];exact HNE.out,by rw [restE_bad (by rw [HE.out];exact HNE.out),HE.out] <;> rfl⟩))⟩
     ·obtain ⟨g,hg⟩:∃ g,g=C.1:=⟨_,rfl⟩
      rw [←hg] at hcn hok hq
      obtain ⟨av,cv,rfl⟩:=hq.slice
      have HCC:=Lib.hid (And.intro hg hr2)
      have HQ6:=Lib.hid hq
      have HOK:=Lib.hid hok
      have HCN:=Lib.hid hcn
      have HL6:=Lib.hid (HP3.out.lol.ext hr6)
      clear hg hr2 hq hok hcn
      go_upto_region 32 with (at_builtin;refine wpList_append_que _ rfl _ _ 64 64 rfl (base:=w2.heap.size) (e:=27) (size:=1) i0 (.slice none 0 0) 24 Tryz.underlying64 hi0 hz0 hz1 hz2 rfl rfl (v:=.slice a9 k c9) (n:=k) (xs:=EV) (by have h:=HL6.out.q.ext (Ext.alloc w6 (.cells #[.slice av T.n cv] 27));rw [HEV.out] at h;exact h) (by rw [World.size_alloc];have:=h26.le;omega) (.slice (some ⟨w6.heap.size,0,none⟩) 1 1) 1 [.slice av T.n cv] rfl (by exact Src.ofSlice _ Tryz.underlying64 ⟨w6.heap.size,0,none⟩ 1 1 _ rfl (news_ok w6 _ _) (by intro u hu;simp at hu;subst hu;rfl)) (by unfold maxLen;omega) (by omega) ?_;rintro v7 w7 hq7 hg7 ho7;have HL7:=Lib.hid (show Lol w7 w2.heap.size v7 (EV++[.slice av T.n cv]) (vs.map intCells++[intCells g]) from HL6.out.push (by have h:=HQ6.out.mono (base':=w2.heap.size) (by have:=(hx2r.trans hr5).le;omega);rw [show (intCells g).length=T.n from by unfold intCells;rw [List.length_map];exact HCN.out];exact h) (fun q e=>⟨HQ6.out.ownLt (by have:=HVD.out.n1;omega) q e,fun e2=>by have h1:=HQ6.out.block q e;have h2:=(HP3.out.lol.ext hr5).lt q e2;omega⟩) (by rw [HEV.out];exact hq7) hg7 ho7);have hx27:Ext w2 w7:=grown_ext h26 hg7 (fun q e=>HL6.out.q.block q e);have HS7:=Lib.hid (show Cg (· = b7) wS w7 from (hS6.alloc _).grown hg7 fun q e=>.inr (by have h1:=HL6.out.q.block q e;have h2:=hS2.le;omega));clear hq7 hg7 ho7)
      go_wp2_with fail
      go_roundg (698 - (k+1))
      case rel=>
       have hk1:k+1≤(ownL (gi f) (gi fl) T.n).length:=HKO.out
       refine ⟨rest,rfl,by omega,HS7.out,.inr (.inr (.inr ⟨k+1,f,fl,vf,vl,EV++[.slice av T.n cv],vs++[g],w2,rfl,congrArg (Value.int .i64) (by rw [HZ.out.2.2,HZ.out.1];omega),by rw [←HO.out,←HN.out,HZ.out.2.1],hS2,HP2.out,⟨hx27,hk1,?_,by rw [List.length_append,HP3.out.nv];rfl,?_,?_⟩⟩))⟩
       ·rw [List.map_append];exact HL7.out
       ·intro u hu
        rcases List.mem_append.1 hu with hu | hu
        ·exact HP3.out.vn u hu
        ·rw [List.mem_singleton.1 hu];exact ⟨HCN.out,HOK.out⟩
       ·have h:=ev_ok (T:=T.toTr) (c:=C) (J:=putJ ((ownL (gi f) (gi fl) T.n).take k) vs (J0 T.toTr f)) (at':=z0) HKO.out HCUT.out HXK.out (by rw [←HZ.out.2.2,←HZI.out];exact HC.out) (by rw [HCC.out.2,←HZ.out.2.2])
        have ej:putJ ((ownL (gi f) (gi fl) T.n).take (k+1)) (vs++[g]) (J0 T.toTr f)=setJ (putJ ((ownL (gi f) (gi fl) T.n).take k) vs (J0 T.toTr f)) (ownL (gi f) (gi fl) T.n)[k] g:=by
         rw [List.take_add_one,List.getElem?_eq_getElem HKO.out]
         exact putJ_snoc _ _ _ _ _ (by rw [List.length_take,HP3.out.nv];omega)
        rw [HP3.out.rd,←HZ.out.1,h,←HCC.out.1,ej,show z0+1=2+((k+1:Nat):Int) from by rw [HZ.out.1];push_cast;omega]
      case measure=>omega
   ·obtain rfl:k=N:=by omega
    have d0:decide (z0<zN)=false:=decide_eq_false (by omega)
    have d0':¬z0<zN:=by omega
    obtain ⟨J,hJ⟩:∃ J,J=putJ (ownL (gi f) (gi l) T.n) vs (J0 T.toTr f):=⟨_,rfl⟩
    have HJ:=Lib.hid hJ
    have HON:=Lib.hid (show (ownL (gi f) (gi l) T.n).length=k from by rw [←HO.out,←HN.out])
    have HRD:=Lib.hid (show readP T.toTr text=(⟨false,f,l,J⟩,⟨tx,z0,0,0,0⟩) from by
     have h:=HP3.out.rd
     rw [←hz0,show (ownL (gi f) (gi l) T.n).drop k=[] from by rw [←HON.out,List.drop_length],show (ownL (gi f) (gi l) T.n).take k=ownL (gi f) (gi l) T.n from by rw [←HON.out,List.take_length],←hJ] at h
     exact h)
    have HB4:=Lib.hid (HK4.out wr hSr)
    have HB5:=Lib.hid (HK5.out wr hSr)
    obtain ⟨l7,c7,f7,_⟩:=HB7.out.box
    clear hJ hz0 hzN hz1 HLN HIS HOW
    by_cases htx0:tx=[]
    case neg=>
     have dr:(bts tx).toList.isEmpty=false:=by rw [bts_isE];cases hrr:tx with | nil=>exact absurd hrr htx0 | cons x y=>rfl
     have HRE:=Lib.hid (show restE (readP T.toTr text).2=⟨tx,z1,z1,1,3⟩ from by rw [HRD.out];exact restE_more htx0 hw1)
     clear htx0
     obtain ⟨m4,k4,f4,_⟩:=HB4.out.box
     obtain ⟨m5,k5,f5,_⟩:=HB5.out.box
     go_wp2_with fail
     try simp only [Exit.inBlock,Exit.then]
     refine bodyPost_ret (rparse_results _ _ (W.heap.size+1) (W.heap.size+1+1) _ _ _ _ _ _ _ rfl rfl rfl (put6 (by omega) HB4.out HB5.out _ _ _ _ _ _).1 (put6 (by omega) HB4.out HB5.out _ _ _ _ _ _).2) rfl ?_
     exact ⟨put6_ext hxr (by omega) (by omega) _ _ _ _ _ _,.inr (.inr (.inl ⟨HVD.out,HL16.out,by rw [HRE.out];exact (show (3:Int)≠0 by decide),by rw [HRE.out] <;> rfl⟩))⟩
    have dr:(bts tx).toList.isEmpty=true:=by rw [bts_isE,htx0];rfl
    have HRE:=Lib.hid (show restE (readP T.toTr text).2=⟨[],z0,0,0,0⟩ from by rw [HRD.out,htx0];exact restE_done)
    have hb72:b7<w2.heap.size:=HP2.out.h.lt
    clear htx0
    generalize hwe:wr=we at *
    clear hwe wr
    obtain ⟨af,cvf,gf,ofo,hvf,hnf⟩:=HP2.out.qf.num (by have:=HP2.out.nf;omega)
    obtain ⟨al,cvl,gl,olo,hvl,hnl⟩:=HP2.out.ql.num (by have:=HP2.out.nl;omega)
    rw [HP2.out.nf] at hvf hnf
    rw [HP2.out.nl] at hvl hnl
    subst hvf hvl
    have hn1:=HVD.out.n1
    have HNF:=Lib.hid (show ∀ w,Cg (· = b7) we w→NumAt w T.n af gf ofo (gi f) from fun w x=>(hnf.ext HP3.out.x).keepB x fun h=>by
     have h1:=HP2.out.qf.block gf (by rw [hnf.pa h];rfl)
     omega)
    have HNL:=Lib.hid (show ∀ w,Cg (· = b7) we w→NumAt w T.n al gl olo (gi l) from fun w x=>(hnl.ext HP3.out.x).keepB x fun h=>by
     have h1:=HP2.out.ql.block gl (by rw [hnl.pa h];rfl)
     omega)
    obtain rfl:=hnf.pa hn1
    obtain rfl:=hnl.pa hn1
    have HLE:=Lib.hid (fun w (x:Cg (· = b7) we w)=>HP3.out.lol.keepB x hb72)
    have HVN:=Lib.hid HP3.out.vn
    have HNV:=Lib.hid HP3.out.nv
    have hTa:T.a=some ⟨T.b,T.off,none⟩:=(HT.out we hxr).P.pa hn1
    rw [hTa] at HRV HK2 c2 ⊢
    have HTA:=Lib.hid hTa
    clear hnf hnl hTa
    go_wp2_with fail
    go_loopg [20,21] T.n (fun gg v20 v21 wo=>∃ p:Nat,p≤T.n∧gg=T.n - p∧v21=.int .i64 p∧v20=.int .i64 (((ownL (gi f) (gi l) p).length:Nat):Int)∧∃ vJ VR,Hold wo b7 #[.bool false,.slice (some ⟨gf,ofo,none⟩) T.n cvf,.slice (some ⟨gl,olo,none⟩) T.n cvl,vJ]∧Lol wo we.heap.size vJ VR ((List.range p).map fun q=>(List.range (T.en q)).map (ERv f l EV (.slice (some ⟨gf,ofo,none⟩) T.n cvf) q))∧Cg (· = b7) we wo)
    case atStart=>exact ⟨0,by omega,by omega,rfl,rfl,nilS,[],HB7.out,Lol.nil _ _,Cg.refl _ _⟩
    case round=>
     obtain ⟨p,hpn,rfl,rfl,rfl,vJ,VR,hh,hlol,hro⟩:=hrel
     generalize hwo:wr=wo at *
     clear hwo wr
     have HHO:=Lib.hid hh
     have HLO:=Lib.hid hlol
     have hSo:=hSr.trans hro
     have hxo:=HXT.out wo hSo
     have hoo:Ext wo wo:=Ext.refl _
     clear l2 c2 f2 l7 c7 f7 hh hlol
     obtain ⟨l2,c2,f2,_⟩:=(HK2.out wo hSo).box
     obtain ⟨l7,c7,f7,_⟩:=HHO.out.box
     obtain ⟨q0,hq0⟩:∃ q,q=(ownL (gi f) (gi l) p).length:=⟨_,rfl⟩
     have HQ0:=Lib.hid hq0
     rw [←hq0]
     clear hq0
     by_cases hlt2:p<T.n
     ·have hlt2':(p:Int)<(T.n:Int):=by omega
      obtain ⟨en,hen⟩:∃ z,z=T.en p:=⟨_,rfl⟩
      obtain ⟨fp,hfp⟩:∃ z,z=gi f p:=⟨_,rfl⟩
      obtain ⟨lp,hlp⟩:∃ z,z=gi l p:=⟨_,rfl⟩
      have hen9:en≤64:=by rw [hen];exact HVD.out.en64 hlt2
      have hfl:0≤fp∧lp≤en:=by
       have h1:=HP2.out.cf.2.1 p hlt2
       have h2:=HP2.out.cl.2.1 p hlt2
       omega
      have HEN:=Lib.hid (And.intro hen (And.intro hfp hlp))
      have hq9:q0+64≤600:=by
       have h1:(ownL (gi f) (gi l) p).length≤p*64:=ownL_len fun q hq=>by
        have h1:=HP2.out.cf.2.1 q (by omega)
        have h2:=HP2.out.cl.2.1 q (by omega)
        have h3:=HVD.out.en64 (p:=q) (by omega)
        omega
       have h2:=HQ0.out
       omega
      have hwp:IntKind.i64.wrap ((p:Int)+1)=(p:Int)+1:=IntWalk.i64_in _ (by omega)
      clear hen hfp hlp
      go_wp2_with fail
      go_loopg [20,22,23] en (fun gg v20 v22 v23 wi=>∃ i:Nat,i≤en∧gg=en - i∧v23=.int .i64 ((i:Int)+1)∧v20=.int .i64 ((q0+cntO f l p i:Nat):Int)∧(i=0→v22=nilS)∧Que wi wo.heap.size 1 v22 i ((List.range i).map (ERv f l EV (.slice (some ⟨gf,ofo,none⟩) T.n cvf) p))∧Ext wo wi)
      case atStart=>exact ⟨0,by omega,by omega,by go_num,by rw [cntO_zero (by rw [←HEN.out.2.1];exact hfl.1)];rfl,fun _=>rfl,Que.nil _ _ _,Ext.refl _⟩
      case round=>
       obtain ⟨i,hi,rfl,rfl,rfl,hnil,hqi,hxi⟩:=hrel
       generalize hwi:wr=wi at *
       clear hwi wr
       obtain ⟨a22,c22,rfl⟩:=hqi.slice
       have HNIL:=Lib.hid hnil
       have HQI:=Lib.hid hqi
       have hoi:=hro.trans (hxi.cg _)
       have hii:Ext wi wi:=Ext.refl _
       have hxWi:=hxo.trans hxi
       have HTi:=Lib.hid (HT.out wi hxWi)
       have pb:∀ w',Ext wi w'→T.b<w'.heap.size:=fun w' x=>HTi.out.P.pb (by omega) w' x
       have p2:∀ w',Ext wi w'→w'.cell? ⟨T.b,T.off+p*3+2,none⟩=some (.slice (T.ea p) en (T.ec p)):=fun w' x=>by rw [HEN.out.1];exact HTi.out.P.p2 w' x p hlt2
       have pf:∀ w',Ext wi w'→w'.cell? ⟨gf,ofo+p,none⟩=some (.int .i64 fp):=fun w' x=>by rw [HEN.out.2.1];exact x.cell ((HNF.out wi hoi).c p hlt2)
       have qf:∀ w',Ext wi w'→gf<w'.heap.size:=fun w' x=>Nat.lt_of_lt_of_le ((HNF.out wi hoi).pb (by omega)) x.le
       have pl:∀ w',Ext wi w'→w'.cell? ⟨gl,olo+p,none⟩=some (.int .i64 lp):=fun w' x=>by rw [HEN.out.2.2];exact x.cell ((HNL.out wi hoi).c p hlt2)
       have ql:∀ w',Ext wi w'→gl<w'.heap.size:=fun w' x=>Nat.lt_of_lt_of_le ((HNL.out wi hoi).pb (by omega)) x.le
       obtain ⟨z,hz⟩:∃ z:Int,z=(i:Int)+1:=⟨_,rfl⟩
       obtain ⟨kk,hkk⟩:∃ z,z=q0+cntO f l p i:=⟨_,rfl⟩
       have HKK:=Lib.hid hkk
       have HZ2:=Lib.hid hz
       rw [←hz,←hkk]
       clear hqi hkk hnil
       by_cases hlt3:i<en
       ·have d3:decide (z≤(en:Int))=true:=decide_eq_true (by omega)
        have d3':z≤(en:Int):=by omega
        have hwz:IntKind.i64.wrap (z+1)=z+1:=IntWalk.i64_in _ (by omega)
        have HCR:=Lib.hid (show ((List.range i).map (ERv f l EV (.slice (some ⟨gf,ofo,none⟩) T.n cvf) p))++[ERv f l EV (.slice (some ⟨gf,ofo,none⟩) T.n cvf) p i]=(List.range (i+1)).map (ERv f l EV (.slice (some ⟨gf,ofo,none⟩) T.n cvf) p) from by rw [List.range_succ,List.map_append];rfl)
        by_cases hA:z≤fp
        ·have dA:decide (z≤fp)=true:=decide_eq_true hA
         have HER:=Lib.hid (show ERv f l EV (.slice (some ⟨gf,ofo,none⟩) T.n cvf) p i=(.slice (some ⟨gf,ofo,none⟩) T.n cvf) from by unfold ERv;rw [if_pos (by rw [←HEN.out.2.1];omega)])
         have HCN:=Lib.hid (show cntO f l p (i+1)=cntO f l p i from cntO_le (by rw [←HEN.out.2.1];omega))
         clear hz
         go_upto_region 48 with (at_builtin;refine wpList_append_que _ rfl _ _ 64 64 rfl (base:=wo.heap.size) (e:=27) (size:=1) i0 (.slice none 0 0) 24 Tryz.underlying64 hi0 hz0 hz1 hz2 rfl rfl (v:=.slice a22 i c22) (n:=i) (xs:=((List.range i).map (ERv f l EV (.slice (some ⟨gf,ofo,none⟩) T.n cvf) p))) (by exact HQI.out.ext (Ext.alloc wi _)) (by rw [World.size_alloc];have:=hxi.le;omega) (.slice (some ⟨wi.heap.size,0,none⟩) 1 1) 1 [.slice (some ⟨gf,ofo,none⟩) T.n cvf] rfl (by exact Src.ofSlice _ Tryz.underlying64 ⟨wi.heap.size,0,none⟩ 1 1 _ rfl (news_ok wi _ _) (by intro u hu;simp at hu;subst hu;rfl)) (by unfold maxLen;omega) (by omega) ?_;rintro v7 w7 hq7 hg7 -;have HQ7:=Lib.hid hq7;have hx7:Ext wo w7:=grown_ext hxi hg7 (fun q e=>HQI.out.block q e);clear hq7 hg7)
         go_wp2_with fail
         go_roundg (en - (i+1))
         case rel=>exact ⟨i+1,by omega,rfl,congrArg (Value.int .i64) (by rw [HZ2.out];push_cast;omega),by rw [HCN.out,←HKK.out],fun h=>absurd h (by omega),by rw [←HCR.out,HER.out];exact HQ7.out,hx7⟩
         case measure=>omega
        ·have dA:decide (z≤fp)=false:=decide_eq_false hA
         have dA':¬z≤fp:=hA
         by_cases hB:z≤lp
         ·have dB:decide (z≤lp)=true:=decide_eq_true hB
          have hc:=cntO_own (f:=f) (l:=l) (p:=p) (i:=i) (by rw [←HEN.out.2.1];omega) (by rw [←HEN.out.2.2];omega)
          have hg:=ownL_get (u:=gi f) (v:=gi l) (p:=p) (j:=((i:Int) - gi f p).toNat) hlt2 (by rw [←HEN.out.2.1,←HEN.out.2.2];omega)
          have hkk9:kk<k:=by
           have h1:=(List.getElem?_eq_some_iff.1 hg).1
           rw [HON.out,←HQ0.out,←hc.2,←HKK.out] at h1
           exact h1
          have HER:=Lib.hid (show ERv f l EV (.slice (some ⟨gf,ofo,none⟩) T.n cvf) p i=EV.getD kk nilS from by
           unfold ERv
           rw [if_neg (by rw [←HEN.out.2.1];omega),if_pos (by rw [←HEN.out.2.2];omega),←HQ0.out,←hc.2,←HKK.out])
          have HCN:=Lib.hid (show q0+cntO f l p (i+1)=kk+1 from by rw [hc.1,HKK.out];omega)
          have hLw:=HLE.out wi hoi
          obtain ⟨ae,ce,hev⟩:=(hLw.e kk (by rw [HEV.out];exact hkk9)).1.slice
          obtain ⟨ge,oe,hae,hgel,hcel⟩:∃ ge oe,a9=some ⟨ge,oe,none⟩∧ge<wi.heap.size∧wi.cell? ⟨ge,oe+kk,none⟩=some (EV.getD kk nilS):=by
           rcases hLw.q.val with ⟨_,_,h0,_⟩ | ⟨ge,oe,ca,e1,_,l1,_,_,k1,_⟩
           ·rw [HEV.out] at h0;omega
           ·cases e1
            refine ⟨ge,oe,rfl,l1,?_⟩
            rw [k1 kk (by rw [HEV.out];omega),getD_lt (by rw [HEV.out];exact hkk9),List.getElem?_eq_getElem]
          subst hae
          obtain ⟨ne,hne⟩:∃ ne,ne=((vs.map intCells).getD kk []).length:=⟨_,rfl⟩
          rw [←hne] at hev
          rw [hev] at hcel
          have HEV2:=Lib.hid hev
          have pe:∀ w',Ext wi w'→w'.cell? ⟨ge,oe+kk,none⟩=some (.slice ae ne ce):=fun w' x=>x.cell hcel
          have qe:∀ w',Ext wi w'→ge<w'.heap.size:=fun w' x=>Nat.lt_of_lt_of_le hgel x.le
          have hwk:IntKind.i64.wrap ((kk:Int)+1)=(kk:Int)+1:=IntWalk.i64_in _ (by omega)
          have hkk':(kk:Int)<(k:Int):=by omega
          clear hz hc hg hLw hev hcel hgel hne
          go_upto_region 53 with (at_builtin;refine wpList_append_que _ rfl _ _ 64 64 rfl (base:=wo.heap.size) (e:=27) (size:=1) i0 (.slice none 0 0) 24 Tryz.underlying64 hi0 hz0 hz1 hz2 rfl rfl (v:=.slice a22 i c22) (n:=i) (xs:=((List.range i).map (ERv f l EV (.slice (some ⟨gf,ofo,none⟩) T.n cvf) p))) (by exact HQI.out.ext (Ext.alloc wi _)) (by rw [World.size_alloc];have:=hxi.le;omega) (.slice (some ⟨wi.heap.size,0,none⟩) 1 1) 1 [.slice ae ne ce] rfl (by exact Src.ofSlice _ Tryz.underlying64 ⟨wi.heap.size,0,none⟩ 1 1 _ rfl (news_ok wi _ _) (by intro u hu;simp at hu;subst hu;rfl)) (by unfold maxLen;omega) (by omega) ?_;rintro v7 w7 hq7 hg7 -;have HQ7:=Lib.hid hq7;have hx7:Ext wo w7:=grown_ext hxi hg7 (fun q e=>HQI.out.block q e);clear hq7 hg7)
          go_wp2_with fail
          go_roundg (en - (i+1))
          case rel=>exact ⟨i+1,by omega,rfl,congrArg (Value.int .i64) (by rw [HZ2.out];push_cast;omega),congrArg (Value.int .i64) (by rw [HCN.out];push_cast;rfl),fun h=>absurd h (by omega),by rw [←HCR.out,HER.out,HEV2.out];exact HQ7.out,hx7⟩
          case measure=>omega
         ·have dB:decide (z≤lp)=false:=decide_eq_false hB
          have dB':¬z≤lp:=hB
          have HER:=Lib.hid (show ERv f l EV (.slice (some ⟨gf,ofo,none⟩) T.n cvf) p i=nilS from by
           unfold ERv
           rw [if_neg (by rw [←HEN.out.2.1];omega),if_neg (by rw [←HEN.out.2.2];omega)])
          have HCN:=Lib.hid (show cntO f l p (i+1)=cntO f l p i from cntO_gt (by rw [←HEN.out.2.2];omega))
          clear hz
          go_upto_region 48 with (at_builtin;refine wpList_append_que _ rfl _ _ 64 64 rfl (base:=wo.heap.size) (e:=27) (size:=1) i0 (.slice none 0 0) 24 Tryz.underlying64 hi0 hz0 hz1 hz2 rfl rfl (v:=.slice a22 i c22) (n:=i) (xs:=((List.range i).map (ERv f l EV (.slice (some ⟨gf,ofo,none⟩) T.n cvf) p))) (by exact HQI.out.ext (Ext.alloc wi _)) (by rw [World.size_alloc];have:=hxi.le;omega) (.slice (some ⟨wi.heap.size,0,none⟩) 1 1) 1 [nilS] rfl (by exact Src.ofSlice _ Tryz.underlying64 ⟨wi.heap.size,0,none⟩ 1 1 _ rfl (news_ok wi _ _) (by intro u hu;simp at hu;subst hu;rfl)) (by unfold maxLen;omega) (by omega) ?_;rintro v7 w7 hq7 hg7 -;have HQ7:=Lib.hid hq7;have hx7:Ext wo w7:=grown_ext hxi hg7 (fun q e=>HQI.out.block q e);clear hq7 hg7)
          go_wp2_with fail
          go_roundg (en - (i+1))
          case rel=>exact ⟨i+1,by omega,rfl,congrArg (Value.int .i64) (by rw [HZ2.out];push_cast;omega),by rw [HCN.out,←HKK.out],fun h=>absurd h (by omega),by rw [←HCR.out,HER.out];exact HQ7.out,hx7⟩
          case measure=>omega
       ·have d3:decide (z≤(en:Int))=false:=decide_eq_false (by omega)
        have d3':¬z≤(en:Int):=by omega
        obtain rfl:i=en:=by omega
        obtain ⟨aJ,cJ,hvJ⟩:=HLO.out.q.slice
        have hVR:VR.length=p:=by rw [←HLO.out.n];simp
        rw [hVR] at hvJ
        subst hvJ
        have HVR:=Lib.hid hVR
        have HLI:=Lib.hid (HLO.out.ext hxi)
        have HHI:=Lib.hid (HHO.out.ext hxi)
        have HCA:=Lib.hid (show ((ownL (gi f) (gi l) (p+1)).length:Nat)=kk from by
         rw [cntO_all (n:=i) (by rw [←HEN.out.2.2];omega),HKK.out,HQ0.out])
        have HSEP:=Lib.hid (show ∀ q,(Value.slice a22 i c22).ownBlock=some q→q<wi.heap.size∧(Value.slice aJ p cJ).ownBlock≠some q from fun q e=>⟨by
         rcases Nat.eq_zero_or_pos i with h0 | h0
         ·have h1:=HNIL.out h0
          rw [h1] at e;cases e
         ·exact HQI.out.ownLt h0 q e,fun e2=>by
          have h1:=HQI.out.block q e
          have h2:=HLO.out.lt q e2
          omega⟩)
        have hw2e:=HP3.out.x.le
        clear hz hVR
        go_upto_region 44 with (at_builtin;go_loud (refine wpList_append_que _ rfl _ _ 28 28 rfl (base:=we.heap.size) (e:=64) (size:=1) j0 (.slice none 0 0) 24 Tryz.underlying28 hj0 hy0 hy1 hy2 rfl rfl (v:=.slice aJ p cJ) (n:=p) (xs:=VR) (by have h:=HLI.out.q.ext (Ext.alloc wi (.cells #[.slice a22 i c22] 64));rw [HVR.out] at h;exact h) (by rw [World.size_alloc];have h1:=hro.le;have h2:=hxi.le;omega) (.slice (some ⟨wi.heap.size,0,none⟩) 1 1) 1 [.slice a22 i c22] rfl (by exact Src.ofSlice _ Tryz.underlying28 ⟨wi.heap.size,0,none⟩ 1 1 _ rfl (news_ok wi _ _) (by intro u hu;simp at hu;subst hu;rfl)) (by unfold maxLen;omega) (by omega) ?_;rintro v7 w7 hq7 hg7 ho7;obtain ⟨a7,c7',rfl⟩:=hq7.slice;have HL7:=Lib.hid (show Lol w7 we.heap.size (.slice a7 (p+1) c7') (VR++[.slice a22 i c22]) (((List.range p).map fun q=>(List.range (T.en q)).map (ERv f l EV (.slice (some ⟨gf,ofo,none⟩) T.n cvf) q))++[(List.range i).map (ERv f l EV (.slice (some ⟨gf,ofo,none⟩) T.n cvf) p)]) from HLI.out.push (by have h:=HQI.out.mono (base':=we.heap.size) hro.le;rw [List.length_map,List.length_range];exact h) HSEP.out (by rw [HVR.out];exact hq7) hg7 ho7);have HH7:=Lib.hid ((HHI.out.ext (Ext.alloc wi (.cells #[.slice a22 i c22] 64))).grownG hg7 (fun e=>by have h1:=HLI.out.q.block b7 e;omega));have HC7:=Lib.hid (show Cg (· = b7) we w7 from (hoi.alloc _).grown hg7 fun q e=>.inr (HLI.out.q.block q e));have h77:Ext w7 w7:=Ext.refl _;clear hq7 hg7 ho7 c7 f7 l7;obtain ⟨l7,c7,f7,_⟩:=HH7.out.box))
        go_wp2_with fail
        go_roundg (T.n - (p+1))
        case rel=>
         have hcs:Cg (· = b7) w7 (w7.setCell ⟨b7,3,none⟩ (.slice a7 (p+1) c7')):=(Cg.refl _ w7).put 3 _
         refine ⟨p+1,by omega,rfl,by go_num,congrArg (Value.int .i64) (by rw [HCA.out]),.slice a7 (p+1) c7',VR++[.slice a22 i c22],HH7.out.set 3 _,?_,HC7.out.trans hcs⟩
         have h:=HL7.out.keepB hcs (by omega)
         rw [List.range_succ,List.map_append,List.map_cons,List.map_nil,←HEN.out.1]
         exact h
        case measure=>omega
     ·have hlt2':decide ((p:Int)<(T.n:Int))=false:=decide_eq_false (by omega)
      obtain rfl:p=T.n:=by omega
      obtain ⟨aJ,cJ,hvJ⟩:=HLO.out.q.slice
      have hVR:VR.length=T.n:=by rw [←HLO.out.n];simp
      rw [hVR] at hvJ
      subst hvJ
      have hw2e:=HP3.out.x.le
      have HSL:=Lib.hid (show ∀ w',Cg (fun g=>g<b7) wo w'→∃ S:SlcD,Value.agg #[.bool false,(.slice (some ⟨gf,ofo,none⟩) T.n cvf),(.slice (some ⟨gl,olo,none⟩) T.n cvl),(.slice aJ T.n cJ)]=S.val∧S.Is ⟨false,f,l,J⟩∧S.At w' from fun w' x=>by
       have hB:∀ g,g<b7→g<b7+1:=fun g e=>by omega
       have hfw:=((HP2.out.qf.ext HP3.out.x).keepB hro (Nat.lt_succ_self _)).keepS x hB
       have hlw:=((HP2.out.ql.ext HP3.out.x).keepB hro (Nat.lt_succ_self _)).keepS x hB
       have hJw:=(HLO.out.lower (base':=b7+1) (by omega)).keepS x hB
       have hEw:=((HLE.out wo hro).lower (base':=b7+1) (by omega)).keepS x hB
       rw [HJ.out]
       exact slc_fin HVD.out hfw hlw hJw hEw HP2.out.nf HP2.out.nl HP2.out.of HP2.out.ol HP2.out.cf HP2.out.cl (HON.out.trans HNV.out.symm) HVN.out)
      obtain ⟨S,hSv,hSi,hSa⟩:=HSL.out wo (Cg.refl _ _)
      have HSI:=Lib.hid hSi
      have HRVc:=Lib.hid (show Calls Tryz.prog 20 #[.agg #[.slice (some ⟨T.b,T.off,none⟩) T.n T.cap],.agg #[.bool false,(.slice (some ⟨gf,ofo,none⟩) T.n cvf),(.slice (some ⟨gl,olo,none⟩) T.n cvl),(.slice aJ T.n cJ)]] wo (BoolPost (S.Ok T.toTr) wo) from by
       rw [hSv];exact HRV.out wo hxo S hSa)
      clear hSv hSi hSa hVR
      go_wp2_with fail
      go_at_call 20
      refine HRVc.out.mono ?_
      rintro e w9 ⟨b,rfl,hb,hx9⟩
      have HB:=Lib.hid hb
      have hS9:=hSo.trans (hx9.cg _)
      have hxW9:=HXT.out w9 hS9
      have h99:Ext w9 w9:=Ext.refl _
      have HB49:=Lib.hid (HK4.out w9 hS9)
      have HB59:=Lib.hid (HK5.out w9 hS9)
      clear hb HRVc
      obtain ⟨m4,k4,f4,_⟩:=HB49.out.box
      obtain ⟨m5,k5,f5,_⟩:=HB59.out.box
      cases b with
      | false =>
       have HNO:=Lib.hid (show ¬S.Ok T.toTr from fun h=>absurd (HB.out.2 h) (by decide))
       go_wp2_with fail
       try simp only [Exit.inBlock,Exit.then]
       refine bodyPost_ret (rparse_results _ _ (W.heap.size+1) (W.heap.size+1+1) _ _ _ _ _ _ _ rfl rfl rfl (put6 (by omega) HB49.out HB59.out _ _ _ _ _ _).1 (put6 (by omega) HB49.out HB59.out _ _ _ _ _ _).2) rfl ?_
       obtain ⟨S',_,hi',ha'⟩:=HSL.out _ ((hx9.cg _).trans ((put6_cg w9 (W.heap.size+1) (W.heap.size+1+1) (.bool false) nilS nilS nilS (.int .i64 1) (.int .i64 1)).weak fun g e=>by rcases e with e | e <;> omega))
       refine ⟨put6_ext hxW9 (by omega) (by omega) _ _ _ _ _ _,.inr (.inr (.inr ⟨HVD.out,HL16.out,by rw [HRE.out],S',by rw [HRD.out];exact hi',ha',.inr ⟨fun h=>HNO.out (hi'.ok HSI.out h),rfl⟩⟩))⟩
      | true =>
       have HYE:=Lib.hid (HB.out.1 rfl)
       go_wp2_with fail
       try simp only [Exit.inBlock,Exit.then]
       refine bodyPost_ret (rparse_results _ _ (W.heap.size+1) (W.heap.size+1+1) _ _ _ _ _ _ _ rfl rfl rfl (put6 (by omega) HB49.out HB59.out _ _ _ _ _ _).1 (put6 (by omega) HB49.out HB59.out _ _ _ _ _ _).2) rfl ?_
       obtain ⟨S',hv',hi',ha'⟩:=HSL.out _ ((hx9.cg _).trans ((put6_cg w9 (W.heap.size+1) (W.heap.size+1+1) (.bool false) (.slice (some ⟨gf,ofo,none⟩) T.n cvf) (.slice (some ⟨gl,olo,none⟩) T.n cvl) (.slice aJ T.n cJ) (.int .i64 0) (.int .i64 0)).weak fun g e=>by rcases e with e | e <;> omega))
       refine ⟨put6_ext hxW9 (by omega) (by omega) _ _ _ _ _ _,.inr (.inr (.inr ⟨HVD.out,HL16.out,by rw [HRE.out],S',by rw [HRD.out];exact hi',ha',.inl ⟨HSI.out.ok hi' HYE.out,by rw [←hv'] <;> rfl⟩⟩))⟩
end Go.Proofs.YtlfdfkbmollaaaaGreatDoor
