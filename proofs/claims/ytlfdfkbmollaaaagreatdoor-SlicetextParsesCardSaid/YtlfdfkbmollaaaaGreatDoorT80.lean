/- Contracts and laws in plain Lean for RApp: group T80. -/
import Derived.Test.YtlfdfkbmollaaaaGreatDoorT79
import Derived.Test.YtlfdfkbmollaaaaGreatDoorT36
import Derived.Test.YtlfdfkbmollaaaaGreatDoorT77
import Derived.Test.YtlfdfkbmollaaaaGreatDoorT75
import Derived.Test.YtlfdfkbmollaaaaGreatDoorT71
import Derived.Test.YtlfdfkbmollaaaaGreatDoorT07
import Derived.Test.YtlfdfkbmollaaaaGreatDoorT02
import Derived.Test.YtlfdfkbmollaaaaGreatDoorT18
import Derived.Deep.LoopGhost
set_option maxRecDepth 100000
namespace Go.Proofs.YtlfdfkbmollaaaaGreatDoor
open Go.RowKit Go.Shelf
attribute [local go_sem] Oper.semAt_some
end Go.Proofs.YtlfdfkbmollaaaaGreatDoor

namespace Go.Proofs.YtlfdfkbmollaaaaGreatDoor
open Go.RowKit Go.Shelf Go.Deep
attribute [local go_sem] Oper.semAt_some
structure GrpR (G:List (List EvE)) (N:Nat) (a:Option Addr) (g o:Nat) (na:Nat→Option Addr) (nb no nc:Nat→Nat) (w:World):Prop where
 pa:0<N→a=some ⟨g,o,none⟩
 pb:0<N→∀ w',Ext w w'→g<w'.heap.size
 c:∀ k,k<N→∀ w',Ext w w'→w'.cell? ⟨g,o+k,none⟩=some (.slice (na k) (G.getD k []).length (nc k))
 qa:∀ k,k<N→0<(G.getD k []).length→na k=some ⟨nb k,no k,none⟩
 qb:∀ k,k<N→0<(G.getD k []).length→∀ w',Ext w w'→nb k<w'.heap.size
 d0:∀ k i,k<N→i<(G.getD k []).length→∀ w',Ext w w'→w'.cell? ⟨nb k,no k+i*2,none⟩=some (.int .i64 ((G.getD k []).getD i (0,0)).1)
 d1:∀ k i,k<N→i<(G.getD k []).length→∀ w',Ext w w'→w'.cell? ⟨nb k,no k+i*2+1,none⟩=some (.int .i64 ((G.getD k []).getD i (0,0)).2)
theorem GrpQ.read {w:World} {base:Nat} {vg:Value} {G:List (List EvE)} (h:GrpQ w base vg G):∃ a c g o na nb no nc,vg=.slice a G.length c∧GrpR G G.length a g o na nb no nc w:=by
 obtain ⟨NG,h1,h2⟩:=h
 obtain ⟨f,hf⟩:=choose_lt (p:=fun k (f:Option Addr × Nat × Nat × Nat)=>NG k=.slice f.1 (G.getD k []).length f.2.2.2∧(0<(G.getD k []).length→f.1=some ⟨f.2.1,f.2.2.1,none⟩∧f.2.1<w.heap.size)∧∀ i,i<(G.getD k []).length→w.cell? ⟨f.2.1,f.2.2.1+i*2,none⟩=some (.int .i64 ((G.getD k []).getD i (0,0)).1)∧w.cell? ⟨f.2.1,f.2.2.1+i*2+1,none⟩=some (.int .i64 ((G.getD k []).getD i (0,0)).2)) (n:=G.length) fun k hk=>by
  rcases (h2 k hk).val with ⟨ao,hv,hn,_⟩ | ⟨g,off,cap,hv,_,hb,_,_,h5,_⟩
  ·exact ⟨(ao,0,0,0),by rw [hv,hn],fun h0=>by omega,fun i hi=>by omega⟩
  ·refine ⟨(some ⟨g,off,none⟩,g,off,cap),hv,fun _=>⟨rfl,hb⟩,fun i hi=>?_⟩
   have e:(G.getD k []).getD i (0,0)=(G.getD k [])[i]:=by rw [List.getD_eq_getElem?_getD,List.getElem?_eq_getElem hi];rfl
   rw [e]
   exact ⟨(h5 (i*2) (by omega)).trans (evCells_get0 _ i hi),by rw [Nat.add_assoc];exact (h5 (i*2+1) (by omega)).trans (evCells_get1 _ i hi)⟩
 rcases h1.val with ⟨ao,hv,hn,_⟩ | ⟨g,off,cap,hv,_,hb,_,_,h5,_⟩
 ·exact ⟨ao,0,0,0,fun k=>(f k).1,fun k=>(f k).2.1,fun k=>(f k).2.2.1,fun k=>(f k).2.2.2,by rw [hv,hn],⟨fun h0=>by omega,fun h0=>by omega,fun k hk=>by omega,fun k hk=>by omega,fun k hk=>by omega,fun k i hk=>by omega,fun k i hk=>by omega⟩⟩
 ·refine ⟨some ⟨g,off,none⟩,cap,g,off,fun k=>(f k).1,fun k=>(f k).2.1,fun k=>(f k).2.2.1,fun k=>(f k).2.2.2,hv,⟨fun _=>rfl,fun _ w' x=>Nat.lt_of_lt_of_le hb x.le,fun k hk w' x=>?_,fun k hk h0=>((hf k hk).2.1 h0).1,fun k hk h0 w' x=>Nat.lt_of_lt_of_le ((hf k hk).2.1 h0).2 x.le,fun k i hk hi w' x=>x.cell ((hf k hk).2.2 i hi).1,fun k i hk hi w' x=>x.cell ((hf k hk).2.2 i hi).2⟩⟩
  refine x.cell ?_
  rw [h5 k (by omega),List.getElem?_map,List.getElem?_range hk]
  exact congrArg some (hf k hk).1
end Go.Proofs.YtlfdfkbmollaaaaGreatDoor

namespace Go.Proofs.YtlfdfkbmollaaaaGreatDoor
open Go.RowKit Go.Shelf
attribute [local go_sem] Oper.semAt_some
set_option maxHeartbeats 4000000 in
theorem same34_any (w : World) (S S' : SlcD) (s : SL) (hS : S.At w) (hS' : S'.At w) (h : S.Is s) (h' : S'.Is s) :
    Calls Tryz.prog 12 #[S.val,S'.val] w fun e w'=>e=.returned (.bool true)∧Ext w w':=by
 have efn:S'.f.s.n=S.f.s.n:=h'.fn.trans h.fn.symm
 have eln:S'.l.s.n=S.l.s.n:=h'.ln.trans h.ln.symm
 have ejn:S'.j.s.n=S.j.s.n:=h'.jn.trans h.jn.symm
 have eem:S'.em=S.em:=h'.em.trans h.em.symm
 have hjn9:S.j.s.n≤140737488355328:=hS.j.s.hn
 have HF:=Lib.hid (fun W (x:Ext w W)=>(show Calls Tryz.prog 38 #[.slice S.f.s.a S.f.s.n S.f.s.c,.slice S'.f.s.a S.f.s.n S'.f.s.c] W (fun e w'=>e=.returned (.bool true)∧Ext W w') from by
  rw [←efn]
  refine (rsi14_any W S.f.s.a S'.f.s.a _ _ _ _ S'.f.s.n S'.f.s.n S.f.s.c S'.f.s.c S.f.z S'.f.z (by rw [efn];exact hS.f.num.ext x) (hS'.f.num.ext x)).mono ?_
  rintro e w' ⟨b,rfl,hb,hx⟩
  obtain rfl:b=true:=hb.2 ⟨rfl,fun i hi=>(h.fz i (by rw [←h'.fn];exact hi)).trans (h'.fz i (by rw [←h'.fn];exact hi)).symm⟩
  exact ⟨rfl,hx⟩))
 have HL:=Lib.hid (fun W (x:Ext w W)=>(show Calls Tryz.prog 38 #[.slice S.l.s.a S.l.s.n S.l.s.c,.slice S'.l.s.a S.l.s.n S'.l.s.c] W (fun e w'=>e=.returned (.bool true)∧Ext W w') from by
  rw [←eln]
  refine (rsi14_any W S.l.s.a S'.l.s.a _ _ _ _ S'.l.s.n S'.l.s.n S.l.s.c S'.l.s.c S.l.z S'.l.z (by rw [eln];exact hS.l.num.ext x) (hS'.l.num.ext x)).mono ?_
  rintro e w' ⟨b,rfl,hb,hx⟩
  obtain rfl:b=true:=hb.2 ⟨rfl,fun i hi=>(h.lz i (by rw [←h'.ln];exact hi)).trans (h'.lz i (by rw [←h'.ln];exact hi)).symm⟩
  exact ⟨rfl,hx⟩))
 have HM:=Lib.hid (show ∀ p,p<S.j.s.n→∀ W,Ext w W→Calls Tryz.prog 39 #[(S.j.m p).v,(S'.j.m p).v] W (fun e w'=>e=.returned (.bool true)∧Ext W w') from fun p hp W x=>
  sameLists_any W (S.j.m p) (S'.j.m p) ((hS.j.c p hp).2.at'.ext x) ((hS'.j.c p (by rw [ejn];exact hp)).2.at'.ext x) true ⟨fun _=>by
   have hps:p<s.j.length:=by rw [←h.jn];exact hp
   have e1:=h.mn p hps
   have e2:=h'.mn p hps
   refine ⟨e1.trans e2.symm,fun k hk=>?_⟩
   have hk':k<(s.j.getD p []).length:=by rw [←e1];exact hk
   have e3:=h.rn p k hps hk'
   have e4:=h'.rn p k hps hk'
   exact ⟨e3.trans e4.symm,fun i hi=>(h.vz p k i hps hk' (by rw [←e3];exact hi)).trans (h'.vz p k i hps hk' (by rw [←e3];exact hi)).symm⟩,fun _=>rfl⟩)
 have HC:=Lib.hid (show ∀ p,p<S.j.s.n→(∀ w',Ext w w'→w'.cell? ⟨S.j.s.b,S.j.s.o+p,none⟩=some (S.j.m p).v)∧(∀ w',Ext w w'→w'.cell? ⟨S'.j.s.b,S'.j.s.o+p,none⟩=some (S'.j.m p).v)∧S.j.s.a=some ⟨S.j.s.b,S.j.s.o,none⟩∧S'.j.s.a=some ⟨S'.j.s.b,S'.j.s.o,none⟩∧(∀ w',Ext w w'→S.j.s.b<w'.heap.size)∧∀ w',Ext w w'→S'.j.s.b<w'.heap.size from fun p hp=>by
  have hp':p<S'.j.s.n:=by rw [ejn];exact hp
  exact ⟨fun w' x=>x.cell (hS.j.c p hp).1,fun w' x=>x.cell (hS'.j.c p hp').1,hS.j.s.ha (by omega),hS'.j.s.ha (by omega),fun w' x=>Nat.lt_of_lt_of_le (hS.j.s.hb (by omega)) x.le,fun w' x=>Nat.lt_of_lt_of_le (hS'.j.s.hb (by omega)) x.le⟩)
 obtain ⟨ja,hja⟩:∃ z,z=S.j.s.a:=⟨_,rfl⟩
 obtain ⟨ja',hja'⟩:∃ z,z=S'.j.s.a:=⟨_,rfl⟩
 have hv:S.val=.agg #[.bool S.em,.slice S.f.s.a S.f.s.n S.f.s.c,.slice S.l.s.a S.l.s.n S.l.s.c,.slice ja S.j.s.n S.j.s.c]:=by rw [hja]
 have hv':S'.val=.agg #[.bool S.em,.slice S'.f.s.a S.f.s.n S'.f.s.c,.slice S'.l.s.a S.l.s.n S'.l.s.c,.slice ja' S.j.s.n S'.j.s.c]:=by rw [hja',←efn,←eln,←ejn,←eem]
 rw [hv,hv']
 rw [←hja,←hja'] at HC
 generalize S.j.s.n=N at *
 have d0:(S.em != S.em)=false:=by simp
 have d1:((N:Int) != (N:Int))=false:=by simp
 clear hv hv' hja hja' efn eln ejn eem h h' hS hS'
 go_enter Tryz.func12,Tryz.ntmps12
 go_upto_region 1 with fail
 refine boxed2 (w:=w) (G:=fun x=>Code.wp _ _ _ _ x) ?_
 intro w1 hx1 hs1 ⟨l0,c0,_,_⟩ ⟨l1,c1,_,_⟩
 have hx11:Ext w1 w1:=Ext.refl _
 clear hs1
 go_upto_region 3 with (go_at_call 38;first | (refine (HL.out _ hx12).mono ?_;rintro e w3 ⟨rfl,hx3⟩;have hx13:=hx12.trans hx3;have hx23:=hx22.trans hx3) | (refine (HF.out _ hx1).mono ?_;rintro e w2 ⟨rfl,hx2⟩;have hx12:=hx1.trans hx2;have hx22:=hx2))
 go_wp2_with fail
 go_loopg [5] N (fun gg v5 wo=>∃ k:Nat,k≤N∧gg=N - k∧v5=.int .i64 k∧Ext w1 wo)
 case atStart=>exact ⟨0,by omega,by omega,rfl,hx23⟩
 case round=>
  obtain ⟨k,hk,rfl,rfl,hx1r⟩:=hrel
  have hxwr:=hx1.trans hx1r
  have hrr:Ext wr wr:=Ext.refl _
  by_cases hlt:k<N
  ·have hlt':(k:Int)<(N:Int):=by omega
   obtain ⟨p1,p2,rfl,rfl,p3,p4⟩:=HC.out k hlt
   have HML:=Lib.hid (HM.out k hlt)
   have hgw:∀ d os,Ext w (Sort.grow (redrawn wr d) os):=fun d os=>hxwr.trans (below_regrown wr d os)
   have hg1:∀ d os,Ext w1 (Sort.grow (redrawn wr d) os):=fun d os=>hx1r.trans (below_regrown wr d os)
   go_upto_region 6 with fail
   refine wp_region_quiet_below (by kernel_rfl) (by kernel_rfl) ?_
   repeat (go_big_quiet_step (exact Calls.regrown_of (HML.out _ (hgw _ _))))
   refine wpQuiet_nil ?_
   intro _ hw'
   obtain ⟨⟨dq,osq⟩,hw''⟩:=hw'
   subst hw''
   have hxq:=hg1 dq osq
   clear hgw hg1
   go_wp2_with fail
   go_roundg (N - (k+1))
   case rel=>exact ⟨k+1,by omega,rfl,by go_num,hxq⟩
   case measure=>omega
  ·have hlt':¬(k:Int)<(N:Int):=by omega
   go_wp2_with fail
   go_ret
   exact ⟨rfl,hx1.trans hx1r⟩
end Go.Proofs.YtlfdfkbmollaaaaGreatDoor

namespace Go.Proofs.YtlfdfkbmollaaaaGreatDoor
open Go.RowKit Go.Shelf
set_option maxHeartbeats 400000 in
theorem sml36a_any (w : World) (a b c d : Int) (e : Option Addr) (n cap : Nat) :
    Calls Tryz.prog 33 #[.agg #[.int .i64 a,.int .i64 b,.int .i64 c,.int .i64 d,.slice e n cap]] w fun r w'=>r=.returned (.bool (decide (12<(n:Int))))∧Ext w w':=by
 go_enter Tryz.func33,Tryz.ntmps33
 go_wp2
 go_ret
 exact ⟨ret_bool (by simp),Ext.alloc _ _⟩
def SmlPost (T:Tr) (w:World) (e:Ending) (w':World):Prop:=Ext w w'∧∃ b:Bool,e=.returned (.bool b)∧(b=true→tot T.en T.n≤24)
set_option maxHeartbeats 2000000 in
theorem sml36_any (w:World) (T:TM) (hT:T.At w):Calls Tryz.prog 9 #[T.val] w (SmlPost T.toTr w):=by
 have hn:=hT.P.hn
 have HT:=Lib.hid hT
 clear hT
 go_enter Tryz.func9,Tryz.ntmps9
 go_upto_region 1 with fail
 refine boxed1 (w:=w) (G:=fun x=>Code.wp _ _ _ _ x) ?_
 intro w1 hx1 hs1 ⟨l0,c0,_,_⟩
 have hx11:Ext w1 w1:=Ext.refl _
 clear hs1
 obtain ⟨ta,hta⟩:∃ a,a=T.a:=⟨_,rfl⟩
 rw [←hta] at c0
 have HTA:=Lib.hid hta
 clear hta
 by_cases h10:10<T.n
 ·have b1:decide ((10:Int)<(T.n:Int))=true:=decide_eq_true (by omega)
  have b1':decide (10<T.n)=true:=decide_eq_true h10
  go_wp2_with fail
  go_ret
  exact ⟨hx1,false,rfl,fun h=>(by cases h)⟩
 ·have b1:decide ((10:Int)<(T.n:Int))=false:=decide_eq_false (by omega)
  have b1':decide (10<T.n)=false:=decide_eq_false h10
  go_wp2_with fail
  clear b1 b1'
  go_loopg [3,13] T.n (fun gg v3 v13 wr=>∃ k s:Nat,k≤T.n∧gg=T.n - k∧v3=.int .i64 s∧v13=.int .i64 k∧s=tot T.en k∧s≤k*140737488355328∧Ext w1 wr)
  case atStart=>exact ⟨0,0,by omega,rfl,rfl,rfl,rfl,by omega,hx11⟩
  case round=>
   obtain ⟨k,s,hk,rfl,rfl,rfl,hst,ht,hxr⟩:=hrel
   have HST:=Lib.hid hst
   clear hst
   have hxw:=hx1.trans hxr
   by_cases hlt:k<T.n
   ·have hlt':(k:Int)<(T.n:Int):=by omega
    obtain rfl:ta=some ⟨T.b,T.off,none⟩:=by rw [HTA.out];exact HT.out.P.pa (by omega)
    have pb:=HT.out.P.pb (by omega)
    have p0:∀ w',Ext w w'→w'.cell? ⟨T.b,T.off+k*3,none⟩=some (.string (T.name k)):=fun w' h=>HT.out.P.p0 w' h k hlt
    have p1:∀ w',Ext w w'→w'.cell? ⟨T.b,T.off+k*3+1,none⟩=some (.slice (T.va k) (T.vn k) (T.vc k)):=fun w' h=>HT.out.P.p1 w' h k hlt
    have p2:∀ w',Ext w w'→w'.cell? ⟨T.b,T.off+k*3+2,none⟩=some (.slice (T.ea k) (T.en k) (T.ec k)):=fun w' h=>HT.out.P.p2 w' h k hlt
    have hen:=HT.out.E.he k hlt
    have hvn:=HT.out.V.hv k hlt
    go_upto_region 7 with fail
    refine boxed1 (w:=wr) (G:=fun x=>Code.wp _ _ _ _ x) ?_
    intro w2 hx2 hs2 ⟨l2,c2,_,_⟩
    have hx22:Ext w2 w2:=Ext.refl _
    have hxw2:=hxw.trans hx2
    have hx12:=hxr.trans hx2
    clear hs2 p0 p1 p2 pb
    generalize wr.heap.size=xb at l2 c2 ⊢
    obtain ⟨m,hm⟩:∃ m:Nat,m=s+T.en k:=⟨_,rfl⟩
    have HM:=Lib.hid (show m≤(k+1)*140737488355328 by omega)
    have hmw:IntKind.i64.wrap ((s:Int)+(T.en k:Int))=(m:Int):=by rw [IntWalk.i64_in _ (by omega)];omega
    have hadd:((s:Int)+(T.en k:Int))=(m:Int):=by omega
    have HMT:=Lib.hid (show m=tot T.en (k+1) from by rw [hm,HST.out];rfl)
    clear hm
    by_cases h12:12<T.vn k
    ·have b2:decide ((12:Int)<(T.vn k:Int))=true:=decide_eq_true (by omega)
     have b2':decide (12<T.vn k)=true:=decide_eq_true h12
     go_wp2_with fail
     go_ret
     exact ⟨hxw2,false,rfl,fun h=>(by cases h)⟩
    ·have b2:decide ((12:Int)<(T.vn k:Int))=false:=decide_eq_false (by omega)
     have b2':decide (12<T.vn k)=false:=decide_eq_false h12
     by_cases h30:30<(T.name k).size
     ·have b3:decide ((30:Int)<((T.name k).size:Int))=true:=decide_eq_true (by omega)
      have b3':decide (30<(T.name k).size)=true:=decide_eq_true h30
      go_wp2_with fail
      go_ret
      exact ⟨hxw2,false,rfl,fun h=>(by cases h)⟩
     ·have b3:decide ((30:Int)<((T.name k).size:Int))=false:=decide_eq_false (by omega)
      have b3':decide (30<(T.name k).size)=false:=decide_eq_false h30
      have hEv:=has_Event w2 (T.ea k) (T.eb k) (T.eo k) (T.en k) (T.ec k) (fun i=>.int .i64 (T.kind k i)) (fun i=>.int .i64 (T.peer k i)) (fun i=>.int .i64 (T.msg k i)) (fun i=>.int .i64 (T.time k i)) (fun i=>.slice (T.aa k i) (T.an k i) (T.ac k i))
       33 #[] (fun i=>decide (12<(T.an k i:Int))) hen (fun h=>HT.out.E.ea k hlt h) (fun w' hx i hi=>HT.out.E.e0 w' (hxw2.trans hx) k i hlt hi) (fun w' hx i hi=>HT.out.E.e1 w' (hxw2.trans hx) k i hlt hi) (fun w' hx i hi=>HT.out.E.e2 w' (hxw2.trans hx) k i hlt hi) (fun w' hx i hi=>HT.out.E.e3 w' (hxw2.trans hx) k i hlt hi) (fun w' hx i hi=>HT.out.E.e4 w' (hxw2.trans hx) k i hlt hi)
       (enters_of Tryz.func33 (by kernel_rfl) rfl) (fun i hi w' hx=>sml36a_any w' _ _ _ _ _ _ _)
      cases hE:anyB (fun i=>decide (12<(T.an k i:Int))) (T.en k) with
      | true =>
       rw [hE] at hEv
       clear hE
       go_wp2_with fail
       go_at_call 32
       refine hEv.mono ?_
       rintro e w3 ⟨rfl,hx3⟩
       have hx33:=hxw2.trans hx3
       clear hEv
       go_wp2_with fail
       go_ret
       exact ⟨hx33,false,rfl,fun h=>(by cases h)⟩
      | false =>
       rw [hE] at hEv
       clear hE
       go_wp2_with fail
       go_at_call 32
       refine hEv.mono ?_
       rintro e w3 ⟨rfl,hx3⟩
       have hx33:=hxw2.trans hx3
       have hx13:=hx12.trans hx3
       clear hEv
       go_wp2_with fail
       go_roundg (T.n - (k+1))
       case rel=>exact ⟨k+1,m,by omega,rfl,rfl,by go_num,HMT.out,HM.out,hx13⟩
       case measure=>omega
   ·have hke:k=T.n:=by omega
    subst hke
    by_cases h24:s≤24
    ·have e1:decide ((s:Int)≤24)=true:=decide_eq_true (by omega)
     have e1':decide (s≤24)=true:=decide_eq_true h24
     have HS4:=Lib.hid h24
     clear h24
     go_wp2_with fail
     go_ret
     exact ⟨hxw,true,rfl,fun _=>by rw [←HST.out];exact HS4.out⟩
    ·have e1:decide ((s:Int)≤24)=false:=decide_eq_false (by omega)
     have e1':decide (s≤24)=false:=decide_eq_false h24
     go_wp2_with fail
     go_ret
     exact ⟨hxw,false,rfl,fun h=>(by cases h)⟩
end Go.Proofs.YtlfdfkbmollaaaaGreatDoor
