/-
  PROVED HERE: 'ReplayRuns' returns true for every trace, list of syncs and two lists of numbers, in every memory: no condition.
  (The row's step follows the shell that the kit's program wrote for 'LamportSteps'.)
-/
import Derived.Test.YtkhgpockmaghjaaGreatRows
import Derived.WalkKit
import Derived.Test.YtkhgpockmaghjaaGreatW67
import Derived.Test.YtkhgpockmaghjaaGreatW85
import Derived.Test.YtkhgpockmaghjaaGreatW51
import Derived.Test.YtkhgpockmaghjaaGreatW73
namespace Go.Proofs.YtkhgpockmaghjaaGreat.replayRuns
open Go.ChangeShapes Go.WideShapes Go.ChangeAt Go.RowKit Go.Shelf Go.Proofs.YtkhgpockmaghjaaGreat
set_option linter.unusedVariables false
def TruePost (w:World) (e:Ending) (w':World):Prop:=e=.returned (.bool true)∧Ext w w'
theorem cut_yes {T:Tr} {L:List Syn} (hf:PFault T L True False 0) {c:Nat→Nat} (hc:PCut T L c):PFault T L (T.n=T.n) (¬T.InR T.n (natV c)) 0∧T.IsCut T.n (natV c)∧PerP L (natV c):=by
 have hR:T.InR T.n (natV c):=fun p hp=>⟨Int.natCast_nonneg _,by have:=hc.cut.le p hp;show ((c p:Nat):Int)≤_;omega⟩
 refine ⟨hf.congr ⟨fun _=>rfl,fun _=>trivial⟩ ⟨False.elim,fun h=>h hR⟩,⟨⟨hf.ok.1.1,rfl⟩,hR,fun x hx h1 h3=>?_⟩,hc.per⟩
 have h1':x.2<c x.1:=by simp only [natV] at h1;omega
 have:=hc.cut.cl x hx h1' h3
 simp only [natV];omega
theorem pcut_of {T:Tr} {L:List Syn} (hL:SynOk T L) {n:Nat} {v:Nat→Int} (hc:T.IsCut n v) (hp:PerP L v):PCut T L fun p=>(v p).toNat:=by
 obtain ⟨⟨_,rfl⟩,hR,hC⟩:=hc
 refine ⟨⟨fun p hp=>by have:=hR p hp;show (v p).toNat≤_;omega,fun x hx h1 h3=>?_⟩,hp.congr hL fun p hp=>by have:=hR p hp;simp only [natV];omega⟩
 have h1':x.2<(v x.1).toNat:=h1
 have:=hC x hx (by omega) h3
 show (T.sndN x).2<(v (T.sndN x).1).toNat
 omega
set_option maxRecDepth 100000 in
set_option maxHeartbeats 16000000 in
theorem walk (T : TM) (D : SyD) (C E : IntD) (w : World) (hT : T.At w) (hD : D.At w) (hC : C.At w) (hE : E.At w) :
    Calls Tryz.prog 7 #[T.val,.slice D.s.a D.s.n D.s.c,.slice C.s.a C.s.n C.s.c,.slice E.s.a E.s.n E.s.c] w (TruePost w):=by
 have hCN:=hC.num
 have hEN:=hE.num
 have hCO:∀ i,i<C.s.n→okI (C.z i):=fun i hi=>(hC.c i hi).2
 have hdn:=hD.hn
 have hcn:=hCN.hn
 have hen:=hEN.hn
 have HEN:=Lib.hid hEN
 have HBIG:=Lib.hid (fun W (x:Ext w W)=>big_any W T (hT.ext x) D.s.a D.s.n D.s.c hdn)
 have HEV:=Lib.hid (fun W (x:Ext w W) (h:BigNo T.toTr D.s.n)=>revents_tot W T (hT.ext x) (by have:=h.n;omega) (fun k hk=>by have:=(h.p k hk).1;omega))
 have HRU:=Lib.hid (fun W (x:Ext w W) (h:BigNo T.toTr D.s.n)=>prun_any W T (hT.ext x) (by have:=h.n;omega) D (hD.ext x) C.s.a C.s.b C.s.o C.s.n C.s.c C.z (hCN.ext x) hCO)
 have HVA:=Lib.hid (fun W (x:Ext w W) (h:BigNo T.toTr D.s.n)=>pvalid_any W T (hT.ext x) (by have:=h.n;omega) D (hD.ext x))
 have HIS:=Lib.hid (fun W (x:Ext w W) hV base v R hR hl hM=>risrun_any W T (hT.ext x) hV base v R hR hl hM)
 have HCO:=Lib.hid (fun W (x:Ext w W) a g o n cap v hn=>pconsistent_any W T (hT.ext x) D (hD.ext x) a g o n cap v hn)
 have HNX:=Lib.hid (fun W (x:Ext w W) a g o n cap v hn=>pnext_any W T (hT.ext x) D (hD.ext x) a g o n cap v hn)
 obtain ⟨ta,hta⟩:∃ z,z=T.a:=⟨_,rfl⟩
 obtain ⟨da,hda⟩:∃ z,z=D.s.a:=⟨_,rfl⟩
 obtain ⟨dn,hdn'⟩:∃ z,z=D.s.n:=⟨_,rfl⟩
 obtain ⟨ca,hca⟩:∃ z,z=C.s.a:=⟨_,rfl⟩
 obtain ⟨cn,hcn'⟩:∃ z,z=C.s.n:=⟨_,rfl⟩
 obtain ⟨ea,hea⟩:∃ z,z=E.s.a:=⟨_,rfl⟩
 obtain ⟨en,hen'⟩:∃ z,z=E.s.n:=⟨_,rfl⟩
 obtain ⟨tt,htt⟩:∃ z,z=tot T.en T.n:=⟨_,rfl⟩
 simp only [TM.val,←hta] at HBIG HEV HRU HVA HIS HCO HNX ⊢
 rw [←hda,←hdn'] at HBIG HRU HVA
 simp only [←hda,←hdn'] at HCO HNX
 rw [←hdn'] at hdn HEV
 rw [←htt] at HEV
 rw [←hca,←hcn'] at HRU
 rw [←hcn'] at hcn
 rw [←hea,←hen'] at HEN
 rw [←hen'] at hen
 rw [←hda,←hdn',←hca,←hcn',←hea,←hen']
 have HTT:=Lib.hid htt
 have HCNN:=Lib.hid hcn'
 clear hT hD hC hE hCN hEN hCO hta hda hdn' hca hcn' hea hen' htt
 go_enter Tryz.func7,Tryz.ntmps7
 go_upto_region 1 with fail
 refine boxed1 (w:=w) (G:=fun x=>Code.wp _ _ _ _ x) ?_
 intro w1 hx1 hs1 ⟨l0,c0,_,_⟩
 have hx11:Ext w1 w1:=Ext.refl _
 clear hs1
 go_wp2_with fail
 go_at_call 9
 refine (awake45_any w1).mono ?_
 rintro e w2 ⟨rfl,hx2⟩
 have hxw2:=hx1.trans hx2
 go_wp2_with fail
 go_at_call 10
 refine (HBIG.out w2 hxw2).mono ?_
 rintro e w3 ⟨bb,rfl,hbb,hx3⟩
 have hxw3:=hxw2.trans hx3
 have hx13:=hx2.trans hx3
 cases bb with
 | true =>
  clear hbb
  go_wp2_with fail
  go_ret
  exact ⟨rfl,hxw3⟩
 | false =>
 have HB:=Lib.hid (hbb rfl)
 clear hbb
 by_cases h1:200<cn
 ·have b1:decide ((200:Int)<(cn:Int))=true:=decide_eq_true (by omega)
  have b1':decide (200<cn)=true:=decide_eq_true h1
  go_wp2_with fail
  go_ret
  exact ⟨rfl,hxw3⟩
 have b1:decide ((200:Int)<(cn:Int))=false:=decide_eq_false (by omega)
 have b1':decide (200<cn)=false:=decide_eq_false h1
 by_cases h2:40<dn
 ·have b2:decide ((40:Int)<(dn:Int))=true:=decide_eq_true (by omega)
  have b2':decide (40<dn)=true:=decide_eq_true h2
  go_wp2_with fail
  go_ret
  exact ⟨rfl,hxw3⟩
 have b2:decide ((40:Int)<(dn:Int))=false:=decide_eq_false (by omega)
 have b2':decide (40<dn)=false:=decide_eq_false h2
 go_wp2_with fail
 go_at_call 24
 refine (HEV.out w3 hxw3 HB.out).mono ?_
 rintro e w4 ⟨rfl,hx4⟩
 have hxw4:=hxw3.trans hx4
 have hx14:=hx13.trans hx4
 by_cases h3:40<tt
 ·have b3:decide ((40:Int)<(tt:Int))=true:=decide_eq_true (by omega)
  have b3':decide (40<tt)=true:=decide_eq_true h3
  go_wp2_with fail
  go_ret
  exact ⟨rfl,hxw4⟩
 have b3:decide ((40:Int)<(tt:Int))=false:=decide_eq_false (by omega)
 have b3':decide (40<tt)=false:=decide_eq_false h3
 by_cases h4:20<en
 ·have b4:decide ((20:Int)<(en:Int))=true:=decide_eq_true (by omega)
  have b4':decide (20<en)=true:=decide_eq_true h4
  go_wp2_with fail
  go_ret
  exact ⟨rfl,hxw4⟩
 have b4:decide ((20:Int)<(en:Int))=false:=decide_eq_false (by omega)
 have b4':decide (20<en)=false:=decide_eq_false h4
 clear hx2 hx3 hx4 hxw2 hxw3 hx13
 go_wp2_with fail
 go_at_call 26
 refine (HRU.out w4 hxw4 HB.out).mono ?_
 rintro e w5 ⟨hx5,hp⟩
 have hxw5:=hxw4.trans hx5
 have hx15:=hx14.trans hx5
 clear b1 b1' b2 b2' b3 b3' b4 b4'
 rcases hp with ⟨r,hf,hr,rfl⟩ | ⟨hf,v,R,rfl,hR,hI⟩
 ·have d1:(r == 0)=false:=by simpa using hr
  have d1':(r != 0)=true:=by simpa using hr
  clear hf hr
  go_upto_region 6 with fail
  refine boxed1 (w:=w5) (G:=fun x=>Code.wp _ _ _ _ x) ?_
  intro w6 hx6 hs6 ⟨l6,c6,_,_⟩
  have hx66:Ext w6 w6:=Ext.refl _
  have hxw6:=hxw5.trans hx6
  clear hs6
  go_wp2_with fail
  go_ret
  exact ⟨rfl,hxw6⟩
 have hno:=hf.ok.2.2.2.1
 have hF:PFault T.toTr D.l True False 0:=hf.congr Iff.rfl ⟨fun h=>hno h,False.elim⟩
 have hV:=hF.ok.1.1
 have hL:=hF.ok.2.2.1
 have hA:=hF.ok.2.2.2.2
 have hM:=prun_runL hV hL hA hI
 have hn8:T.n≤8:=hV.n8
 have hn1:1≤T.n:=hV.n1
 have hlR:R.length≤41:=by
  have hp:=hI.1.pos
  have h1:=prun_cut hL hI.1 ((R.map Row.l).length - 1) (by omega)
  have h2:=totS_le (f:=fn ((R.map Row.l).getD ((R.map Row.l).length - 1) [])) (g:=T.en) (n:=T.n) (fun p hp=>h1.1.2.cut.le p hp)
  rw [List.length_map] at h1 h2
  have h3:=HTT.out
  omega
 obtain ⟨aa,ac,hva⟩:=hR.1.slice
 subst hva
 have HR:=Lib.hid hR
 have HF:=Lib.hid hF
 have HV:=Lib.hid hV
 have HL:=Lib.hid hL
 have HA:=Lib.hid hA
 have HI:=Lib.hid hI
 have HM:=Lib.hid hM
 obtain ⟨aa',ag,ao,ac',ea1,_,ea3,ea4⟩:=hR.get
 simp only [Value.slice.injEq] at ea1
 obtain ⟨rfl,_,rfl⟩:=ea1
 have hpos:0<R.length:=by have:=hM.pos;rwa [List.length_map] at this
 obtain ⟨rfl,_,hag⟩:=ea3 hpos
 have HROW:=Lib.hid (show ∀ i (hi:i<R.length),∃ g o c,(∀ w',Ext w5 w'→NumAt w' T.n (some ⟨g,o,none⟩) g o (natV (fn R[i].l)))∧(∀ w',Ext w5 w'→w'.cell? ⟨ag,ao+i,none⟩=some (.slice (some ⟨g,o,none⟩) T.n c)) from fun i hi=>by
  have hm:R[i]∈R:=List.getElem_mem hi
  have hlen:R[i].l.length=T.n:=hM.len _ (List.mem_map_of_mem hm)
  have hA:∀ w',Ext w5 w'→NumAt w' T.n R[i].a R[i].g R[i].o (natV (fn R[i].l)):=fun w' x=>by
   have:=Row.At.ext (hR.2 _ hm) x
   unfold Row.At at this
   rw [hlen] at this;exact this
  have ha:=(hA w5 (Ext.refl _)).pa (by omega)
  refine ⟨R[i].g,R[i].o,R[i].c,fun w' x=>ha▸hA w' x,fun w' x=>?_⟩
  have:=ea4 i hi w' x
  rw [ha,hlen] at this
  exact this)
 have HCUT:=Lib.hid (show ∀ i (hi:i<R.length),PCut T.toTr D.l (fn R[i].l)∧(T.toTr.pnL D.l (fn R[i].l) T.n=[]↔i+1=R.length) from fun i hi=>by
  have e1:(R.map Row.l).getD i []=R[i].l:=by rw [List.getD_eq_getElem?_getD,List.getElem?_map,List.getElem?_eq_getElem hi];rfl
  have h1:=prun_cut hL hI.1 i (by rw [List.length_map];exact hi)
  rw [e1] at h1
  refine ⟨h1.1.2,fun h2=>?_,fun h2=>?_⟩
  ·refine Nat.le_antisymm hi (Nat.le_of_not_lt fun h3=>?_)
   have h4:=(hI.1.st i (by rw [List.length_map];exact h3)).1
   rw [e1] at h4
   exact h4 h2
  ·have h4:=hI.2
   rw [List.length_map,show R.length - 1=i by omega,e1] at h4
   exact h4)
 have HSTP:=Lib.hid (show ∀ i (hi:i+1<R.length),∃ j,j<(T.toTr.pnL D.l (fn R[i].l) T.n).length∧eqUp T.n (fn R[i+1].l) (fn R[i].l) ((T.toTr.pnL D.l (fn R[i].l) T.n).getD j 0)=true from fun i hi=>by
  have e1:(R.map Row.l).getD i []=R[i].l:=by rw [List.getD_eq_getElem?_getD,List.getElem?_map,List.getElem?_eq_getElem (by omega)];rfl
  have e2:(R.map Row.l).getD (i+1) []=R[i+1].l:=by rw [List.getD_eq_getElem?_getD,List.getElem?_map,List.getElem?_eq_getElem hi];rfl
  obtain ⟨p,hp,he⟩:=prun_step hI.1 (i:=i) (by rw [List.length_map];exact hi)
  rw [e1] at hp he
  rw [e2] at he
  obtain ⟨j,hj,hjp⟩:=List.getElem_of_mem hp
  refine ⟨j,hj,?_⟩
  rw [getD_get hj,hjp]
  exact eqUp_iff.2 ⟨rfl,fun q hq=>by show ((fn R[i+1].l q:Nat):Int)=_;rw [he,fn_rowOf hq]⟩)
 obtain ⟨na,hna⟩:∃ z,z=R.length:=⟨_,rfl⟩
 have HNA:=Lib.hid hna
 have hna1:0<na:=by omega
 have hna2:na≤41:=by omega
 have gl:∀ w',Ext w5 w'→ag<w'.heap.size:=fun w' x=>Nat.lt_of_lt_of_le hag x.le
 have his:=fun W (x:Ext w W) (y:Ext w5 W)=>HIS.out W x hV w4.heap.size _ R (hR.ext y) (by omega) hM
 rw [←hna] at his ⊢
 have HIS2:=Lib.hid his
 clear hf hno hF hV hL hA hM hR hI ea3 ea4 hag hpos hlR hna his HIS hx5 HRU HBIG HEV
 go_upto_region 6 with fail
 refine boxed1 (w:=w5) (G:=fun x=>Code.wp _ _ _ _ x) ?_
 intro w6 hx56 hs6 ⟨l9,c9,_,k9⟩
 have HB9:=Lib.hid (show Hold w6 w5.heap.size _ from k9)
 have hx66:Ext w6 w6:=Ext.refl _
 have hxw6:=hxw5.trans hx56
 have hx16:=hx15.trans hx56
 clear hs6 k9
 go_wp2_with fail
 go_at_call 37
 refine (HIS2.out w6 hxw6 hx56).mono ?_
 rintro e w7 ⟨rfl,hx67⟩
 have hxw7:=hxw6.trans hx67
 have hx17:=hx16.trans hx67
 have hx57:=hx56.trans hx67
 have hva:=bool_fix (HVA.out w7 hxw7 HB.out) (b:=true) ⟨fun _=>HF.out,fun _=>rfl⟩
 go_wp2_with fail
 go_at_call 20
 refine hva.mono ?_
 rintro e w8 ⟨rfl,hx8⟩
 have hxw8:=hxw7.trans hx8
 have hx18:=hx17.trans hx8
 have hx58:=hx57.trans hx8
 have hx68:=hx67.trans hx8
 clear hva hx8 HIS2 HVA
 have h88:Ext w8 w8:=Ext.refl _
 go_wp2_with fail
 go_loopg [66] na (fun gg v66 wr=>∃ i:Nat,i≤na∧gg=na - i∧v66=.int .i64 i∧Ext w8 wr)
 case atStart=>exact ⟨0,by omega,rfl,rfl,h88⟩
 case round=>
  clear h88
  obtain ⟨i,hi,rfl,rfl,hx8r⟩:=hrel
  have hxwr:=hxw8.trans hx8r
  have hx1r:=hx18.trans hx8r
  have hx5r:=hx58.trans hx8r
  have hx6r:=hx68.trans hx8r
  by_cases hin:i<na
  case neg=>
   have hin3:na=i:=by omega
   subst hin3
   go_wp2_with fail
   go_at_call 19
   refine (HNX.out wr hxwr ea E.s.b E.s.o en E.s.c E.z (HEN.out.ext hxwr)).mono ?_
   rintro e wb ⟨hxb,r,hr,hp⟩
   have hxwb:=hxwr.trans hxb
   have hx1b:=hx1r.trans hxb
   have hx5b:=hx5r.trans hxb
   have hx6b:=hx6r.trans hxb
   have hcon:=HCO.out wb hxwb ea E.s.b E.s.o en E.s.c E.z (HEN.out.ext hxwb)
   have HRR:=Lib.hid hr
   rcases hp with ⟨hr0,rfl⟩ | ⟨hr0,hnc,rfl⟩ | ⟨hr0,hyc,aN,cN,rfl,hqN⟩
   ·have d1:(r == 0)=false:=by simpa using hr0
    have d1':(r != 0)=true:=by simpa using hr0
    have hco:=bool_fix hcon (b:=false) ⟨fun h=>(by cases h),fun h=>absurd (HRR.out.uniq h.1 Iff.rfl Iff.rfl) hr0⟩
    clear hcon hr hr0
    go_wp2_with fail
    go_at_call 21
    refine hco.mono ?_
    rintro e wz ⟨rfl,hxz⟩
    clear hco
    go_wp2_with fail
    go_ret
    exact ⟨rfl,(hxwb.trans hxz)⟩
   ·have hco:=bool_fix hcon (b:=false) ⟨fun h=>(by cases h),fun h=>absurd h.2 hnc⟩
    clear hcon hr hr0 hnc
    go_wp2_with fail
    go_at_call 21
    refine hco.mono ?_
    rintro e wz ⟨rfl,hxz⟩
    clear hco
    go_wp2_with fail
    go_ret
    exact ⟨rfl,(hxwb.trans hxz)⟩
   ·subst hr0
    have hco:=bool_fix hcon (b:=true) ⟨fun _=>⟨HRR.out,hyc⟩,fun _=>rfl⟩
    obtain rfl:en=T.n:=hr.ok.1.2
    have hpcE:=pcut_of HL.out hyc.1 hyc.2
    have HPE:=Lib.hid hpcE
    have HYC:=Lib.hid hyc
    obtain ⟨ln,hln⟩:∃ z,z=(T.toTr.pnL D.l (fun p=>(E.z p).toNat) T.n).length:=⟨_,rfl⟩
    have HLN:=Lib.hid hln
    rw [←hln]
    clear hcon hr hyc hpcE hqN hln
    by_cases hl0:0<ln
    ·have d1:decide ((0:Int)<(ln:Int))=true:=decide_eq_true (by omega)
     have d1':decide (0<ln)=true:=decide_eq_true hl0
     go_wp2_with fail
     go_at_call 21
     refine hco.mono ?_
     rintro e wz ⟨rfl,hxz⟩
     clear hco
     go_wp2_with fail
     go_ret
     exact ⟨rfl,(hxwb.trans hxz)⟩
    have d1:decide ((0:Int)<(ln:Int))=false:=decide_eq_false (by omega)
    have d1':decide (0<ln)=false:=decide_eq_false hl0
    have hnil:T.toTr.pnL D.l (fun p=>(E.z p).toNat) T.n=[]:=List.length_eq_zero_iff.1 (by rw [←HLN.out];omega)
    have hfull:=pnL_nil HV.out HL.out HA.out HPE.out hnil
    obtain ⟨rm,hrm⟩:∃ z,z=na - 1:=⟨_,rfl⟩
    have hrmR:rm<R.length:=by have:=HNA.out;omega
    obtain ⟨g9,o9,cc9,hn9,hr9⟩:=HROW.out rm hrmR
    have hlastl:∀ p,p<T.n→fn R[rm].l p=T.en p:=fun p hp=>HM.out.e R[rm].l (by rw [List.length_map,List.getElem?_map,show R.length - 1=rm from by rw [hrm,HNA.out],List.getElem?_eq_getElem hrmR];rfl) p hp
    have heq:=fun W (x:Ext w W) (y:Ext w5 W)=>bool_fix (eqi_any W ea (some ⟨g9,o9,none⟩) E.s.b E.s.o g9 o9 T.n T.n E.s.c cc9 E.z (natV (fn R[rm].l)) (HEN.out.ext x) (hn9 W y)) (b:=true) ⟨fun _=>⟨rfl,fun p hp=>by
     have h1:=hfull p hp
     have h2:=HYC.out.1.2.1 p hp
     have h3:=hlastl p hp
     simp only [natV]
     rw [h3];omega⟩,fun _=>rfl⟩
    have HEQ:=Lib.hid heq
    have hw9:IntKind.i64.wrap ((na:Int) - 1)=(rm:Int):=by rw [IntWalk.i64_in _ (by omega)];omega
    have hw8:(na:Int) - 1=(rm:Int):=by omega
    have hw7:IntKind.i64.wrap (rm:Int)=(rm:Int):=IntWalk.i64_in _ (by omega)
    have hrm':(rm:Int)<(na:Int):=by omega
    clear heq hn9 hlastl hfull hnil hrm
    go_wp2_with fail
    go_at_call 21
    refine hco.mono ?_
    rintro e wz ⟨rfl,hxz⟩
    have hxwz:=hxwb.trans hxz
    have hx5z:=hx5b.trans hxz
    have hx6z:=hx6b.trans hxz
    have he2:=HEQ.out wz hxwz hx5z
    clear hco
    go_wp2_with fail
    go_at_call 22
    refine he2.mono ?_
    rintro e wy ⟨rfl,hxy⟩
    clear he2
    go_wp2_with fail
    go_ret
    exact ⟨rfl,(hxwz.trans hxy)⟩
  have hin':(i:Int)<(na:Int):=by omega
  have hiR:i<R.length:=by rw [←HNA.out];exact hin
  obtain ⟨g,o,cc,hgn,hgr⟩:=HROW.out i hiR
  obtain ⟨hpc,hpe⟩:=HCUT.out i hiR
  have HPE:=Lib.hid hpe
  have HPC:=Lib.hid hpc
  have HGN:=Lib.hid hgn
  have e0:=hgr
  have hcy:=cut_yes HF.out hpc
  clear hgn hgr hpe hpc
  go_upto_region 13 with fail
  refine boxed2 (w:=wr) (G:=fun x=>Code.wp _ _ _ _ x) ?_
  intro wa hxa hsa ⟨l11,c11,_,k11⟩ ⟨l12,c12,_,k12⟩
  have HB11:=Lib.hid (show Hold wa wr.heap.size _ from k11)
  have HB12:=Lib.hid (show Hold wa (wr.heap.size+1) _ from k12)
  have hxwa:=hxwr.trans hxa
  have hx1a:=hx1r.trans hxa
  have hx5a:=hx5r.trans hxa
  have hx6a:=hx6r.trans hxa
  have hx8a:=hx8r.trans hxa
  have haa:Ext wa wa:=Ext.refl _
  clear hsa k11 k12 e0
  have hco:=bool_fix (HCO.out wa hxwa (some ⟨g,o,none⟩) g o T.n cc (natV (fn R[i].l)) (HGN.out wa hx5a)) (b:=true) ⟨fun _=>hcy,fun _=>rfl⟩
  go_wp2_with fail
  go_at_call 21
  refine hco.mono ?_
  rintro e wb ⟨rfl,hxab⟩
  have hxwb:=hxwa.trans hxab
  have hx1b:=hx1a.trans hxab
  have hx5b:=hx5a.trans hxab
  have hx6b:=hx6a.trans hxab
  have hx8b:=hx8a.trans hxab
  clear hco
  go_wp2_with fail
  go_at_call 19
  refine (HNX.out wb hxwb (some ⟨g,o,none⟩) g o T.n cc (natV (fn R[i].l)) (HGN.out wb hx5b)).mono ?_
  rintro e wc ⟨hxbc,r,hr,hp⟩
  have hxac:=hxab.trans hxbc
  have hxwc:=hxwb.trans hxbc
  have hx1c:=hx1b.trans hxbc
  have hx5c:=hx5b.trans hxbc
  have hx6c:=hx6b.trans hxbc
  have hx8c:=hx8b.trans hxbc
  obtain rfl:r=0:=hr.uniq hcy.1 (by simp) Iff.rfl
  obtain ⟨aN,cN,rfl,hqN⟩:∃ (a:Option Addr) (c:Nat),e=.returned (.tuple #[.slice a (T.toTr.pnL D.l (fn R[i].l) T.n).length c,.int .i64 0])∧Que wc wb.heap.size 1 (.slice a (T.toTr.pnL D.l (fn R[i].l) T.n).length c) (T.toTr.pnL D.l (fn R[i].l) T.n).length (intCells (natInts (T.toTr.pnL D.l (fn R[i].l) T.n))):=by
   have hfe:(fun p=>(natV (fn R[i].l) p).toNat)=fn R[i].l:=funext fun p=>by simp [natV]
   rw [hfe] at hp
   rcases hp with ⟨h1,_⟩ | ⟨_,h1,_⟩ | ⟨_,_,h1⟩
   ·exact absurd rfl h1
   ·exact absurd hcy.2 h1
   ·exact h1
  obtain ⟨ln,hln⟩:∃ z,z=(T.toTr.pnL D.l (fn R[i].l) T.n).length:=⟨_,rfl⟩
  have HLN:=Lib.hid hln
  have HQN:=Lib.hid hqN
  have hln8:ln≤8:=by rw [hln];have:=T.toTr.pnL_len D.l (fn R[i].l) T.n;omega
  have hli:ln=0↔i+1=na:=by rw [hln,HNA.out,←HPE.out];exact List.length_eq_zero_iff
  rw [←hln]
  have hw9:IntKind.i64.wrap ((na:Int) - 1)=(na:Int) - 1:=IntWalk.i64_in _ (by omega)
  have hw8:IntKind.i64.wrap ((i:Int)+1)=(i:Int)+1:=IntWalk.i64_in _ (by omega)
  clear hcy hr hp hqN hln
  by_cases hlast:i+1=na
  ·have hl0:ln=0:=hli.2 hlast
   have d1:((ln:Int) == 0)=true:=by rw [beq_iff_eq];omega
   have d2:((i:Int) == (na:Int) - 1)=true:=by rw [beq_iff_eq];omega
   have d3:decide ((i:Int)+1<(na:Int))=false:=decide_eq_false (by omega)
   have d3':decide (i+1<na)=false:=decide_eq_false (by omega)
   clear hli
   go_wp2_with fail
   go_roundg (na - (i+1))
   case rel=>exact ⟨i+1,by omega,rfl,by go_num,hx8c⟩
   case measure=>omega
  have hl0:0<ln:=Nat.pos_of_ne_zero fun h=>hlast (hli.1 h)
  have d1:((ln:Int) == 0)=false:=by rw [beq_eq_false_iff_ne];omega
  have d2:((i:Int) == (na:Int) - 1)=false:=by rw [beq_eq_false_iff_ne];omega
  have d3:decide ((i:Int)+1<(na:Int))=true:=decide_eq_true (by omega)
  have d3':decide (i+1<na)=true:=decide_eq_true (by omega)
  have hi1:i+1<R.length:=by rw [←HNA.out];omega
  obtain ⟨g2,o2,cc2,hgn2,hgr2⟩:=HROW.out (i+1) hi1
  have hq1:=HQN.out
  rw [←HLN.out] at hq1
  obtain ⟨aN',bg,bo,cN',hv1,_,hb1,hb2⟩:=hq1.cells1
  simp only [Value.slice.injEq] at hv1
  obtain ⟨rfl,_,rfl⟩:=hv1
  have hcf:=has_int wc aN bg bo ln cN (fun j=>.int .i64 (((T.toTr.pnL D.l (fn R[i].l) T.n).getD j 0:Nat))) 39 #[.pointer (some ⟨wr.heap.size+1,0,none⟩),.pointer (some ⟨w5.heap.size,0,none⟩),.pointer (some ⟨wr.heap.size,0,none⟩)]
   (fun j=>eqUp T.n (fn R[i+1].l) (fn R[i].l) ((T.toTr.pnL D.l (fn R[i].l) T.n).getD j 0)) (by omega) (fun h=>(hb1 h).1) (fun w' x j hj=>by
    refine x.cell ((hb2 j hj).trans ?_)
    exact natInts_get (by rw [List.getD_eq_getElem?_getD,List.getElem?_eq_getElem (by rw [←HLN.out];exact hj)];rfl)) (enters_of Tryz.func39 (by kernel_rfl) rfl)
   (fun j hj w' x=>by
    have hjl:j<(T.toTr.pnL D.l (fn R[i].l) T.n).length:=by rw [←HLN.out];exact hj
    have hq:(T.toTr.pnL D.l (fn R[i].l) T.n).getD j 0<T.n:=by rw [getD_get hjl];exact (Tr.mem_pnL.1 (List.getElem_mem hjl)).1
    exact rruns1 w' T.n (wr.heap.size+1) w5.heap.size wr.heap.size ag ao na ac i g o cc g2 o2 cc2 (fn R[i].l) (fn R[i+1].l) (HB12.out.ext (hxac.trans x)) (HB9.out.ext (hx6c.trans x)) (HB11.out.ext (hxac.trans x)) (by omega) (by omega) (gl w' (hx5c.trans x)) (hgr2 w' (hx5c.trans x)) (HGN.out w' (hx5c.trans x)) (hgn2 w' (hx5c.trans x)) (by omega) _ hq (by have h1:=HPC.out.cut.le _ hq;have h2:=HV.out.en64 hq;omega))
  obtain ⟨j,hj,hje⟩:=HSTP.out i hi1
  rw [anyB_hit (p:=fun j=>eqUp T.n (fn R[i+1].l) (fn R[i].l) ((T.toTr.pnL D.l (fn R[i].l) T.n).getD j 0)) (k:=j) (by rw [HLN.out];exact hj) hje] at hcf
  clear hj hje hq1 hb1 hb2 hgn2 hgr2 hli
  go_wp2_with fail
  go_at_call 38
  refine hcf.mono ?_
  rintro e wd ⟨rfl,hxd⟩
  have hx8d:=hx8c.trans hxd
  clear hcf
  go_wp2_with fail
  go_roundg (na - (i+1))
  case rel=>exact ⟨i+1,by omega,rfl,by go_num,hx8d⟩
  case measure=>omega
set_option maxRecDepth 100000 in
theorem lifted (os : Os) (started : os.Started) (H : Type) (enc : TypeId × Value → H) :
    ReturnsInHanded {} Tryz.checked os 7 .any (Rows.replayRunsSpec.pre6 enc Tryz.prog Tryz.f7 Rows.replayRunsRow.domain false) (Rows.replayRunsSpec.post enc Tryz.prog Tryz.f7 false true false false):=by
 refine returnsInHanded_of_change_sized (C:=Tryz.checked) own14 started (by kernel_rfl) Tryz.func7
  (ChangeSpec.witness6 (enc:=enc) (C:=Tryz.checked) false ⟨#[],#[.agg #[.slice none 0 0],.slice none 0 0,.slice none 0 0,.slice none 0 0],[]⟩ 8 (by kernel_rfl) (by kernel_rfl) (by kernel_rfl) (by kernel_rfl)) ?_
 intro W base args ds gs before hval0 hW _ hsz0 _
 have hsz1:(DataW.weightsEach Tryz.prog (Tryz.f7.params.toList++Rows.replayRunsSpec.plain.varTypes Tryz.prog) (ds++gs)).all (·≤reachBytes)=true:=hsz0
 clear hsz0
 have hval:∀ (j:Nat) t v,Tryz.f7.params[j]?=some t→args[j]?=some v→Value.okWide Tryz.prog W .any base t v:=hval0
 have hW':=hW
 obtain ⟨p,q,hA0,hV,rfl,hfz,hnd⟩:=hW
 have hA:DataW.TrodAll enc Tryz.prog W 0 (fun _=>true) true Tryz.f7.params.toList args.toList ds p:=hA0
 rw [Tryz.params7] at hA hval hsz1
 obtain ⟨v0,vs0,d0,ds0,p0,q0,hargs,rfl,rfl,h0,r0⟩:=trodAll_cons hA
 obtain ⟨v1,vs1,d1,ds1,p1,q1,rfl,rfl,rfl,h1,r1⟩:=trodAll_cons r0
 obtain ⟨v2,vs2,d2,ds2,p2,q2,rfl,rfl,rfl,h2,r2⟩:=trodAll_cons r1
 obtain ⟨v3,vs3,d3,ds3,p3,q3,rfl,rfl,rfl,h3,r3⟩:=trodAll_cons r2
 obtain ⟨rfl,rfl,rfl⟩:=trodAll_nil r3
 obtain rfl:args=#[v0,v1,v2,v3]:=by cases args;simp_all
 obtain ⟨rfl,rfl⟩:=trodVars_none hV
 obtain ⟨T0,rfl,hT0⟩:=arg_trace (hval 0 24 v0 rfl rfl) h0 (small_of hsz1 (j:=0) rfl rfl)
 obtain ⟨D1,rfl,hD1⟩:=arg_syncs (hval 1 25 v1 rfl rfl) h1 (small_of hsz1 (j:=1) rfl rfl)
 obtain ⟨C2,rfl,hC2⟩:=arg_ints (hval 2 39 v2 rfl rfl) h2 (small_of hsz1 (j:=2) rfl rfl)
 obtain ⟨C3,rfl,hC3⟩:=arg_ints (hval 3 39 v3 rfl rfl) h3 (small_of hsz1 (j:=3) rfl rfl)
 clear hA0 hval0 hsz1
 simp only [List.append_nil] at hW'
 have hl3:∀ x∈p3,x.block<W.heap.size:=fun x hx=>hW'.lt x (by simp [hx])
 have hl2:∀ x∈p2,x.block<W.heap.size:=fun x hx=>hW'.lt x (by simp [hx])
 have hl1:∀ x∈p1,x.block<W.heap.size:=fun x hx=>hW'.lt x (by simp [hx])
 have hl0:∀ x∈p0,x.block<W.heap.size:=fun x hx=>hW'.lt x (by simp [hx])
 refine (walk T0 D1 C2 C3 W hT0 hD1 hC2 hC3).mono fun e W' ⟨he,hg⟩=>?_
 subst he
 exact ⟨_,rfl,post_ext1 (pa:=(p0++(p1++(p2++(p3++[]))))) (pv:=[]) hW' (fun _ _ _=>(trodAll_cons_mk (shut_bool Tryz.underlying4 _) trodAll_mk0)) (trodAll_cons_mk (Below.trod laid14 (by kernel_rfl) (of_decide_eq_true (by kernel_rfl)) h0 hg.below hl0) (trodAll_cons_mk (Below.trod laid14 (by kernel_rfl) (of_decide_eq_true (by kernel_rfl)) h1 hg.below hl1) (trodAll_cons_mk (Below.trod laid14 (by kernel_rfl) (of_decide_eq_true (by kernel_rfl)) h2 hg.below hl2) (trodAll_cons_mk (Below.trod laid14 (by kernel_rfl) (of_decide_eq_true (by kernel_rfl)) h3 hg.below hl3) trodAll_mk0)))) rfl hg⟩
theorem j0:(Rows.replayRunsRow.wf (OpenSpec.ofChange Rows.replayRunsSpec))=true:=by kernel_rfl
theorem j1:(laidOutB Tryz.pinned.checked.prog)=true:=by kernel_rfl
theorem j2:(mapsRowed Tryz.pinned.checked.prog)=true:=by kernel_rfl
theorem j3:(Tryz.f7.params.all (Tryz.pinned.checked.prog.readableRec ·))=true:=by kernel_rfl
theorem j4:(namedTie Tryz.pinned.checked.prog Rows.replayRunsRow.named Rows.replayRunsSpec.vars)=true:=by kernel_rfl
theorem j5:(Rows.replayRunsRow.stops == [])=true:=by kernel_rfl
theorem j6:(Tryz.pinned.checked.prog.stops == [])=true:=by kernel_rfl
theorem j7:(Rows.replayRunsRow.knobs == [])=true:=by kernel_rfl
theorem j8:(Tryz.pinned.checked.prog.stopKnobs == [])=true:=by kernel_rfl
theorem j9:(Rows.replayRunsRow.inPlace == Tryz.pinned.checked.prog.inPlace 7)=true:=by kernel_rfl
theorem j10:(Rows.replayRunsRow.unfollowed == Tryz.pinned.checked.prog.unfollowed 7)=true:=by kernel_rfl
theorem j11:(Rows.replayRunsRow.recurses == Tryz.pinned.checked.prog.recurses 7)=true:=by kernel_rfl
theorem j12:(Rows.replayRunsRow.named == Tryz.pinned.checked.prog.varsNamed 7)=true:=by kernel_rfl
theorem j13:(Rows.replayRunsRow.maps == (Tryz.f7.params.toList++Rows.replayRunsSpec.plain.varTypes Tryz.pinned.checked.prog).any (Tryz.pinned.checked.prog.mapsRec ·))=true:=by kernel_rfl
theorem j14:(Rows.replayRunsRow.ifaces == (Tryz.f7.params.toList++Rows.replayRunsSpec.plain.varTypes Tryz.pinned.checked.prog).any (Tryz.pinned.checked.prog.ifacesRec ·))=true:=by kernel_rfl
theorem j15:(Rows.replayRunsRow.mapsOut == Tryz.pinned.checked.prog.mapsAmong Tryz.f7.resultTypes.toList)=true:=by kernel_rfl
theorem j16:(Rows.replayRunsRow.loops == (Tryz.f7.params.toList++Rows.replayRunsSpec.plain.varTypes Tryz.pinned.checked.prog).any (Tryz.pinned.checked.prog.loopsFrom ·))=true:=by kernel_rfl
theorem j17:(Rows.replayRunsRow.wideKeys == (Tryz.f7.params.toList++Rows.replayRunsSpec.plain.varTypes Tryz.pinned.checked.prog++Tryz.f7.resultTypes.toList).any (Tryz.pinned.checked.prog.wideKeysFrom ·))=true:=by kernel_rfl
theorem j18:(Rows.replayRunsSpec.vars.all (Tryz.pinned.checked.prog.varReadable ·))=true:=by kernel_rfl
theorem j19:(Tryz.f7.resultTypes.all (fun t=>Tryz.pinned.checked.prog.readableRec t && decide (t<Tryz.pinned.checked.prog.types.size)))=true:=by kernel_rfl
theorem j20:(Rows.replayRunsRow.ifacesOut == Tryz.f7.resultTypes.toList.any (Tryz.pinned.checked.prog.ifacesRec ·))=true:=by kernel_rfl
theorem j21:(Rows.replayRunsRow.loopsOut == Tryz.f7.resultTypes.toList.any (Tryz.pinned.checked.prog.loopsFrom ·))=true:=by kernel_rfl
theorem j22:(Rows.replayRunsRow.plainKeys == Tryz.pinned.checked.prog.plainKeys)=true:=by kernel_rfl
theorem j23:(Rows.replayRunsRow.shortTexts.isNone)=true:=by kernel_rfl
theorem j24:(Tryz.pinned.checked.prog.stopsHeard)=true:=by kernel_rfl
theorem j25:(Tryz.pinned.checked.prog.mayEnter)=true:=by kernel_rfl
theorem j26:(Rows.replayRunsRow.lifted == Tryz.pinned.checked.prog.liftsFinal)=true:=by kernel_rfl
theorem j27:(Tryz.pinned.checked.prog.make == some Rows.replayRunsRow.make)=true:=by kernel_rfl
theorem j28:(Rows.replayRunsRow.kinds == (if Rows.replayRunsRow.domain.isEmpty then [] else Tryz.f7.params.toList.map fun t=>match Tryz.pinned.checked.prog.underlying t with | some (.int k)=>some k | _=>none))=true:=by kernel_rfl
theorem j29:(Rows.replayRunsRow.pinned == Rows.replayRunsRow.pinnedBy)=true:=by kernel_rfl
theorem j30:(Rows.replayRunsRow.veiled == (Tryz.f7.params.toList++Rows.replayRunsSpec.plain.varTypes Tryz.pinned.checked.prog++Tryz.f7.resultTypes.toList).any (Tryz.pinned.checked.prog.veiledRec ·))=true:=by kernel_rfl
theorem j31:(Rows.replayRunsRow.veiledFits Tryz.pinned.checked.prog Tryz.f7.params.toList (Tryz.f7.params.toList++Rows.replayRunsSpec.plain.varTypes Tryz.pinned.checked.prog++Tryz.f7.resultTypes.toList))=true:=by kernel_rfl
set_option maxRecDepth 100000 in
theorem closed:joinedFacts Tryz.pinned.checked.prog 7 Tryz.f7 Rows.replayRunsSpec Rows.replayRunsRow=true:=by
 unfold joinedFacts
 rw [j0,j1,j2,j3,j4,j5,j6,j7,j8,j9,j10,j11,j12,j13,j14,j15,j16,j17,j18,j19,j20,j21,j22,j23,j24,j25,j26,j27,j29,j30,j31]
 simp only [Bool.true_and,Bool.and_true]
 first | exact j28 | kernel_rfl
theorem over:Rows.replayRunsRow.holds Tryz.pinned (OpenSpec.ofChange Rows.replayRunsSpec):=
 OpenClaim.holds_of_wide 7 Tryz.f7 rfl rfl rfl rfl rfl rfl rfl ⟨rfl,rfl,rfl,rfl,rfl⟩ rfl rfl rfl rfl rfl (by kernel_rfl) Tryz.func7 closed
  (of_decide_eq_true (by kernel_rfl)) (by unfold Func.isWrapper;first | (rw [if_pos (by decide +kernel)];kernel_rfl) | (rw [if_neg (by decide +kernel)];exact ⟨rfl,rfl⟩))
  (fun os started H enc _=>lifted os started H enc)
theorem proved:Rows.ReplayRunsSaid:=
 over
#print axioms proved
end Go.Proofs.YtkhgpockmaghjaaGreat.replayRuns
