/- Contracts and laws in plain Lean for RLis: group W77. -/
import Derived.Test.YtkhgpockmaghjaaGreatW76
import Derived.Test.YtkhgpockmaghjaaGreatW64
import Derived.Test.YtkhgpockmaghjaaGreatW73
namespace Go.Proofs.YtkhgpockmaghjaaGreat
open Go.RowKit Go.Shelf
attribute [local go_sem] Oper.semAt_some
set_option maxRecDepth 100000 in
set_option maxHeartbeats 8000000 in
theorem rrun_any (w : World) (T : TM) (hT : T.At w) (D : SyD) (hD : D.At w) (ca : Option Addr) (cg co nc cc : Nat) (ch : Nat → Int) (hC : NumAt w nc ca cg co ch) (hch : ∀ i, i < nc → okI (ch i)) :
    Calls Tryz.prog 27 #[T.val,.slice D.s.a D.s.n D.s.c,.slice ca nc cc] w (PRunPost T.toTr D.l nc ch w):=by
 obtain ⟨i0,hi0,hz0,hz1,hz2⟩:=info_parts infoInt
 obtain ⟨j0,hj0,hy0,hy1,hy2⟩:=info_parts infoInts1
 have HNGA:=Lib.hid (fun W (h:Ext w W)=>rnegative_any W ca cg co nc cc ch (hC.ext h))
 have HFT:=Lib.hid (fun W (h:Ext w W) (b:Bool)=>rfault45_any W T (hT.ext h) D (hD.ext h) b)
 have HEN:=Lib.hid (fun W (h:Ext w W) (hV:T.toTr.Valid) (hL:SynOk T.toTr D.l) g o cap (c:Nat→Nat) (hC:NumAt W T.n (some ⟨g,o,none⟩) g o (natV c)) (hc:∀ p,p<T.n→c p≤T.en p)=>rnext45_any W T (hT.ext h) hV D (hD.ext h) hL (some ⟨g,o,none⟩) g o cap c hC hc)
 have HCH:=Lib.hid hC
 have HOK:=Lib.hid hch
 have hcn:=hC.hn
 unfold PRunPost
 obtain ⟨ta,hta⟩:∃ z,z=T.a:=⟨_,rfl⟩
 obtain ⟨da,hda⟩:∃ z,z=D.s.a:=⟨_,rfl⟩
 obtain ⟨dn,hdn⟩:∃ z,z=D.s.n:=⟨_,rfl⟩
 simp only [TM.val,←hta] at HFT HEN ⊢
 rw [←hda,←hdn] at HFT HEN
 rw [←hda,←hdn]
 obtain ⟨NG,hNG⟩:∃ P:Prop,P=(∃ i,i<nc∧ch i<0):=⟨_,rfl⟩
 have HNI:=Lib.hid hNG
 rw [←hNG] at HNGA
 rw [←hNG]
 clear hT hD hC hch hta hda hdn hNG
 go_enter Tryz.func27,Tryz.ntmps27
 go_upto_region 1 with fail
 refine boxed1 (w:=w) (G:=fun x=>Code.wp _ _ _ _ x) ?_
 intro w1 hx1 hs1 ⟨l0,c0,_,_⟩
 have hx11:Ext w1 w1:=Ext.refl _
 clear hs1
 refine wp_region_held_drew (S:=fun w'=>Ext w1 w') (by kernel_rfl) (Ext.refl _).drew (fun hHeld=>?_)
 refine hQ 0 (v:=?_) rfl (y:=.inl ⟨by rfl,?_⟩) (h:=?_)
 rotate_left
 ·(intro w' hSw;(try dsimp only at hSw);have hSS:=Ext.refl w';go_simp;try with_reducible rfl)
 try simp only [Act.put,zA,zB,zC]
 refine hQ 1 (v:=?_) rfl (y:=.inl ⟨by rfl,?_⟩) (h:=?_)
 rotate_left
 ·(intro w' hSw;(try dsimp only at hSw);have hSS:=Ext.refl w';go_simp;try with_reducible rfl)
 try simp only [Act.put,zA,zB,zC]
 refine hQ 2 (v:=?_) rfl (y:=.inl ⟨by rfl,?_⟩) (h:=?_)
 rotate_left
 ·(intro w' hSw;(try dsimp only at hSw);have hSS:=Ext.refl w';go_simp;try with_reducible rfl)
 try simp only [Act.put,zA,zB,zC]
 refine wpAnyH_ready (rs:=[3]) (by kernel_rfl) (by simp) ?_
 refine AllReadyH.cons rfl (fun K hK=>?_) AllReadyH.nil
 go_simp
 go_at_call 73
 refine (HNGA.out w1.drew hx1.drew).mono ?_
 rintro e w2 ⟨bn,rfl,hbn,hx2⟩
 have hx12:Ext w1 w2:=(Ext.refl w1).drew.trans hx2
 refine hK.out _ _ ?_ (fun hHeld2=>?_)
 ·exact hx12
 clear hK K
 try simp only [Act.put,zA,zB,zC]
 have hft:=HFT.out w2 (hx1.trans hx12) bn
 refine wpAnyH_ready (rs:=[4]) (by kernel_rfl) (by simp) ?_
 refine AllReadyH.cons rfl (fun K hK=>?_) AllReadyH.nil
 go_simp
 go_at_call 13
 refine hft.mono ?_
 rintro e w3 ⟨hx3,r,rfl,hf⟩
 have hx13:=hx12.trans hx3
 refine hK.out _ _ ?_ (fun hHeld3=>?_)
 ·exact hx13
 clear hK K
 try simp only [Act.put,zA,zB,zC]
 have HF:=Lib.hid (show PFault T.toTr D.l True NG r from by rw [←propext hbn];exact hf)
 clear hf hft hbn
 refine wpAnyH_ready (rs:=[5]) (by kernel_rfl) (by simp) ?_
 refine AllReadyH.cons rfl (fun K hK=>?_) AllReadyH.nil
 go_simp
 refine hK.out _ _ ?_ (fun hHeld4=>?_)
 ·exact hx13
 clear hK K
 try simp only [Act.put,zA,zB,zC]
 refine wpAnyH_done (by kernel_rfl) ?_ _
 clear hHeld hHeld2 hHeld3 hHeld4 hx2 hx3 hx12
 have hxw3:=hx1.trans hx13
 by_cases h0:r=0
 case neg=>
  have d0:(r == 0)=false:=by simpa using h0
  have H0:=Lib.hid h0
  clear h0
  go_wp2_with fail
  go_ret2
  exact ⟨hxw3,.inl ⟨r,HF.out,H0.out,rfl⟩⟩
 subst h0
 obtain ⟨⟨hV,_⟩,hl,hL,hnO,hA⟩:=HF.out.ok
 have HV:=Lib.hid hV
 have HL:=Lib.hid hL
 have HNN:=Lib.hid hnO
 have HFF:=HF
 have hn8:=hV.n8
 have hn1:=hV.n1
 clear hV hL hl hnO hA
 go_upto_region 5 with (at_make;refine wpList_make_full _ rfl _ _ 39 rfl w3.heap.size 3 i0 (.int .i64 0) 1 Tryz.underlying39 hi0 hz0 hz1 .i64 .i64 _ _ T.n rfl rfl rfl rfl (by rw [hz2];omega) (by unfold maxLen;omega) (Nat.le_refl _) ?_;intro w7 hown2 hg2)
 have hx17:Ext w1 w7:=hx13.trans ((Below.refl _ _).grown hg2 (Nat.le_refl _) (by simp))
 have HR7:=Lib.hid (IntRow.made hown2)
 obtain ⟨g7,hg7⟩:∃ z,z=w3.heap.size:=⟨_,rfl⟩
 rw [←hg7] at HR7 ⊢
 have HG7:=Lib.hid (show w3.heap.size≤g7 from by omega)
 clear hown2 hg2 hg7
 go_upto_region 6 with fail
 refine boxed1 (w:=w7) (G:=fun x=>Code.wp _ _ _ _ x) ?_
 intro w8 hx8 hs8 ⟨_,_,_,k8⟩
 have hx18:=hx17.trans hx8
 have HST:=Lib.hid (show PRnI T.toTr D.l (chN nc ch) w1 (.slice (some ⟨g7,0,none⟩) T.n T.n) (.slice (some ⟨w7.heap.size,0,none⟩) 1 1) [⟨rowOf T.n fun _=>0,some ⟨g7,0,none⟩,g7,0,T.n⟩] w8 from by
  have hz:tot (fun _=>0) T.n=0:=by
   have:∀ n,tot (fun _=>0) n=0:=fun n=>by induction n with | zero=>rfl | succ n ih=>exact ih
   exact this _
  have hv:Row.val ⟨rowOf T.n fun _=>0,some ⟨g7,0,none⟩,g7,0,T.n⟩=.slice (some ⟨g7,0,none⟩) T.n T.n:=by show Value.slice _ (rowOf T.n fun _=>0).length _=_;rw [rowOf_len]
  have hg71:w1.heap.size≤g7:=by have h1:=hx13.le;have h2:=HG7.out;omega
  have hlt7:=HR7.out.lt
  refine ⟨⟨by show Que w8 _ 1 _ 1 [Row.val ⟨rowOf T.n fun _=>0,some ⟨g7,0,none⟩,g7,0,T.n⟩];rw [hv];exact Que.ofHold1 k8 hx17.le,fun x hx=>?_⟩,fun x hx=>?_,PRunP.one _ _ _,⟨_,rfl,hv.symm,⟨rowOf_len _ _,(PCut.zero HL.out).congr HL.out fun p hp=>fn_rowOf hp⟩,by rw [totS_congr (g:=fun _=>0) fun p hp=>fn_rowOf hp,hz];rfl⟩,fun x hx=>by obtain rfl:=List.mem_singleton.1 hx;exact rowOf_len _ _,fun b e=>?_,hx18⟩
  ·obtain rfl:=List.mem_singleton.1 hx
   show NumAt w8 (rowOf T.n fun _=>0).length _ g7 0 (natV (fn (rowOf T.n fun _=>0)))
   rw [rowOf_len]
   have h1:=(HR7.out.ext hx8).num (by omega)
   exact ⟨h1.hn,h1.pa,h1.pb,fun p hp=>by rw [h1.c p hp];show some (Value.int .i64 0)=some (Value.int .i64 ((fn (rowOf T.n fun _=>0) p:Nat):Int));rw [fn_rowOf hp];rfl⟩
  ·obtain rfl:=List.mem_singleton.1 hx
   refine ⟨fun e=>?_,hg71⟩
   have h9:w7.heap.size=g7:=by simpa [Value.ownBlock] using e
   have h8:g7<w7.heap.size:=hlt7
   omega
  ·have h9:w7.heap.size=b:=by simpa [Value.ownBlock] using e
   have:=Hold.lt (W:=w8) k8;omega)
 clear hs8 k8 hx8 hx17 hx18 hx13
 go_wp2_with fail
 go_loopg [9,10] (tot T.en T.n) (fun gg v9 v10 wr=>∃ (j:Nat) (R:List Row),R.length=j+1∧gg=tot T.en T.n - j∧PRnI T.toTr D.l (chN nc ch) w1 v9 v10 R wr)
 case atStart=>exact ⟨0,_,rfl,rfl,HST.out⟩
 case round=>
  obtain ⟨j,R,hRl,rfl,hI⟩:=hrel
  obtain ⟨a10,c10,rfl⟩:=hI.q.1.slice
  obtain ⟨r0,hr0,rfl,hcu0,htt0,hld0⟩:=hI.last
  have hx1r:=hI.x
  have hxwr:=hx1.trans hx1r
  obtain ⟨l,hl⟩:∃ z,z=r0.l:=⟨_,rfl⟩
  have HTT:=Lib.hid (show j≤tot T.en T.n∧j≤512 from by
   have h1:tot (fn r0.l) T.n≤tot T.en T.n:=totS_le fun p hp=>hcu0.2.cut.le p hp
   have h2:tot (fn r0.l) T.n≤512:=hcu0.cutL.small HV.out (Nat.le_refl _)
   omega)
  have hj512:j≤512:=HTT.out.2
  have HRA:=Lib.hid (hI.q.2 r0 hr0)
  have HLD:=Lib.hid (And.intro hr0 (And.intro hcu0 (And.intro htt0 hld0)))
  have HRN:=Lib.hid (show NumAt wr T.n r0.a r0.g r0.o (natV (fn l)) from by
   have h1:=HRA.out
   unfold Row.At at h1
   rw [hcu0.1,←hl] at h1;exact h1)
  have HLL:=Lib.hid (show PCutL T.toTr D.l l from by rw [hl];exact hcu0)
  have HLE:=Lib.hid hl
  have hv9:r0.val=.slice r0.a T.n r0.c:=by unfold Row.val;rw [hcu0.1]
  rw [hv9] at hI ⊢
  obtain ⟨ra,hra⟩:∃ z,z=r0.a:=⟨_,rfl⟩
  obtain ⟨g,hg⟩:∃ z,z=r0.g:=⟨_,rfl⟩
  obtain ⟨o,ho⟩:∃ z,z=r0.o:=⟨_,rfl⟩
  obtain ⟨rc,hrc⟩:∃ z,z=r0.c:=⟨_,rfl⟩
  rw [←hra,←hg,←ho] at HRN
  rw [←hra,←hrc] at hI ⊢
  obtain rfl:ra=some ⟨g,o,none⟩:=HRN.out.pa (by omega)
  obtain ⟨lr,hlr⟩:∃ z,z=R.length:=⟨_,rfl⟩
  have HLR:=Lib.hid hlr
  have HRL:=Lib.hid hRl
  have hlr5:lr≤513:=by omega
  have hw3:IntKind.i64.wrap ((lr:Int) - 1)=(j:Int):=by rw [IntWalk.i64_in _ (by omega)];omega
  rw [←hlr] at hI ⊢
  have HI:=Lib.hid hI
  have hen:=HEN.out wr hxwr HV.out HL.out g o rc (fn l) HRN.out (fun p hp=>HLL.out.2.cut.le p hp)
  obtain ⟨pn,hpn⟩:∃ z,z=T.toTr.pnL D.l (fn l) T.n:=⟨_,rfl⟩
  obtain ⟨m,hm⟩:∃ z,z=pn.length:=⟨_,rfl⟩
  have hm8:m≤8:=by rw [hm,hpn];have:=T.toTr.pnL_len D.l (fn l) T.n;omega
  rw [←hpn,←hm] at hen
  have HPN:=Lib.hid hpn
  have HML:=Lib.hid hm
  clear hI HST hRl hlr hra hg ho hrc hl hv9 HRA hr0 hcu0 htt0 hld0 hpn hm
  go_upto_region 7 with (go_at_call 23;refine hen.mono ?_;rintro e w12 ⟨hxr12,ve,rfl,hqe⟩;obtain ⟨ea,eg,eo,ec,rfl,_,hep,hec⟩:=Que.cells1 hqe)
  have HI12:=Lib.hid (HI.out.ext hxr12)
  have HEP:=Lib.hid hep
  have HEC:=Lib.hid hec
  have hx112:=hx1r.trans hxr12
  have hxw12:=hxwr.trans hxr12
  clear hqe hep hec hen
  by_cases hm0:m=0
  ·subst hm0
   have HFI:=Lib.hid (show IsPRun T.toTr D.l (chN nc ch) (R.map Row.l) from ⟨HI12.out.p,by rw [HLD.out.2.2.2,←HLE.out,←HPN.out];exact List.eq_nil_of_length_eq_zero HML.out.symm⟩)
   go_wp2_with fail
   go_ret2
   exact ⟨hxw12,.inr ⟨HFF.out,_,R,rfl,HI12.out.q.mono hx1.le,HFI.out⟩⟩
  have d0:((m:Int) == 0)=false:=by simp;omega
  have d0':(m == 0)=false:=by simp;omega
  have hnz:¬((m:Int)=0):=by omega
  have hm0p:0<m:=by omega
  obtain ⟨rfl,heg1,heg2⟩:=HEP.out hm0p
  obtain ⟨x,hx⟩:∃ z,z=chN nc ch j:=⟨_,rfl⟩
  obtain ⟨k,hk⟩:∃ z,z=x % m:=⟨_,rfl⟩
  have hkm:k<m:=by rw [hk];exact Nat.mod_lt _ hm0p
  have hkm':(k:Int)<(m:Int):=by omega
  have hkp:k<pn.length:=by rw [←HML.out];exact hkm
  obtain ⟨p,hp⟩:∃ z,z=pn[k]:=⟨_,rfl⟩
  have hpf:p<T.n∧fn l p<T.en p∧PCut T.toTr D.l (upC (fn l) p):=by
   have h1:pn[k]∈T.toTr.pnL D.l (fn l) T.n:=by rw [←HPN.out];exact List.getElem_mem hkp
   rw [hp];exact Tr.mem_pnL.1 h1
  have hpn:=hpf.1
  have HNE:=Lib.hid (show T.toTr.pnL D.l (fn r0.l) T.n≠[] from by
   rw [←HLE.out,←HPN.out];intro e;rw [e] at hkp;exact absurd hkp (Nat.not_lt_zero _))
  have HPST:=Lib.hid (show rowOf T.n (upC (fn l) p)=T.toTr.pstep D.l (chN nc ch) (R.length - 1) r0.l from by
   unfold Tr.pstep
   rw [HRL.out,show j+1 - 1=j by omega,←hx,←HLE.out,←HPN.out,←HML.out,←hk,List.getD_eq_getElem?_getD,List.getElem?_eq_getElem hkp,hp];rfl)
  have HTT2:=Lib.hid (show j+1≤tot T.en T.n from by
   have h1:tot (upC (fn l) p) T.n≤tot T.en T.n:=totS_le fun q hq=>hpf.2.2.cut.le q hq
   rw [upC_tot hpn,HLE.out] at h1
   have:=HLD.out.2.2.1
   have:=HRL.out
   omega)
  have HTT:=HTT2
  have ecell:∀ w',Ext w12 w'→w'.cell? ⟨eg,eo+k,none⟩=some (.int .i64 (p:Int)):=fun w' x=>by
   refine x.cell ?_
   rw [HEC.out k hkm,natInts_get (i:=k) (v:=p) (by rw [hp];exact List.getElem?_eq_getElem hkp)]
  have eb:∀ w',Ext w12 w'→eg<w'.heap.size:=fun w' x=>Nat.lt_of_lt_of_le heg2 x.le
  have h1212:Ext w12 w12:=Ext.refl _
  obtain ⟨cp,hcp⟩:∃ z,z=fn l p:=⟨_,rfl⟩
  have HCP:=Lib.hid hcp
  have hcp64:cp<64:=by have h1:=hpf.2.1;have h2:=HV.out.en64 hpn;rw [hcp];show fn l p<64;have h3:fn l p<T.toTr.en p:=h1;omega
  have hw1:IntKind.i64.wrap ((cp:Int)+1)=(cp:Int)+1:=IntWalk.i64_in _ (by omega)
  have hw2:IntKind.i64.wrap ((j:Int)+1)=(j:Int)+1:=IntWalk.i64_in _ (by omega)
  clear hpf hcp hp hkp hm0 HTT2
  by_cases hjc:j<nc
  ·have dj:(j:Int)<(nc:Int):=by omega
   have HX:=Lib.hid (show ch j=(x:Int)∧(x:Int)<9223372036854775808 from by
    have h1:¬ch j<0:=fun h=>HNN.out (by rw [HNI.out];exact ⟨j,hjc,h⟩)
    have h2:=HOK.out j hjc
    have h3:x=(ch j).toNat:=by rw [hx];unfold chN;rw [if_pos hjc]
    unfold okI at h2
    omega)
   have hmod:Int.tmod (x:Int) (m:Int)=(k:Int):=by rw [hk];rfl
   have hmod2:(x:Int) % (m:Int)=(k:Int):=by rw [hk];rfl
   have hwx:IntKind.i64.wrap (x:Int)=(x:Int):=IntWalk.i64_in _ (by have:=HX.out.2;omega)
   have hwk:IntKind.i64.wrap (k:Int)=(k:Int):=IntWalk.i64_in _ (by omega)
   obtain rfl:=HCH.out.pa (by omega)
   have cc0:∀ w',Ext w w'→w'.cell? ⟨cg,co+j,none⟩=some (.int .i64 (x:Int)):=fun w' y=>by rw [y.cell (HCH.out.c j hjc),HX.out.1]
   have cb0:∀ w',Ext w w'→cg<w'.heap.size:=fun w' y=>Nat.lt_of_lt_of_le (HCH.out.pb (by omega)) y.le
   clear hx hk
   have hstep:=rstep_any w12 (some ⟨g,o,none⟩) g o T.n rc (fn l) (HRN.out.ext hxr12) p hpn (by omega) (by rw [←HCP.out];omega)
   go_upto_region 13 with (go_at_call 40;refine hstep.mono ?_;rintro e w14 ⟨hx14,g5,o5,c5',rfl,hn5,hg5⟩)
   have HX14:=Lib.hid hx14
   have HN14:=Lib.hid (row_step (cap:=c5') hn5)
   have HI14:=Lib.hid (HI12.out.ext HX14.out)
   have hx114:=HI14.out.x
   have hxw14:=hx1.trans hx114
   have HGB:=Lib.hid (show w1.heap.size≤g5 from by have:=HI12.out.x.le;omega)
   have HGO:=Lib.hid (show (Value.slice a10 lr c10).ownBlock≠some g5 from fun e=>by have h1:=HI12.out.bb g5 e;omega)
   have h1414:Ext w14 w14:=Ext.refl _
   clear hstep hx14 hn5 hg5
   go_wp2_with (at_builtin;go_loud (refine wpList_append_que _ rfl _ _ 47 47 rfl (base:=w1.heap.size) (e:=39) (size:=1) j0 (.slice none 0 0) 24 Tryz.underlying47 hj0 hy0 hy1 hy2 rfl rfl (v:=.slice a10 lr c10) (n:=lr) (xs:=R.map Row.val) (by have h1:=(HI14.out.q.1.ext (Ext.alloc w14 (.cells #[.slice (some ⟨g5,o5,none⟩) T.n c5'] 39)));rw [←HLR.out] at h1;exact h1) (by rw [World.size_alloc];have:=hx114.le;omega) (.slice (some ⟨w14.heap.size,0,none⟩) 1 1) 1 [.slice (some ⟨g5,o5,none⟩) T.n c5'] rfl (by exact Src.ofSlice _ Tryz.underlying47 ⟨w14.heap.size,0,none⟩ 1 1 _ rfl (news_ok w14 _ _) (by intro u hu;simp at hu;subst hu;rfl)) (by unfold maxLen;omega) (by omega) ?_;rintro v15 w15 hq15 hg15 ho15))
   have HNF:=Lib.hid (show PRnI T.toTr D.l (chN nc ch) w1 (.slice (some ⟨g5,o5,none⟩) T.n c5') v15 (R++[⟨rowOf T.n (upC (fn l) p),some ⟨g5,o5,none⟩,g5,o5,c5'⟩]) w15 from by
    have h9:=(HI14.out.ext (Ext.alloc w14 (.cells #[.slice (some ⟨g5,o5,none⟩) T.n c5'] 39))).add (v':=v15) (w':=w15) (r0:=r0) (r:=⟨rowOf T.n (upC (fn l) p),some ⟨g5,o5,none⟩,g5,o5,c5'⟩) hn1 HLD.out.2.2.2 HNE.out HL.out HLD.out.2.2.1 (HN14.out.ext (Ext.alloc _ _)) HPST.out HGB.out HGO.out (by
     rw [←HLR.out]
     show Que w15 _ 1 v15 (lr+1) (R.map Row.val++[.slice (some ⟨g5,o5,none⟩) (rowOf T.n (upC (fn l) p)).length c5'])
     rw [rowOf_len];exact hq15) hg15 ho15
    have e:Row.val ⟨rowOf T.n (upC (fn l) p),some ⟨g5,o5,none⟩,g5,o5,c5'⟩=.slice (some ⟨g5,o5,none⟩) T.n c5':=by show Value.slice _ (rowOf T.n (upC (fn l) p)).length _=_;rw [rowOf_len]
    rw [e] at h9;exact h9)
   clear hq15 hg15 ho15
   go_roundg (tot T.en T.n - (j+1))
   case rel=>exact ⟨j+1,_,by rw [List.length_append,HRL.out];rfl,rfl,HNF.out⟩
   case measure=>have:=HTT.out;omega
  ·have dj:¬(j:Int)<(nc:Int):=by omega
   obtain rfl:k=0:=by rw [hk,hx];unfold chN;rw [if_neg hjc,Nat.zero_mod]
   have ecell0:∀ w',Ext w12 w'→w'.cell? ⟨eg,eo,none⟩=some (.int .i64 (p:Int)):=fun w' x=>ecell w' x
   clear hx hk
   have hstep:=rstep_any w12 (some ⟨g,o,none⟩) g o T.n rc (fn l) (HRN.out.ext hxr12) p hpn (by omega) (by rw [←HCP.out];omega)
   go_upto_region 13 with (go_at_call 40;refine hstep.mono ?_;rintro e w14 ⟨hx14,g5,o5,c5',rfl,hn5,hg5⟩)
   have HX14:=Lib.hid hx14
   have HN14:=Lib.hid (row_step (cap:=c5') hn5)
   have HI14:=Lib.hid (HI12.out.ext HX14.out)
   have hx114:=HI14.out.x
   have hxw14:=hx1.trans hx114
   have HGB:=Lib.hid (show w1.heap.size≤g5 from by have:=HI12.out.x.le;omega)
   have HGO:=Lib.hid (show (Value.slice a10 lr c10).ownBlock≠some g5 from fun e=>by have h1:=HI12.out.bb g5 e;omega)
   have h1414:Ext w14 w14:=Ext.refl _
   clear hstep hx14 hn5 hg5
   go_wp2_with (at_builtin;go_loud (refine wpList_append_que _ rfl _ _ 47 47 rfl (base:=w1.heap.size) (e:=39) (size:=1) j0 (.slice none 0 0) 24 Tryz.underlying47 hj0 hy0 hy1 hy2 rfl rfl (v:=.slice a10 lr c10) (n:=lr) (xs:=R.map Row.val) (by have h1:=(HI14.out.q.1.ext (Ext.alloc w14 (.cells #[.slice (some ⟨g5,o5,none⟩) T.n c5'] 39)));rw [←HLR.out] at h1;exact h1) (by rw [World.size_alloc];have:=hx114.le;omega) (.slice (some ⟨w14.heap.size,0,none⟩) 1 1) 1 [.slice (some ⟨g5,o5,none⟩) T.n c5'] rfl (by exact Src.ofSlice _ Tryz.underlying47 ⟨w14.heap.size,0,none⟩ 1 1 _ rfl (news_ok w14 _ _) (by intro u hu;simp at hu;subst hu;rfl)) (by unfold maxLen;omega) (by omega) ?_;rintro v15 w15 hq15 hg15 ho15))
   have HNF:=Lib.hid (show PRnI T.toTr D.l (chN nc ch) w1 (.slice (some ⟨g5,o5,none⟩) T.n c5') v15 (R++[⟨rowOf T.n (upC (fn l) p),some ⟨g5,o5,none⟩,g5,o5,c5'⟩]) w15 from by
    have h9:=(HI14.out.ext (Ext.alloc w14 (.cells #[.slice (some ⟨g5,o5,none⟩) T.n c5'] 39))).add (v':=v15) (w':=w15) (r0:=r0) (r:=⟨rowOf T.n (upC (fn l) p),some ⟨g5,o5,none⟩,g5,o5,c5'⟩) hn1 HLD.out.2.2.2 HNE.out HL.out HLD.out.2.2.1 (HN14.out.ext (Ext.alloc _ _)) HPST.out HGB.out HGO.out (by
     rw [←HLR.out]
     show Que w15 _ 1 v15 (lr+1) (R.map Row.val++[.slice (some ⟨g5,o5,none⟩) (rowOf T.n (upC (fn l) p)).length c5'])
     rw [rowOf_len];exact hq15) hg15 ho15
    have e:Row.val ⟨rowOf T.n (upC (fn l) p),some ⟨g5,o5,none⟩,g5,o5,c5'⟩=.slice (some ⟨g5,o5,none⟩) T.n c5':=by show Value.slice _ (rowOf T.n (upC (fn l) p)).length _=_;rw [rowOf_len]
    rw [e] at h9;exact h9)
   clear hq15 hg15 ho15
   go_roundg (tot T.en T.n - (j+1))
   case rel=>exact ⟨j+1,_,by rw [List.length_append,HRL.out];rfl,rfl,HNF.out⟩
   case measure=>have:=HTT.out;omega
end Go.Proofs.YtkhgpockmaghjaaGreat
