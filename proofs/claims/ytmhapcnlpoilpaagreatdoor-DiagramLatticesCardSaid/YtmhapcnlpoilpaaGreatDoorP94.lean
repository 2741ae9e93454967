/- Contracts and laws in plain Lean for RApp: group P94. -/
import Derived.Test.YtmhapcnlpoilpaaGreatDoorP93
import Derived.Test.YtmhapcnlpoilpaaGreatDoorP92
import Derived.Test.YtmhapcnlpoilpaaGreatDoorP36
import Derived.Deep.CutRange
import Derived.Laws.EntriesVeiled
import Derived.Test.YtmhapcnlpoilpaaGreatDoorP89
set_option maxRecDepth 100000
namespace Go.Proofs.YtmhapcnlpoilpaaGreatDoor
open Go.RowKit Go.Shelf
attribute [local go_sem] Oper.semAt_some
structure SlcD.GOk (S:SlcD) (n:Nat):Prop where
 fn:S.f.s.n=n
 ln:S.l.s.n=n
 hn:n≤100
 b:∀ p,p<n→0≤S.f.z p∧S.f.z p≤1000∧S.l.z p≤1000
 lz:∀ p,p<n→0≤S.l.z p
 has:∀ x,x∈ownL S.f.z S.l.z n→S.Has n x
 few:(ownL S.f.z S.l.z n).length≤39
abbrev SlcD.own (S:SlcD) (n:Nat):List EvE:=ownL S.f.z S.l.z n
abbrev SlcD.rows (S:SlcD) (n:Nat) (G:List (List EvE)):List Row:=G.map fun g=>S.row n (g.headD (0,0))
theorem SlcD.rows_new (S:SlcD) (n:Nat) (G:List (List EvE)) (x:EvE):S.rows n (putL (G++[[]]) x)=S.rows n G++[S.row n x]:=by
 rw [putL_snoc];simp [SlcD.rows]
theorem SlcD.rows_cont {S:SlcD} {n:Nat} {E:EvE→List Nat} {d:Nat→EvE} {k:Nat} {G:List (List EvE)} (h:GrpI n E d k G) (h0:0<k) (x:EvE):S.rows n (putL G x)=S.rows n G:=by
 obtain ⟨G0,g,rfl,hl⟩:=h.last h0
 rw [putL_snoc]
 cases g with
 | nil => cases hl
 | cons a t => simp [SlcD.rows]
theorem IsGrp.congr {n:Nat} {E:EvE→List Nat} {P Q:EvE→Prop} {G:List (List EvE)} (h:IsGrp n E P G) (hp:∀ x,P x↔Q x):IsGrp n E Q G:=
 ⟨h.ne,fun x=>(h.mem x).trans (hp x),h.srt,h.eq,h.bef⟩
theorem Que.evm {w:World} {base N c:Nat} {a:Option Addr} {l:List EvE} (h:Que w base 2 (.slice a N c) N (evCells l)) (h0:0<N) (hl:l.length=N):∃ g o,a=some ⟨g,o,none⟩∧base≤g∧EvM w g o N (fun k=>l.getD k (0,0)):=by
 rcases h.val with ⟨_,_,hz,_⟩ | ⟨g,off,cap,hv,h1,h2,h3,h4,h5,h6⟩
 ·omega
 ·cases hv
  have hge:∀ k (hk:k<N),l[k]'(by omega)=l.getD k (0,0):=fun k hk=>by rw [List.getD_eq_getElem?_getD,List.getElem?_eq_getElem (by omega)];rfl
  refine ⟨g,off,rfl,h1,fun k hk=>?_,fun k hk=>?_,fun j hj=>(h6 j (Nat.lt_of_lt_of_le hj (Nat.mul_le_mul_right _ h3))).2,h2⟩
  ·rw [h5 (k*2) (by omega),evCells_get0 l k (by omega),hge k hk]
  ·rw [Nat.add_assoc,h5 (k*2+1) (by omega),evCells_get1 l k (by omega),hge k hk]
theorem own_srt (u v:Nat→Int) (n:Nat):Srtd lxE (fun k=>(ownL u v n).getD k (0,0)) 0 (ownL u v n).length:=fun i j _ h2 h3=>by
 have h:=List.pairwise_iff_getElem.1 (ownL_sorted (u:=u) (v:=v) (n:=n)) i j (by omega) h3 h2
 simp only [List.getD_eq_getElem?_getD]
 rw [List.getElem?_eq_getElem (by omega),List.getElem?_eq_getElem h3];exact h
theorem getD_memE {l:List EvE} {k:Nat} (h:k<l.length):l.getD k (0,0)∈l:=by
 rw [List.getD_eq_getElem?_getD,List.getElem?_eq_getElem h];exact List.getElem_mem h
theorem Im.memL {l:List EvE} {d:Nat→EvE} (h:Im (fun k=>l.getD k (0,0)) d 0 l.length) (x:EvE):(∃ j,j<l.length∧x=d j)↔x∈l:=by
 constructor
 ·rintro ⟨j,hj,rfl⟩
  obtain ⟨i,_,h2,h3⟩:=h.src j (Nat.zero_le _) hj
  rw [h3];exact getD_memE h2
 ·intro hx
  obtain ⟨i,hi,rfl⟩:=List.getElem_of_mem hx
  obtain ⟨j,_,h2,h3⟩:=h.img i (Nat.zero_le _) hi
  refine ⟨j,h2,?_⟩
  rw [←h3,List.getD_eq_getElem?_getD,List.getElem?_eq_getElem hi];rfl
theorem Que.frz {w:World} {base n g off cap:Nat} {xs:List Value} (h:Que w base 1 (.slice (some ⟨g,off,none⟩) n cap) n xs) {j:Nat} (hj:j<n):w.frozen? ⟨g,off+j,none⟩=false:=by
 rcases h.val with ⟨_,hv,hz,_⟩ | ⟨g',off',cap',hv,h1,h2,h3,h4,h5,h6⟩
 ·omega
 ·cases hv;exact (h6 j (by omega)).2
structure GFin (S:SlcD) (n:Nat) (G:List (List EvE)):Prop where
 ne:∀ g∈G,g≠[]
 of:∀ g∈G,∀ x∈g,x∈S.own n
 len:G.length≤39
 lens:∀ j,(G.getD j []).length≤39
def GrpdPost (S:SlcD) (n:Nat) (w:World) (e:Ending) (w':World):Prop:=
 Ext w w'∧∃ vg ve G,e=.returned (.tuple #[vg,ve])∧GrpQ w' w.heap.size vg G∧IsGrp n (S.E n) (·∈S.own n) G∧Que w' w.heap.size 1 ve (S.rows n G).length ((S.rows n G).map Row.val)∧GFin S n G
def OwnB (vg ve:Value) (b:Nat):Prop:=vg.ownBlock=some b∨ve.ownBlock=some b
theorem infoEvs2:(Tryz.prog.info? 77).map (fun i=>(i.zero,i.size,i.bytes))=some (some (.slice none 0 0),1,24):=by kernel_rfl
set_option maxHeartbeats 8000000 in
theorem grouped_any (w : World) (S : SlcD) (hS : S.At w) (n : Nat) (hO : S.GOk n) (hem : S.em = false) :
    Calls Tryz.prog 111 #[S.val] w (GrpdPost S n w):=by
 obtain ⟨j0,hj0,hy0,hy1,hy2⟩:=info_parts infoEv
 obtain ⟨m0,hm0,hz0,hz1,hz2⟩:=info_parts infoEvs2
 obtain ⟨q0,hq0,hr0,hr1,hr2⟩:=info_parts infoInts1
 have HS:=Lib.hid hS
 have HO:=Lib.hid hO
 have HOWN:=Lib.hid (fun W (x:Ext w W)=>(show Calls Tryz.prog 158 #[.slice S.f.s.a S.f.s.n S.f.s.c,.slice S.l.s.a S.l.s.n S.l.s.c] W (OwnPost S.f.z S.l.z n W) from by
  have h1:=hS.f.num.ext x
  have h2:=hS.l.num.ext x
  rw [hO.fn] at h1 ⊢
  rw [hO.ln] at h2 ⊢
  exact own_any W _ _ _ _ _ _ n _ _ _ _ h1 h2 hO.hn hO.b))
 unfold GrpdPost
 have hv:S.val=.agg #[.bool false,S.f.s.v,S.l.s.v,S.j.s.v]:=by rw [←hem]
 have HEM:=Lib.hid hem
 rw [hv]
 clear hS hO hem hv
 go_enter Tryz.func111,Tryz.ntmps111
 go_upto_region 1 with fail
 refine boxed1 (w:=w) (G:=fun x=>Code.wp _ _ _ _ x) ?_
 intro w1 hx1 hs1 ⟨l0,c0,_,k0⟩
 have hx11:Ext w1 w1:=Ext.refl _
 have HSB:=Lib.hid (show SBox w1 w.heap.size S from fun w' x i=>by rw [HEM.out];exact c0 w' x i)
 have HK1:=Lib.hid (show Hold w1 w.heap.size #[.bool false,S.f.s.v,S.l.s.v,S.j.s.v] from k0)
 clear hs1
 go_wp2_with fail
 go_at_call 158
 refine (HOWN.out w1 hx1).mono ?_
 rintro e w2 ⟨hx12,a2,cp2,rfl,hq2⟩
 have HF:=Lib.hid HO.out.few
 obtain ⟨N,hN⟩:∃ N,N=(ownL S.f.z S.l.z n).length:=⟨_,rfl⟩
 rw [←hN] at hq2 HF ⊢
 have HN:=Lib.hid hN
 have hN39:N≤39:=HF.out
 clear hN k0
 by_cases h0:0<N
 case neg=>
  have HNIL:=Lib.hid (show S.own n=[] from List.eq_nil_of_length_eq_zero (by have:=HN.out;show (ownL S.f.z S.l.z n).length=0;omega))
  obtain rfl:N=0:=by omega
  have hsn:=fun fv=>sortS_none w2 a2 cp2 fv
  clear h0 hq2 hN39
  go_wp2_with fail
  go_at_call 165
  refine (hsn _).mono ?_
  rintro e w3 ⟨rfl,rfl⟩
  clear hsn
  go_wp2_with fail
  refine wp_loop_rounds 1 ?_
  rw [rounds_succ]
  go_wp2_with fail
  go_ret2
  exact ⟨hx1.trans hx12,_,_,[],rfl,⟨fun _=>.bool false,Que.nil _ _ _,fun k hk=>absurd hk (Nat.not_lt_zero _)⟩,(GrpI.zero (fun _=>(0,0))).g.congr fun x=>⟨fun ⟨j,h,_⟩=>absurd h (Nat.not_lt_zero _),fun h=>by rw [HNIL.out] at h;cases h⟩,Que.nil _ _ _,⟨fun _ h=>(by cases h),fun _ h=>(by cases h),by simp,fun j=>by simp⟩⟩
 obtain ⟨g,o,rfl,hgb,hem⟩:=hq2.evm h0 HN.out.symm
 have HSW:=Lib.hid (show SrtW w1 g o N (fun k=>(ownL S.f.z S.l.z n).getD k (0,0)) w2 from ⟨hx12,hem⟩)
 obtain ⟨f,hf⟩:∃ f:Nat,f=159:=⟨_,rfl⟩
 have HCE:=Lib.hid (show CmpE w1 f #[.pointer (some ⟨w.heap.size,0,none⟩)] (S.Has n) (cfE n (S.E n)) from by
  rw [hf]
  exact ⟨enters_of Tryz.func159 (by kernel_rfl) rfl,fun W x a b ha hb=>grp1_any W S (HS.out.ext (hx1.trans x)) w.heap.size (fun w' y i=>HSB.out w' (x.trans y) i) n HO.out.hn a b ha hb⟩)
 have HHAS:=Lib.hid (show ∀ k,k<N→S.Has n ((ownL S.f.z S.l.z n).getD k (0,0)) from fun k hk=>HO.out.has _ (getD_memE (by rw [←HN.out];exact hk)))
 have HSORT:=Lib.hid (sortS_any w1 w2 g o N cp2 _ hgb HSW.out hN39 HCE.out (ordE fun x _=>S.E_len n x) HHAS.out (by rw [HN.out];exact own_srt _ _ _))
 clear hq2 hem hgb
 go_upto_region 5 with fail
 rw [show Fn.func 159=Fn.func f from by rw [hf]]
 clear hf
 go_wp2_with fail
 go_at_call 165
 refine HSORT.out.mono ?_
 rintro e w3 ⟨rfl,d,hw3,hi3,hs3⟩
 have HW3:=Lib.hid hw3
 have HIM:=Lib.hid (show Im (fun k=>(ownL S.f.z S.l.z n).getD k (0,0)) d 0 (ownL S.f.z S.l.z n).length from by rw [←HN.out];exact hi3)
 have HHD:=Lib.hid (show ∀ k,k<N→S.Has n (d k) from fun k hk=>hi3.all (fun k _ hk=>HHAS.out k hk) k (Nat.zero_le _) hk)
 have HSD:=Lib.hid hs3
 have hx13:=hw3.x
 have hxw3:=hx1.trans hx13
 clear HSORT HSW HHAS hw3 hi3 hs3
 go_wp2_with fail
 go_loopg [6,7,23] N (fun gg v6 v7 v23 wr=>∃ (k:Nat) (G:List (List EvE)) (NG:Nat→Value) (R:List Row),k≤N∧gg=N - k∧v23=.int .i64 k∧G.length≤k∧R.length=G.length∧Ext w3 wr∧Hid (GpI w3.heap.size G v6 v7 NG R wr)∧Hid (GrpI n (S.E n) d k G)∧Hid (R=S.rows n G)∧Hid (∀ j,(G.getD j []).length≤k))
 case atStart=>exact ⟨0,[],_,[],by omega,by omega,rfl,by simp,rfl,Ext.refl _,Lib.hid (GpI.start _ _),Lib.hid (GrpI.zero _),Lib.hid rfl,Lib.hid (fun j=>by simp)⟩
 case round=>
  obtain ⟨k,G,NG,R,hk,rfl,rfl,hGk,hRG,hxr,HG,HI,HRR,HLN⟩:=hrel
  have hxwr:=hxw3.trans hxr
  obtain ⟨ga,gc,hu6⟩:=HG.out.qg.slice
  obtain ⟨ea,ec,hu7⟩:=HG.out.qe.slice
  subst hu6 hu7
  by_cases hlt:k<N
  case neg=>
   obtain rfl:k=N:=by omega
   have HFI:=Lib.hid (show GrpQ wr w3.heap.size (.slice ga G.length gc) G from HG.out.grp)
   have HQE:=Lib.hid HG.out.qe
   go_wp2_with fail
   go_ret2
   refine ⟨hxwr,_,_,G,rfl,?_,HI.out.g.congr fun x=>?_,?_⟩
   ·obtain ⟨NG2,h1,h2⟩:=HFI.out
    exact ⟨NG2,h1.mono hxw3.le,fun k hk=>(h2 k hk).mono hxw3.le⟩
   ·rw [HN.out];exact HIM.out.memL x
   ·rw [←HRR.out]
    refine ⟨HQE.out.mono hxw3.le,HI.out.g.ne,fun g hg x hx=>?_,by omega,fun j=>Nat.le_trans (HLN.out j) (by omega)⟩
    have h1:=(HI.out.g.mem x).1 ⟨g,hg,hx⟩
    rw [HN.out] at h1
    exact (HIM.out.memL x).1 h1
  have hlt':(k:Int)<(N:Int):=by omega
  obtain ⟨⟨xp,xi⟩,hx⟩:∃ x,x=d k:=⟨_,rfl⟩
  have HXK:=Lib.hid hx
  have c0k:∀ w',Ext w3 w'→w'.cell? ⟨g,o+k*2,none⟩=some (.int .i64 xp):=fun w' x=>by rw [show xp=(d k).1 by rw [←hx]];exact x.cell (HW3.out.m.c0 k hlt)
  have c1k:∀ w',Ext w3 w'→w'.cell? ⟨g,o+k*2+1,none⟩=some (.int .i64 xi):=fun w' x=>by rw [show xi=(d k).2 by rw [←hx]];exact x.cell (HW3.out.m.c1 k hlt)
  have hgl:∀ w',Ext w3 w'→g<w'.heap.size:=fun w' x=>Nat.lt_of_lt_of_le HW3.out.m.lt x.le
  clear hx
  go_upto_region 11 with fail
  refine boxed1 (w:=wr) (G:=fun x=>Code.wp _ _ _ _ x) ?_
  intro w4 hx4 hs4 ⟨l4,c4,_,k4⟩
  have hx44:Ext w4 w4:=Ext.refl _
  have hx34:=hxr.trans hx4
  have HK4:=Lib.hid (show Hold w4 wr.heap.size #[.int .i64 xp,.int .i64 xi] from k4)
  have HG4:=Lib.hid (HG.out.ext hx4)
  have HVG:=Lib.hid (show ∀ b,(Value.slice ga G.length gc).ownBlock=some b→w3.heap.size≤b∧b<wr.heap.size from fun b e=>⟨HG.out.qg.block b e,(HG.out.ag b e).1⟩)
  have HNW:=Lib.hid (show ∀ j,j<G.length→∀ b,(NG j).ownBlock=some b→b<wr.heap.size from fun j hj b e=>(HG.out.qv j hj).2 b e)
  have HVE:=Lib.hid (show ∀ b,(Value.slice ea R.length ec).ownBlock=some b→w3.heap.size≤b∧b<wr.heap.size from fun b e=>⟨HG.out.qe.block b e,(HG.out.ae b e).1⟩)
  clear hs4 k4 c0k c1k
  obtain ⟨bb,hbb⟩:=exists_bool (k=0∨S.E n (d (k - 1))≠S.E n (d k))
  have HBB:=Lib.hid hbb
  clear hbb
  go_cut [40] (fun s40 wx=>s40=.bool bb∧Ext w4 wx)
  case first=>
   by_cases hk0:k=0
   ·have d0:((k:Int) == 0)=true:=by rw [hk0];rfl
    have d0':(k == 0)=true:=by rw [hk0];rfl
    have HB1:=Lib.hid (show bb=true from HBB.out.2 (.inl hk0))
    clear hk0
    refine wp_region_quiet_below (by kernel_rfl) (by kernel_rfl) ?_
    repeat (go_big_quiet_step (fail))
    refine wpQuiet_nil ?_
    intro _ hw'
    obtain ⟨⟨dq,osq⟩,hw''⟩:=hw'
    subst hw''
    have hxq:=below_regrown w4 dq osq
    go_wp2_with fail
    go_meet
    exact ⟨by rw [HB1.out],hxq⟩
   ·obtain ⟨kp,hkp⟩:∃ kp,k=kp+1:=⟨k - 1,by omega⟩
    have d0:((k:Int) == 0)=false:=by simp;omega
    have d0':(k == 0)=false:=by simp;omega
    have e1:(k:Int) - 1=(kp:Int):=by omega
    have e1w:IntKind.i64.wrap ((k:Int) - 1)=(kp:Int):=by rw [IntWalk.i64_in _ (by omega)];omega
    have hkpn:kp<N:=by omega
    have HKP:=Lib.hid hkp
    obtain ⟨⟨yp,yi⟩,hy⟩:∃ x,x=d kp:=⟨_,rfl⟩
    have b0k:∀ w',Ext w4 w'→w'.cell? ⟨g,o+kp*2,none⟩=some (.int .i64 yp):=fun w' x=>by rw [show yp=(d kp).1 by rw [←hy]];exact (hx34.trans x).cell (HW3.out.m.c0 kp hkpn)
    have b1k:∀ w',Ext w4 w'→w'.cell? ⟨g,o+kp*2+1,none⟩=some (.int .i64 yi):=fun w' x=>by rw [show yi=(d kp).2 by rw [←hy]];exact (hx34.trans x).cell (HW3.out.m.c1 kp hkpn)
    have HCC:=Lib.hid (fun W (x:Ext w4 W)=>(HCE.out.go W ((hx13.trans hx34).trans x) (yp,yi) (xp,xi) (by rw [hy];exact HHD.out kp hkpn) (by rw [HXK.out];exact HHD.out k hlt)))
    obtain ⟨r,hr⟩:∃ r,r=cfE n (S.E n) (yp,yi) (xp,xi):=⟨_,rfl⟩
    rw [←hr] at HCC
    have HB1:=Lib.hid (show (r != 0)=bb from by
     have h1:=cfE_zero (S.E_len n (d kp)) (S.E_len n (d k))
     rw [hr,hy,HXK.out]
     have h2:=HBB.out
     rw [show k - 1=kp by omega] at h2
     cases hc:(cfE n (S.E n) (d kp) (d k) != 0) with
     | true => exact (h2.2 (.inr fun h => by rw [h1.2 h] at hc;exact absurd hc (by decide))).symm
     | false =>
      cases hb2:bb with
      | false => rfl
      | true => exact absurd (h1.1 (by simpa using hc)) ((h2.1 hb2).resolve_left (by omega)))
    have eg:=HCE.out.en
    unfold Enters at eg
    have hg0:∀ d os,Ext w4 (Sort.grow (redrawn w4 d) os):=fun d os=>below_regrown w4 d os
    clear hy hr hkp hk0
    refine wp_region_quiet_below (by kernel_rfl) (by kernel_rfl) ?_
    repeat (go_big_quiet_step ((go_at_fn f;exact Calls.regrown_of (HCC.out _ (hg0 _ _)))))
    refine wpQuiet_nil ?_
    intro _ hw'
    obtain ⟨⟨dq,osq⟩,hw''⟩:=hw'
    subst hw''
    have hxq:=hg0 dq osq
    clear hg0
    go_wp2_with fail
    go_meet
    exact ⟨by rw [HB1.out],hxq⟩
  case rest=>
  obtain ⟨rfl,hx45⟩:=hcut
  obtain ⟨w5,hw5⟩:∃ w5,w5=wc:=⟨_,rfl⟩
  rw [←hw5] at hx45 ⊢
  clear hw5 l4 c4 hx44
  have hx35:=hx34.trans hx45
  have hxw5:=hxw3.trans hx35
  have HG5:=Lib.hid (HG4.out.ext hx45)
  have HK5:=Lib.hid (HK4.out.ext hx45)
  have HB5:=Lib.hid (HK1.out.ext (hx13.trans hx35))
  go_upto_if 40 with fail
  go_cut [6,7] from 28 to 64 (fun s6 s7 wx=>∃ (Gc:List (List EvE)) (NGc:Nat→Value) (Rc:List Row),0<Gc.length∧Gc.length≤k+1∧Rc.length=Gc.length∧Hid (GpI w3.heap.size Gc s6 s7 NGc Rc wx)∧Hid (GrpI n (S.E n) d (k+1) (putL Gc (d k)))∧Hid (Rc=S.rows n (putL Gc (d k)))∧Ext w3 wx∧Hid (Hold wx wr.heap.size #[.int .i64 xp,.int .i64 xi])∧Hid (∀ j,(Gc.getD j []).length≤k)∧Hid (∀ b,s6.ownBlock=some b→b≠wr.heap.size)∧Hid (∀ j b,j<Gc.length→(NGc j).ownBlock=some b→b≠wr.heap.size))
  case first=>
   cases hb2:bb with
   | false =>
    have HNB:=Lib.hid (show ¬(k=0∨S.E n (d (k - 1))≠S.E n (d k)) from fun h=>by have:=HBB.out.2 h;rw [hb2] at this;cases this)
    clear hb2
    have HK0:=Lib.hid (show 0<k from Nat.pos_of_ne_zero fun h=>HNB.out (.inl h))
    have HEQ:=Lib.hid (show S.E n (d (k - 1))=S.E n (d k) from Classical.byContradiction fun h=>HNB.out (.inr h))
    have HLG:=Lib.hid (show 0<G.length from by
     obtain ⟨G0,g1,h1,_⟩:=HI.out.last HK0.out
     rw [h1];simp)
    go_wp2_with fail
    go_meet
    exact ⟨G,NG,R,HLG.out,by omega,hRG,HG5,Lib.hid (HI.out.cont hlt HSD.out HK0.out HEQ.out),Lib.hid (by rw [S.rows_cont HI.out HK0.out];exact HRR.out),hx35,HK5,HLN,Lib.hid (fun b e=>Nat.ne_of_lt (HVG.out b e).2),Lib.hid (fun j b hj e=>Nat.ne_of_lt (HNW.out j hj b e))⟩
   | true =>
    have HNC:=Lib.hid (show k=0∨S.E n (d (k - 1))≠S.E n (d k) from HBB.out.1 hb2)
    clear hb2
    have HBS:=Lib.hid (show ∀ w',Cg (OwnB (.slice ga G.length gc) (.slice ea R.length ec)) w5 w'→∀ i,w'.cell? ⟨w.heap.size,i,none⟩=#[.bool false,S.f.s.v,S.l.s.v,S.j.s.v][i]? from (HB5.out.boxG (by
     have h1:=HB5.out.lt
     have h2:=HK1.out.lt
     have h3:=hx13.le
     rintro (e | e)
     ·have:=HVG.out _ e;omega
     ·have:=HVE.out _ e;omega)).2)
    have hwr5:wr.heap.size≤w5.heap.size:=(hx4.trans hx45).le
    have HNE:=Lib.hid (show ¬OwnB (.slice ga G.length gc) (.slice ea R.length ec) wr.heap.size from by
     rintro (e | e)
     ·have:=HVG.out _ e;omega
     ·have:=HVE.out _ e;omega)
    have HBX:=Lib.hid (show ∀ w',Cg (OwnB (.slice ga G.length gc) (.slice ea R.length ec)) w5 w'→∀ i,w'.cell? ⟨wr.heap.size,i,none⟩=#[Value.int .i64 xp,.int .i64 xi][i]? from (HK5.out.boxG HNE.out).2)
    have HEL:=Lib.hid (fun W (x:Ext w3 W)=>(show Calls Tryz.prog 160 #[.agg #[.bool false,S.f.s.v,S.l.s.v,S.j.s.v],.agg #[.int .i64 xp,.int .i64 xi]] W (fun e w'=>e=.returned (S.row n (xp,xi)).val∧Ext W w') from by
     have h:=elem_any W S (HS.out.ext (hxw3.trans x)) n (xp,xi) (by rw [HXK.out];exact HHD.out k hlt)
     rw [show S.val=.agg #[.bool false,S.f.s.v,S.l.s.v,S.j.s.v] by rw [←HEM.out]] at h
     exact h))
    obtain ⟨rv,hrv⟩:∃ z,z=(S.row n (xp,xi)).val:=⟨_,rfl⟩
    have hrs:∃ a b c,rv=.slice a b c:=⟨_,_,_,hrv⟩
    obtain ⟨ra,rn,rc,hrs⟩:=hrs
    rw [←hrv,hrs] at HEL
    have HRV:=Lib.hid (show Value.slice ra rn rc=(S.row n (xp,xi)).val from by rw [←hrs];exact hrv)
    clear hrv hrs
    obtain ⟨KG,hKK⟩:∃ z,z=G.length:=⟨_,rfl⟩
    obtain ⟨MR,hMM⟩:∃ z,z=R.length:=⟨_,rfl⟩
    have HKM:=Lib.hid (And.intro hKK hMM)
    have hK40:KG≤40:=by omega
    have hM40:MR≤40:=by omega
    rw [←hKK] at HBS HBX HVG HG5 HNE ⊢
    rw [←hMM] at HBS HBX HVE HG5 HNE ⊢
    have hHL:=hKK
    clear hKK hMM hHL
    go_upto_region 12 with fail
    refine wp_region_T (t:=11) (S:=Cg (OwnB (.slice ga KG gc) (.slice ea MR ec)) w5) (R:=fun _=>True) (by kernel_rfl) (Cg.drew (Cg.refl _ _)) trivial (fun hHeld=>?_)
    have HX:=Lib.hid (hx35.drew)
    have HG:=Lib.hid (HG5.out.ext (Ext.refl w5).drew)
    generalize w5.drew=v00 at HX HG hHeld ⊢
    refine takeS 0 (v:=?_) rfl (by kernel_rfl) (by kernel_rfl) (by kernel_rfl) (fun _ _ _ h=>h) (by decide) (Or.inl ⟨by rfl,?_⟩) hHeld.1 hHeld.2 ?_
    rotate_left
    ·intro w' hSw
     have z0:=HBS.out w' hSw
     have z1:=HBX.out w' hSw
     have z2:=hSw.le
     have hSS:=Ext.refl w'
     go_simp
     try with_reducible rfl
    try simp only [Act.put,zA,zB,zC]
    refine takeS 3 (v:=?_) rfl (by kernel_rfl) (by kernel_rfl) (by kernel_rfl) (fun _ _ _ h=>h) (by decide) (Or.inl ⟨by rfl,?_⟩) hHeld.1 hHeld.2 ?_
    rotate_left
    ·intro w' hSw
     have z0:=HBS.out w' hSw
     have z1:=HBX.out w' hSw
     have z2:=hSw.le
     have hSS:=Ext.refl w'
     go_simp
     try with_reducible rfl
    try simp only [Act.put,zA,zB,zC]
    refine takeS 4 (v:=?_) rfl (by kernel_rfl) (by kernel_rfl) (by kernel_rfl) (fun _ _ _ h=>h) (by decide) (Or.inl ⟨by rfl,?_⟩) hHeld.1 hHeld.2 ?_
    rotate_left
    ·intro w' hSw
     have z0:=HBS.out w' hSw
     have z1:=HBX.out w' hSw
     have z2:=hSw.le
     have hSS:=Ext.refl w'
     go_simp
     try with_reducible rfl
    try simp only [Act.put,zA,zB,zC]
    refine takeS 5 (v:=?_) rfl (by kernel_rfl) (by kernel_rfl) (by kernel_rfl) (fun _ _ _ h=>h) (by decide) (Or.inl ⟨by rfl,?_⟩) hHeld.1 hHeld.2 ?_
    rotate_left
    ·intro w' hSw
     have z0:=HBS.out w' hSw
     have z1:=HBX.out w' hSw
     have z2:=hSw.le
     have hSS:=Ext.refl w'
     go_simp
     try with_reducible rfl
    try simp only [Act.put,zA,zB,zC]
    refine wpAnyT_ready (rs:=[1]) (by kernel_rfl) (by simp) ?_
    refine AllReadyT.cons rfl (fun K hK=>?_) AllReadyT.nil
    go_simp
    have hle:=hHeld.1.le
    refine hK.out _ _ ⟨Cg.alloc hHeld.1 _,trivial⟩ (fun hH2=>?_)
    clear hK K
    try simp only [Act.put,zA,zB,zC]
    have HX2:=Lib.hid (Ext.alloc' HX.out (.cells #[.slice none 0 0] 77))
    have HG2:=Lib.hid (GpI.ext HG.out (Ext.alloc v00 (.cells #[.slice none 0 0] 77)))
    have HNA:=Lib.hid (And.intro (Hold.new v00 #[.slice none 0 0] 77) hle)
    clear HX HG hHeld hle
    have HX:=HX2
    have HG:=HG2
    have hHeld:=hH2
    clear HX2 HG2 hH2
    obtain ⟨bA,hbz⟩:∃ z,z=(v00).heap.size:=⟨_,rfl⟩
    rw [←hbz] at HNA ⊢
    clear hbz
    generalize World.alloc v00 (.cells #[.slice none 0 0] 77)=v01 at HX HG hHeld HNA ⊢
    refine wpAnyT_ready (rs:=[2]) (by kernel_rfl) (by simp) ?_
    refine AllReadyT.cons rfl (fun K hK=>?_) AllReadyT.nil
    have hwW:=HX.out.le
    have hqg:=HG.out.qg
    rw [←HKM.out.1] at hqg
    refine step_appendG _ rfl _ _ 100 100 rfl (base:=w3.heap.size) (e:=77) (size:=1) m0 (.slice none 0 0) 24 Tryz.underlying100 hm0 hz0 hz1 hz2 rfl (v:=.slice ga KG gc) (n:=KG) (xs:=(List.range KG).map NG) rfl hqg hwW (.slice (some ⟨bA,0,none⟩) 1 1) 1 [.slice none 0 0] rfl (HNA.out.1.srcG Tryz.underlying100 rfl (by intro u hu;simp at hu;subst hu;rfl)) (by unfold maxLen;omega) (by omega) ?_
    intro vz v02 hq hg ho
    obtain ⟨za,zc,hsl⟩:=hq.slice
    subst hsl
    refine hK.out _ _ ⟨hHeld.1.grown hg (fun g e=>.inl (.inl e)),trivial⟩ (fun hH2=>?_)
    clear hK K
    simp only [Act.put,List.getElem_toArray,List.getElem_cons_succ,List.getElem_cons_zero,List.setIfInBounds_toArray,List.set_cons_zero,List.set_cons_succ]
    have HX2:=Lib.hid (show Ext w3 v02 from Below.grown HX.out hg hwW (fun g e=>(HVG.out g e).1))
    have HVN:=Lib.hid (show ∀ b,(Value.slice za (KG+1) zc).ownBlock=some b→b≠wr.heap.size from fun b e=>by
     rcases ho with h1 | h1
     ·rw [h1] at e;exact Nat.ne_of_lt (HVG.out b e).2
     ·rw [h1] at e;have h2:v01.heap.size=b:=by simpa using e
      have h3:=hHeld.1.le;have h4:=HK5.out.lt;omega)
    have HG2:=Lib.hid (GpI.pushG HG.out hg (by rw [←HKM.out.1];exact hq) ho)
    clear HX HG hHeld hqg hwW hq hg ho HNA
    have HX:=HX2
    have HG:=HG2
    have hHeld:=hH2
    clear HX2 HG2 hH2
    refine wpAnyT_ready (rs:=[6]) (by kernel_rfl) (by simp) ?_
    refine AllReadyT.cons rfl (fun K hK=>?_) AllReadyT.nil
    go_simp
    go_at_call 160
    refine (HEL.out v02 HX.out).mono ?_
    rintro e v03 ⟨rfl,hxl⟩
    refine hK.out _ _ ⟨hHeld.1.trans (hxl.cg _),trivial⟩ (fun hH2=>?_)
    clear hK K
    try simp only [Act.put,zA,zB,zC]
    have HX2:=Lib.hid (HX.out.trans hxl)
    have HG2:=Lib.hid (GpI.ext HG.out hxl)
    clear HX HG hHeld hxl
    have HX:=HX2
    have HG:=HG2
    have hHeld:=hH2
    clear HX2 HG2 hH2
    refine wpAnyT_ready (rs:=[7]) (by kernel_rfl) (by simp) ?_
    refine AllReadyT.cons rfl (fun K hK=>?_) AllReadyT.nil
    go_simp
    have hle:=hHeld.1.le
    refine hK.out _ _ ⟨Cg.alloc hHeld.1 _,trivial⟩ (fun hH2=>?_)
    clear hK K
    try simp only [Act.put,zA,zB,zC]
    have HX2:=Lib.hid (Ext.alloc' HX.out (.cells #[.slice ra rn rc] 25))
    have HG2:=Lib.hid (GpI.ext HG.out (Ext.alloc v03 (.cells #[.slice ra rn rc] 25)))
    have HNB:=Lib.hid (And.intro (Hold.new v03 #[.slice ra rn rc] 25) hle)
    clear HX HG hHeld hle
    have HX:=HX2
    have HG:=HG2
    have hHeld:=hH2
    clear HX2 HG2 hH2
    obtain ⟨bB,hbz⟩:∃ z,z=(v03).heap.size:=⟨_,rfl⟩
    rw [←hbz] at HNB ⊢
    clear hbz
    generalize World.alloc v03 (.cells #[.slice ra rn rc] 25)=v04 at HX HG hHeld HNB ⊢
    refine wpAnyT_ready (rs:=[8]) (by kernel_rfl) (by simp) ?_
    refine AllReadyT.cons rfl (fun K hK=>?_) AllReadyT.nil
    have hwW:=HX.out.le
    have hqg:=HG.out.qe
    rw [←HKM.out.2] at hqg
    refine step_appendG _ rfl _ _ 28 28 rfl (base:=w3.heap.size) (e:=25) (size:=1) q0 (.slice none 0 0) 24 Tryz.underlying28 hq0 hr0 hr1 hr2 rfl (v:=.slice ea MR ec) (n:=MR) (xs:=R.map Row.val) rfl hqg hwW (.slice (some ⟨bB,0,none⟩) 1 1) 1 [.slice ra rn rc] rfl (HNB.out.1.srcG Tryz.underlying28 rfl (by intro u hu;simp at hu;subst hu;rfl)) (by unfold maxLen;omega) (by omega) ?_
    intro vz v05 hq hg ho
    obtain ⟨za,zc,hsl⟩:=hq.slice
    subst hsl
    refine hK.out _ _ ⟨hHeld.1.grown hg (fun g e=>.inl (.inr e)),trivial⟩ (fun hH2=>?_)
    clear hK K
    simp only [Act.put,List.getElem_toArray,List.getElem_cons_succ,List.getElem_cons_zero,List.setIfInBounds_toArray,List.set_cons_zero,List.set_cons_succ]
    have HX2:=Lib.hid (show Ext w3 v05 from Below.grown HX.out hg hwW (fun g e=>(HVE.out g e).1))
    have HG2:=Lib.hid (GpI.pushE (r:=S.row n (xp,xi)) HG.out hg (by rw [←HKM.out.2,←HRV.out];exact hq) ho)
    clear HX HG hHeld hqg hwW hq hg ho HNB
    have HX:=HX2
    have HG:=HG2
    have hHeld:=hH2
    clear HX2 HG2 hH2
    refine takeS 9 (v:=?_) rfl (by kernel_rfl) (by kernel_rfl) (by kernel_rfl) (fun _ _ _ h=>h) (by decide) (Or.inl ⟨by rfl,?_⟩) hHeld.1 hHeld.2 ?_
    rotate_left
    ·intro w' hSw
     have z0:=HBS.out w' hSw
     have z1:=HBX.out w' hSw
     have z2:=hSw.le
     have hSS:=Ext.refl w'
     go_simp
     try with_reducible rfl
    try simp only [Act.put,zA,zB,zC]
    refine takeS 10 (v:=?_) rfl (by kernel_rfl) (by kernel_rfl) (by kernel_rfl) (fun _ _ _ h=>h) (by decide) (Or.inl ⟨by rfl,?_⟩) hHeld.1 hHeld.2 ?_
    rotate_left
    ·intro w' hSw
     have z0:=HBS.out w' hSw
     have z1:=HBX.out w' hSw
     have z2:=hSw.le
     have hSS:=Ext.refl w'
     go_simp
     try with_reducible rfl
    try simp only [Act.put,zA,zB,zC]
    refine wpAnyT_done (by kernel_rfl) ?_ _
    have HKL:=Lib.hid (HK5.out.cg hHeld.1 HNE.out)
    clear hHeld
    go_wp2_with fail
    go_meet
    exact ⟨G++[[]],_,_,by simp,by rw [List.length_append];show G.length+1≤k+1;omega,by rw [List.length_append,List.length_append,hRG];rfl,HG,Lib.hid (by rw [putL_snoc];exact HI.out.start hlt HSD.out HNC.out),Lib.hid (by rw [S.rows_new,←HRR.out,←HXK.out]),HX.out,HKL,Lib.hid (fun j=>by rw [getD_snocE];exact HLN.out j),HVN,Lib.hid (fun j b hj e=>by
     unfold up at e
     split at e
     ·cases e
     ·next h=>rw [List.length_append] at hj;have hj2:j<G.length+1:=hj;exact Nat.ne_of_lt (HNW.out j (by omega) b e))⟩
  case rest=>
  obtain ⟨Gc,NGc,Rc,h0c,hck,hrc,HGc,HIc,HRc,hx3c,HKc,HLC,H6B,HNB2⟩:=hcut
  have HRL:=Lib.hid hrc
  clear hrc
  obtain ⟨w6,hw6⟩:∃ w6,w6=wc:=⟨_,rfl⟩
  rw [←hw6] at HGc hx3c HKc ⊢
  clear hw6
  obtain ⟨e7a,e7c,hu7⟩:=HGc.out.qe.slice
  obtain ⟨gb,go',gcap,hu6,hgb1,hgb2,hgb3,hcells⟩:=HGc.out.qg.shape h0c
  subst hu6 hu7
  obtain ⟨J,hJ⟩:∃ J,Gc.length=J+1:=⟨Gc.length - 1,by omega⟩
  obtain ⟨na,nc,hnv⟩:=(HGc.out.qv J (by omega)).1.slice
  have hL:(Gc.getD J []).length≤39:=by have:=HLC.out J;omega
  have HQ9:=Lib.hid (HGc.out.qv J (by omega)).1
  obtain ⟨L,hLL⟩:∃ L,L=(Gc.getD J []).length:=⟨_,rfl⟩
  rw [←hLL] at hnv hL
  have hLq:L≤39:=hL
  have HNV:=Lib.hid (And.intro hnv hLL)
  have q9:∀ w',Ext w6 w'→w'.cell? ⟨gb,go'+J,none⟩=some (.slice na L nc):=fun w' x=>by
   refine x.cell ?_
   rw [hcells J (by omega)]
   simp [hJ,hnv]
  have q9b:∀ w',Ext w6 w'→gb<w'.heap.size:=fun w' x=>Nat.lt_of_lt_of_le hgb2 x.le
  have HFR:=Lib.hid (show w6.frozen? ⟨gb,go'+J,none⟩=false from HGc.out.qg.frz (by omega))
  have HGB:=Lib.hid (show w3.heap.size≤gb∧gb≠wr.heap.size∧∀ b,(Value.slice na L nc).ownBlock=some b→w3.heap.size≤b∧b<w6.heap.size∧b≠gb∧b≠wr.heap.size from by
   refine ⟨hgb1,H6B.out gb rfl,fun b e=>?_⟩
   rw [←HNV.out.1] at e
   exact ⟨(HGc.out.qv J (by omega)).1.block b e,(HGc.out.qv J (by omega)).2 b e,fun e2=>(HGc.out.ag gb rfl).2.2 J (by omega) (by rw [←e2];exact e),HNB2.out J b (by omega) e⟩)
  have HNO:=Lib.hid (show ¬((Value.slice na L nc).ownBlock=some wr.heap.size∨wr.heap.size=gb) from fun h=>h.elim (fun e=>(HGB.out.2.2 _ e).2.2.2 rfl) fun e=>HGB.out.2.1 e.symm)
  have HBX:=Lib.hid (show ∀ w',Cg (fun b=>(Value.slice na L nc).ownBlock=some b∨b=gb) w6 w'→∀ i,w'.cell? ⟨wr.heap.size,i,none⟩=#[Value.int .i64 xp,.int .i64 xi][i]? from (HKc.out.boxG HNO.out).2)
  have HBS:=HBX
  have HCJ:=Lib.hid (show w6.cell? ⟨gb,go'+J,none⟩=some (.slice na L nc) from q9 w6 (Ext.refl _))
  have HJ2:=Lib.hid hJ
  obtain ⟨Kc,hKc⟩:∃ z,z=Gc.length:=⟨_,rfl⟩
  have HKC:=Lib.hid hKc
  rw [←hKc]
  have hKJ:Kc=J+1:=by omega
  have e1:(Kc:Int) - 1=(J:Int):=by omega
  have e1w:IntKind.i64.wrap ((Kc:Int) - 1)=(J:Int):=by rw [IntWalk.i64_in _ (by omega)];omega
  have hJK:(J:Int)<(Kc:Int):=by omega
  have e2w:IntKind.i64.wrap (J:Int)=(J:Int):=IntWalk.i64_in _ (by omega)
  have hKb:Kc≤40:=by omega
  clear hKc hJ hKJ hnv hLL hL hcells hgb3
  go_upto_region 13 with fail
  refine wp_region_T (t:=12) (S:=Cg (fun b=>(Value.slice na L nc).ownBlock=some b∨b=gb) w6) (R:=fun w'=>Ext w6 w') (by kernel_rfl) (Cg.drew (Cg.refl _ _)) (Ext.refl w6).drew (fun hHeld=>?_)
  generalize w6.drew=w60 at hHeld ⊢
  refine takeS 0 (v:=?_) rfl (by kernel_rfl) (by kernel_rfl) (by kernel_rfl) (fun _ _ _ h=>h) (by decide) (Or.inl ⟨by rfl,?_⟩) hHeld.1 hHeld.2 ?_
  rotate_left
  ·intro w' hSw
   have z0:=HBS.out w' hSw
   have z1:=HBX.out w' hSw
   have z2:=hSw.le
   have hSS:=Ext.refl w'
   go_simp
   try with_reducible rfl
  try simp only [Act.put,zA,zB,zC]
  refine takeS 1 (v:=?_) rfl (by kernel_rfl) (by kernel_rfl) (by kernel_rfl) (fun _ _ _ h=>h) (by decide) (Or.inl ⟨by rfl,?_⟩) hHeld.1 hHeld.2 ?_
  rotate_left
  ·intro w' hSw
   have z0:=HBS.out w' hSw
   have z1:=HBX.out w' hSw
   have z2:=hSw.le
   have hSS:=Ext.refl w'
   go_simp
   try with_reducible rfl
  try simp only [Act.put,zA,zB,zC]
  refine takeS 2 (v:=?_) rfl (by kernel_rfl) (by kernel_rfl) (by kernel_rfl) (fun _ _ _ h=>h) (by decide) (Or.inl ⟨by rfl,?_⟩) hHeld.1 hHeld.2 ?_
  rotate_left
  ·intro w' hSw
   have z0:=HBS.out w' hSw
   have z1:=HBX.out w' hSw
   have z2:=hSw.le
   have hSS:=Ext.refl w'
   go_simp
   try with_reducible rfl
  try simp only [Act.put,zA,zB,zC]
  refine takeS 3 (v:=?_) rfl (by kernel_rfl) (by kernel_rfl) (by kernel_rfl) (fun _ _ _ h=>h) (by decide) (Or.inl ⟨by rfl,?_⟩) hHeld.1 hHeld.2 ?_
  rotate_left
  ·intro w' hSw
   have z0:=HBS.out w' hSw
   have z1:=HBX.out w' hSw
   have z2:=hSw.le
   have hSS:=Ext.refl w'
   go_simp
   try with_reducible rfl
  try simp only [Act.put,zA,zB,zC]
  refine takeS 4 (v:=?_) rfl (by kernel_rfl) (by kernel_rfl) (by kernel_rfl) (fun _ _ _ h=>h) (by decide) (Or.inl ⟨by rfl,?_⟩) hHeld.1 hHeld.2 ?_
  rotate_left
  ·intro w' hSw
   have z0:=HBS.out w' hSw
   have z1:=HBX.out w' hSw
   have z2:=hSw.le
   have hSS:=Ext.refl w'
   go_simp
   try with_reducible rfl
  try simp only [Act.put,zA,zB,zC]
  refine takeS 5 (v:=?_) rfl (by kernel_rfl) (by kernel_rfl) (by kernel_rfl) (fun _ _ _ h=>h) (by decide) (Or.inl ⟨by rfl,?_⟩) hHeld.1 hHeld.2 ?_
  rotate_left
  ·intro w' hSw
   have z0:=HBS.out w' hSw
   have z1:=HBX.out w' hSw
   have z2:=hSw.le
   have hSS:=Ext.refl w'
   go_simp
   try with_reducible rfl
  try simp only [Act.put,zA,zB,zC]
  refine takeS 6 (v:=?_) rfl (by kernel_rfl) (by kernel_rfl) (by kernel_rfl) (fun _ _ _ h=>h) (by decide) (Or.inl ⟨by rfl,?_⟩) hHeld.1 hHeld.2 ?_
  rotate_left
  ·intro w' hSw
   have z0:=HBS.out w' hSw
   have z1:=HBX.out w' hSw
   have z2:=hSw.le
   have hSS:=Ext.refl w'
   go_simp
   try with_reducible rfl
  try simp only [Act.put,zA,zB,zC]
  refine takeS 7 (v:=?_) rfl (by kernel_rfl) (by kernel_rfl) (by kernel_rfl) (fun _ _ _ h=>h) (by decide) (Or.inl ⟨by rfl,?_⟩) hHeld.1 hHeld.2 ?_
  rotate_left
  ·intro w' hSw
   have z0:=HBS.out w' hSw
   have z1:=HBX.out w' hSw
   have z2:=hSw.le
   have hSS:=Ext.refl w'
   go_simp
   try with_reducible rfl
  try simp only [Act.put,zA,zB,zC]
  refine takeS 8 (v:=?_) rfl (by kernel_rfl) (by kernel_rfl) (by kernel_rfl) (fun _ _ _ h=>h) (by decide) (Or.inl ⟨by rfl,?_⟩) hHeld.1 hHeld.2 ?_
  rotate_left
  ·intro w' hSw
   have z0:=HBS.out w' hSw
   have z1:=HBX.out w' hSw
   have z2:=hSw.le
   have hSS:=Ext.refl w'
   go_simp
   try with_reducible rfl
  try simp only [Act.put,zA,zB,zC]
  refine takeR 9 (v:=?_) rfl (by kernel_rfl) (by kernel_rfl) (by kernel_rfl) (by kernel_rfl) (by kernel_rfl) (fun _ _ _ h=>h) (by decide) (Or.inl ⟨by rfl,?_⟩) hHeld.1 hHeld.2 ?_
  rotate_left
  ·intro w' hSw
   have hSX:=hSw.2
   have hSS:=Ext.refl w'
   go_simp
   try with_reducible rfl
  try simp only [Act.put,zA,zB,zC]
  refine takeS 10 (v:=?_) rfl (by kernel_rfl) (by kernel_rfl) (by kernel_rfl) (fun _ _ _ h=>h) (by decide) (Or.inl ⟨by rfl,?_⟩) hHeld.1 hHeld.2 ?_
  rotate_left
  ·intro w' hSw
   have z0:=HBS.out w' hSw
   have z1:=HBX.out w' hSw
   have z2:=hSw.le
   have hSS:=Ext.refl w'
   go_simp
   try with_reducible rfl
  try simp only [Act.put,zA,zB,zC]
  have hS6:=hHeld.1
  have hR6:=hHeld.2
  refine wpAnyT_ready (rs:=[11]) (by kernel_rfl) (by simp) ?_
  refine AllReadyT.cons rfl (fun K hK=>?_) AllReadyT.nil
  go_simp
  refine hK.out _ _ ⟨Cg.alloc hS6 _,hR6.alloc' _⟩ (fun hHeld2=>?_)
  clear hK K
  try simp only [Act.put,zA,zB,zC]
  clear hHeld
  have HQ10:=Lib.hid (show Que (World.alloc w60 (.cells #[.int .i64 xp,.int .i64 xi] 47)) w3.heap.size 2 (.slice na L nc) L (evCells (Gc.getD J [])) from by
   have h:=HQ9.out
   rw [HNV.out.1,←HNV.out.2] at h
   exact (h.ext hR6).ext (Ext.alloc _ _))
  have hS7:=Cg.alloc hS6 (.cells #[.int .i64 xp,.int .i64 xi] 47)
  have hR7:=hR6.alloc' (.cells #[.int .i64 xp,.int .i64 xi] 47)
  have HN7:=Lib.hid (Hold.new w60 #[.int .i64 xp,.int .i64 xi] 47)
  obtain ⟨bN,hbN⟩:∃ z,z=w60.heap.size:=⟨_,rfl⟩
  rw [←hbN] at HN7 ⊢
  generalize World.alloc w60 (.cells #[.int .i64 xp,.int .i64 xi] 47)=w7 at HQ10 hS7 hR7 HN7 hHeld2 ⊢
  refine wpAnyT_ready (rs:=[12]) (by kernel_rfl) (by simp) ?_
  refine AllReadyT.late rfl (by decide) (fun K hK=>?_) AllReadyT.nil
  refine step_appendG _ rfl _ _ 77 77 rfl (base:=w3.heap.size) (e:=47) (size:=2) j0 (.agg #[.int .i64 0,.int .i64 0]) 16 Tryz.underlying77 hj0 hy0 hy1 hy2 rfl (v:=.slice na L nc) (n:=L) (xs:=evCells (Gc.getD J [])) rfl HQ10.out (by have:=hx3c.le;have:=hR7.le;omega) (.slice (some ⟨bN,0,none⟩) 1 1) 1 [.int .i64 xp,.int .i64 xi] rfl (HN7.out.srcG Tryz.underlying77 rfl (by intro u hu;simp at hu;rcases hu with rfl | rfl <;> rfl)) (by unfold maxLen;omega) (by omega) ?_
  intro vz w8 hq hg ho
  have hS8:Cg (fun b=>(Value.slice na L nc).ownBlock=some b∨b=gb) w6 w8:=hS7.grown hg (fun g e=>.inl (.inl e))
  refine hK.out _ _ hS8 (fun hHeld3=>?_)
  clear hK K
  simp only [Act.put,List.getElem_toArray,List.getElem_cons_succ,List.getElem_cons_zero,List.setIfInBounds_toArray,List.set_cons_zero,List.set_cons_succ]
  have hb8:w8.heap[gb]?=w6.heap[gb]?:=(hg.block gb (Nat.lt_of_lt_of_le hgb2 hR7.le) fun e=>(HGB.out.2.2 _ e.symm).2.2.1 rfl).trans (hR7.block gb hgb2)
  have s0:w8.cell? ⟨gb,go'+J,none⟩=some (.slice na L nc):=(World.cell?_of_block (w:=w6) (a:=⟨gb,go'+J,none⟩) hb8).trans HCJ.out
  have s1:w8.frozen? ⟨gb,go'+J,none⟩=false:=(World.frozen?_of_block (w:=w6) (a:=⟨gb,go'+J,none⟩) hb8).trans HFR.out
  have s2:gb<w8.heap.size:=by have:=hg.size;have:=hR7.le;omega
  have HG9:=Lib.hid (show GpI w3.heap.size (putL Gc (d k)) (.slice (some ⟨gb,go',none⟩) Kc gcap) (.slice e7a Rc.length e7c) (up NGc (Gc.length - 1) vz) Rc (w8.setCell ⟨gb,go'+J,none⟩ vz) from by
   have hJ1:Gc.length - 1=J:=by have:=HJ2.out;omega
   have h:=GpI.put ((HGc.out.ext hR7)) (x:=d k) (v':=vz) (w':=w8) (by have:=HJ2.out;omega) (by rw [hJ1,HNV.out.1];exact hg) (by rw [hJ1,←HNV.out.2,evCells_snoc,←HXK.out];exact hq) (by rw [hJ1,HNV.out.1];exact ho) (g:=gb) (o:=go') (c:=gcap) rfl
   rw [hJ1] at h ⊢
   rw [HKC.out];exact h)
  have HX9:=Lib.hid (show Ext w3 (w8.setCell ⟨gb,go'+J,none⟩ vz) from (Below.grown (hx3c.trans hR7) hg (by have:=hx3c.le;have:=hR7.le;omega) (fun g e=>(HGB.out.2.2 g e).1)).setCell HGB.out.1 _)
  obtain ⟨vza,vzc,hvz⟩:=hq.slice
  have hS9:Cg (fun b=>(Value.slice na L nc).ownBlock=some b∨b=gb) w6 (w8.setCell ⟨gb,go'+J,none⟩ vz):=hS8.set _ _ (.inr rfl)
  subst hvz
  have HS9:=Lib.hid hS9
  have HS8:=Lib.hid hS8
  clear hS6 hR6 hHeld2 hHeld3 hS7 hR7 hg ho hq hS8 hS9 hb8 q9 q9b
  have h88:Ext w8 w8:=Ext.refl _
  refine wpAnyT_ready (rs:=[13]) (by kernel_rfl) (by simp) ?_
  refine AllReadyT.late rfl (by decide) (fun K hK=>?_) AllReadyT.nil
  go_simp
  refine hK.out _ _ HS8.out (fun hHeld4=>?_)
  clear hK K
  try simp only [Act.put,zA,zB,zC]
  refine wpAnyT_ready (rs:=[14]) (by kernel_rfl) (by simp) ?_
  refine AllReadyT.late rfl (by decide) (fun K hK=>?_) AllReadyT.nil
  go_simp
  refine hK.out _ _ HS9.out (fun hHeld5=>?_)
  clear hK K
  try simp only [Act.put,zA,zB,zC]
  refine wpAnyT_done (by kernel_rfl) ?_ _
  clear hHeld4 hHeld5 s0 s1 s2 h88
  have HLF:=Lib.hid (show ∀ j,((putL Gc (d k)).getD j []).length≤k+1 from fun j=>by
   rw [putL_get h0c]
   unfold up
   split
   ·rw [List.length_append];exact Nat.succ_le_succ (HLC.out (Gc.length - 1))
   ·exact Nat.le_trans (HLC.out j) (Nat.le_succ k))
  generalize w8.setCell ⟨gb,go'+J,none⟩ (.slice vza (L+1) vzc)=w9 at HG9 HX9 ⊢
  have HPL:=Lib.hid (putL_len Gc (d k))
  go_wp2_with fail
  go_roundg (N - (k+1))
  case rel=>exact ⟨k+1,putL Gc (d k),_,Rc,by omega,rfl,by go_num,by rw [HPL.out];exact hck,by rw [HPL.out];exact HRL.out,HX9.out,HG9,HIc,HRc,HLF⟩
  case measure=>omega
end Go.Proofs.YtmhapcnlpoilpaaGreatDoor

namespace Go.Proofs.YtmhapcnlpoilpaaGreatDoor
open Go.RowKit Go.Shelf
attribute [local go_sem] Oper.semAt_some
theorem ownL_tot {u v:Nat→Int} {en:Nat→Nat}:∀ {n:Nat},(∀ p,p<n→(v p - u p).toNat≤en p)→(ownL u v n).length≤tot en n
 | 0,_ => by simp [ownL]
 | n+1,h => by
  have h1:=ownL_tot (n:=n) fun p hp=>h p (by omega)
  have h2:=h n (by omega)
  unfold ownL
  rw [List.length_append,ownP_len]
  show _≤tot en n+en n
  omega
theorem SlcD.Ok.gok {S:SlcD} {T:Tr} (h:S.Ok T) (he:S.em=false) (h24:tot T.en T.n≤39):S.GOk T.n:=by
 obtain ⟨hV,⟨h1,_⟩ | ⟨_,hSh,hR,_⟩⟩:=h
 ·rw [he] at h1;cases h1
 have hf:=hSh.1.1
 have hl:=hSh.1.2.1
 have hle:=hSh.1.2.2.1
 have hfn:S.f.s.n=T.n:=hf.1.2
 have hln:S.l.s.n=T.n:=hl.1.2
 have hj:S.j.s.n=T.n:=hSh.1.2.2.2
 have hen:∀ p,p<T.n→T.en p≤64:=fun p hp=>by have:=(hV.pr p hp).2.2.2.2;omega
 have hF:∀ p,p<T.n→0≤S.f.z p∧S.f.z p≤T.en p:=fun p hp=>hf.2.1 p hp
 have hL:∀ p,p<T.n→0≤S.l.z p∧S.l.z p≤T.en p:=fun p hp=>hl.2.1 p hp
 refine ⟨hfn,hln,by have:=hV.n8;omega,fun p hp=>?_,fun p hp=>(hL p hp).1,fun x hx=>?_,?_⟩
 ·have:=hF p hp;have:=hL p hp;have:=hen p hp;omega
 ·obtain ⟨p,k,hp,hk,rfl⟩:=mem_ownL.1 hx
  have h1:=hF p hp
  have h2:=hL p hp
  obtain ⟨i,hi⟩:∃ i:Nat,(i:Int)=S.f.z p+k:=⟨(S.f.z p).toNat+k,by omega⟩
  have hie:i<T.en p:=by omega
  have hc:=(hR p i hp hie).cut hSh (by omega)
  refine ⟨p,i,by rw [hi];exact Prod.ext rfl (by show S.f.z p+1+(k:Int)=S.f.z p+k+1;omega),by rw [hj];exact hp,by rw [hSh.2 p hp];exact hie,hc.1.2,fun q hq=>?_⟩
  have h3:=hc.2.1 q hq
  have h4:=hen q hq
  omega
 ·refine Nat.le_trans (ownL_tot (en:=T.en) fun p hp=>?_) h24
  have:=hF p hp;have:=hL p hp;omega
set_option maxHeartbeats 1000000 in
theorem grouped_none (w : World) (S : SlcD) (hem : S.em = true) :
    Calls Tryz.prog 111 #[S.val] w fun e w'=>e=.returned (.tuple #[.slice none 0 0,.slice none 0 0])∧Ext w w':=by
 have hv:S.val=.agg #[.bool true,S.f.s.v,S.l.s.v,S.j.s.v]:=by rw [←hem]
 rw [hv]
 clear hem hv
 go_enter Tryz.func111,Tryz.ntmps111
 go_upto_region 1 with fail
 refine boxed1 (w:=w) (G:=fun x=>Code.wp _ _ _ _ x) ?_
 intro w1 hx1 hs1 ⟨l0,c0,_,_⟩
 have hx11:Ext w1 w1:=Ext.refl _
 go_wp2_with fail
 go_ret2
 exact ⟨rfl,hx1⟩
def GroupsPost (S:SlcD) (T:Tr) (w:World) (e:Ending) (w':World):Prop:=
 Ext w w'∧((¬S.Ok T∧e=.returned (.tuple #[.slice none 0 0,.int .i64 1]))∨(S.Ok T∧S.em=true∧e=.returned (.tuple #[.slice none 0 0,.int .i64 0]))∨
  (S.Ok T∧S.em=false∧∃ vg G,e=.returned (.tuple #[vg,.int .i64 0])∧GrpQ w' w.heap.size vg G∧IsGrp T.n (S.E T.n) (·∈S.own T.n) G∧GFin S T.n G))
set_option maxHeartbeats 2000000 in
theorem groups_any (w:World) (T:TM) (hT:T.At w) (S:SlcD) (hS:S.At w) (h24:tot T.en T.n≤39):Calls Tryz.prog 62 #[T.val,S.val] w (GroupsPost S T.toTr w):=by
 have HVA:=Lib.hid (fun W (x:Ext w W)=>svalid_any W T (hT.ext x) S (hS.ext x))
 have HGR:=Lib.hid (fun W (x:Ext w W) (hO:S.GOk T.n) (hem:S.em=false)=>grouped_any W S (hS.ext x) T.n hO hem)
 have HGN:=Lib.hid (fun W (hem:S.em=true)=>grouped_none W S hem)
 have HGK:=Lib.hid (fun (hO:S.Ok T.toTr) (he:S.em=false)=>hO.gok he h24)
 unfold GroupsPost
 simp only [TM.val] at HVA ⊢
 clear hT hS h24
 go_enter Tryz.func62,Tryz.ntmps62
 go_upto_region 1 with fail
 refine boxed2 (w:=w) (G:=fun x=>Code.wp _ _ _ _ x) ?_
 intro w1 hx1 hs1 ⟨l0,c0,_,_⟩ ⟨l1,c1,_,_⟩
 have hx11:Ext w1 w1:=Ext.refl _
 clear hs1
 go_wp2_with fail
 go_at_call 63
 refine (HVA.out w1 hx1).mono ?_
 rintro e w2 ⟨b,rfl,hb,hx12⟩
 have HB:=Lib.hid hb
 have hxw2:=hx1.trans hx12
 clear hb HVA
 cases b with
 | false =>
  have HNO:=Lib.hid (show ¬S.Ok T.toTr from fun h=>absurd (HB.out.2 h) (by decide))
  go_wp2_with fail
  go_ret2
  exact ⟨hxw2,.inl ⟨HNO.out,rfl⟩⟩
 | true =>
  have HOK:=Lib.hid (HB.out.1 rfl)
  clear HB
  rcases hem:S.em with _ | _
  ·have HEM:=Lib.hid hem
   have HG:=Lib.hid (HGR.out w2 hxw2 (HGK.out HOK.out hem) hem)
   rw [show S.val=.agg #[.bool S.em,S.f.s.v,S.l.s.v,S.j.s.v] from rfl,hem] at HG
   rw [hem] at c1
   clear hem HGR HGN HGK
   go_wp2_with fail
   go_at_call 111
   refine HG.out.mono ?_
   rintro e w3 ⟨hx23,vg,ve,G,rfl,hg,hi,hq,hf⟩
   have HR:=Lib.hid (And.intro hg (And.intro hi hf))
   clear hg hi hq hf HG
   go_wp2_with fail
   go_ret2
   exact ⟨hxw2.trans hx23,.inr (.inr ⟨HOK.out,HEM.out,vg,G,rfl,by
    obtain ⟨NG,h1,h2⟩:=HR.out.1
    exact ⟨NG,h1.mono hxw2.le,fun k hk=>(h2 k hk).mono hxw2.le⟩,HR.out.2⟩)⟩
  ·have HEM:=Lib.hid hem
   have HG:=Lib.hid (HGN.out w2 hem)
   rw [show S.val=.agg #[.bool S.em,S.f.s.v,S.l.s.v,S.j.s.v] from rfl,hem] at HG
   rw [hem] at c1
   clear hem HGR HGN HGK
   go_wp2_with fail
   go_at_call 111
   refine HG.out.mono ?_
   rintro e w3 ⟨rfl,hx23⟩
   clear HG
   go_wp2_with fail
   go_ret2
   exact ⟨hxw2.trans hx23,.inr (.inl ⟨HOK.out,HEM.out,rfl⟩)⟩
end Go.Proofs.YtmhapcnlpoilpaaGreatDoor
