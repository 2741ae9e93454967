/- Contracts and laws in plain Lean for RApp: group P64. -/
import Derived.Test.YtmhapcnlpoilpaaGreatDoorP06
import Derived.Test.YtmhapcnlpoilpaaGreatDoorP36
namespace Go.Proofs.YtmhapcnlpoilpaaGreatDoor
open Go.RowKit Go.Shelf
attribute [local go_sem] Oper.semAt_some
theorem peer_sndD {T:Tr} (h:T.Valid) {y:NN} (hy:T.V y) (k3:T.kind y.1 y.2=3):T.peer y.1 y.2=((T.sndN y).1:Int):=by
 have hfy:FormedP T y.1 (T.kind y.1 y.2) (T.peer y.1 y.2) (T.msg y.1 y.2):=h.formed ⟨y,hy⟩
 have h1:=T.sndN_eq ⟨y,hy⟩
 simp only at h1
 have h2:(T.snd ⟨y,hy⟩).1.1=(T.peer y.1 y.2).toNat:=by
  obtain ⟨a,b,e'⟩:=List.append_of_mem (evs_all (⟨y,hy⟩:T.Id))
  have hs:=((h.msg a ⟨y,hy⟩ ⟨b,by rw [e'];simp⟩).2 k3).2
  obtain ⟨i,hi,hp⟩:=anyB_iff.1 hs
  simp only [Bool.and_eq_true,decide_eq_true_eq] at hp
  have hpeer:(T.peer y.1 y.2).toNat<T.n:=by rcases hfy with h | h <;> omega
  have hse:=h.snd_eq (x:=⟨y,hy⟩) (y:=⟨((T.peer y.1 y.2).toNat,i),hpeer,hi⟩) ⟨k3,hp.1.1,hp.1.2⟩
  rw [hse]
 rw [h1,h2]
 rcases hfy with hf | hf <;> omega
def colC (M:Mx) (p:Nat):Int:=if M.rn p=0 then 0 else M.val p (M.rn p - 1)+1
open Classical in
noncomputable def colV (T:Tr) (M:Mx) (p:Nat):Value:=
 if T.kind p (M.rn p)=3 then
  if M.rn (T.sndN (p,M.rn p)).1≤(T.sndN (p,M.rn p)).2 then .tuple #[.int .i64 0,.bool false]
  else .tuple #[.int .i64 (max (colC M p) (M.val (T.sndN (p,M.rn p)).1 (T.sndN (p,M.rn p)).2+1)),.bool true]
 else .tuple #[.int .i64 (colC M p),.bool true]
set_option maxRecDepth 100000 in
set_option maxHeartbeats 2000000 in
theorem column_any (w : World) (T : TM) (hT : T.At w) (hV : T.toTr.Valid) (M : MM) (hM : M.At w) (hMn : M.n = T.n) (hsm : ∀ k i, k < M.n → i < M.rn k → 0 ≤ M.val k i ∧ M.val k i < 1000000000) (p : Nat) (hp : p < T.n) (hlt : M.rn p < T.en p) :
    Calls Tryz.prog 84 #[T.val,.slice M.a M.n M.cap,.int .i64 p] w fun e w'=>e=.returned (colV T.toTr M.toMx p)∧Ext w w':=by
 obtain ⟨cc,hcc⟩:∃ cc,cc=colC M.toMx p:=⟨_,rfl⟩
 have hccb:0≤cc∧cc≤1000000000:=by
  rw [hcc];unfold colC
  by_cases h:M.rn p=0
  ·rw [if_pos h];omega
  ·rw [if_neg h];have:=hsm p (M.rn p - 1) (by omega) (by omega);omega
 have HCV:=Lib.hid (show (T.kind p (M.rn p)=3→colV T.toTr M.toMx p=if M.rn (T.toTr.sndN (p,M.rn p)).1≤(T.toTr.sndN (p,M.rn p)).2 then .tuple #[.int .i64 0,.bool false] else .tuple #[.int .i64 (max cc (M.val (T.toTr.sndN (p,M.rn p)).1 (T.toTr.sndN (p,M.rn p)).2+1)),.bool true])∧(T.kind p (M.rn p)≠3→colV T.toTr M.toMx p=.tuple #[.int .i64 cc,.bool true]) from by
  unfold colV;rw [hcc];exact ⟨fun h=>by rw [if_pos h],fun h=>by rw [if_neg h]⟩)
 have HSN:=Lib.hid (show T.kind p (M.rn p)=3→∃ q j:Nat,q<T.n∧j<T.en q∧T.peer p (M.rn p)=q∧T.toTr.sndN (p,M.rn p)=(q,j)∧(T.kind q j=2∧T.msg q j=T.msg p (M.rn p))∧∀ j',j'<T.en q→T.kind q j'=2→T.msg q j'=T.msg p (M.rn p)→j'=j from fun k3=>by
  have hx:T.V (p,M.rn p):=⟨hp,hlt⟩
  have hyV:=Tr.sndN_V hx
  have hs:=hV.sndN hx k3
  refine ⟨(T.toTr.sndN (p,M.rn p)).1,(T.toTr.sndN (p,M.rn p)).2,hyV.1,hyV.2,peer_sndD hV hx k3,rfl,hs,fun j' h1 h2 h3=>?_⟩
  have:=hV.uniq2 (x:=⟨((T.toTr.sndN (p,M.rn p)).1,j'),hyV.1,h1⟩) (y:=⟨T.toTr.sndN (p,M.rn p),hyV⟩) h2 hs.1 (h3.trans hs.2.symm)
  exact (Prod.mk.inj (congrArg Subtype.val this)).2)
 have hp':(p:Int)<(T.n:Int):=by omega
 have pa:=hT.P.pa (by omega)
 have pb:=hT.P.pb (by omega)
 have hen:=hT.E.he p hp
 have hen64:T.en p≤64:=by have:=(hV.pr p hp).2.2.2.2;omega
 have ma:=hM.pa (by omega)
 have mb:=hM.pb (by omega)
 have m0:=hM.p0
 have mr:=hM.r0
 have hpM:(p:Int)<(M.n:Int):=by omega
 have hlt':(M.rn p:Int)<(T.en p:Int):=by omega
 have hpMn:p<M.n:=by omega
 have HV64:=Lib.hid (show ∀ q,q<T.n→T.en q≤64 from fun q hq=>by have:=(hV.pr q hq).2.2.2.2;omega)
 have HT:=Lib.hid hT
 have HV:=Lib.hid hV
 have HM:=Lib.hid hM
 have HSM:=Lib.hid hsm
 clear hT hV hM hsm
 simp only [TM.val,pa,ma]
 go_enter Tryz.func84,Tryz.ntmps84
 go_upto_region 1 with fail
 refine boxed1 (w:=w) (G:=fun x=>Code.wp _ _ _ _ x) ?_
 intro w1 hx1 hs1 ⟨l0,c0,_,_⟩
 have hx11:Ext w1 w1:=Ext.refl _
 clear hs1
 by_cases h0:0<M.rn p
 ·have h0':(0:Int)<(M.rn p:Int):=by omega
  have hra:=HM.out.ra p hpMn h0
  have hrb:=HM.out.rb p hpMn h0
  have hv:=HSM.out p (M.rn p - 1) hpMn (by omega)
  obtain ⟨z,hz⟩:∃ z,z=M.val p (M.rn p - 1):=⟨_,rfl⟩
  obtain rfl:cc=z+1:=by rw [hcc,hz];unfold colC;rw [if_neg (by omega)]
  have sl:∀ w',Ext w w'→w'.cell? ⟨M.rb p,M.ro p+(M.rn p - 1),none⟩=some (.int .i64 z):=fun w' x=>by rw [hz];exact HM.out.r0 w' x p _ hpMn (by omega)
  have hwz:IntKind.i64.wrap (z+1)=z+1:=IntWalk.i64_in _ (by omega)
  rw [←hz] at hv
  clear hcc hz
  go_upto_region 5 with fail
  have ea:=HT.out.E.ea p hp (by omega)
  have eb:=fun w' (h:Ext w1 w')=>HT.out.E.eb p hp (by omega) w' (hx1.trans h)
  have tb:∀ w',Ext w1 w'→T.b<w'.heap.size:=fun w' h=>pb w' (hx1.trans h)
  have mb1:∀ w',Ext w1 w'→M.b<w'.heap.size:=fun w' h=>mb w' (hx1.trans h)
  have p24:∀ w',Ext w1 w'→w'.cell? ⟨T.b,T.off+p*3+2,none⟩=some (.slice (T.ea p) (T.en p) (T.ec p)):=fun w' h=>HT.out.P.p2 w' (hx1.trans h) p hp
  have m04:∀ w',Ext w1 w'→w'.cell? ⟨M.b,M.off+p,none⟩=some (.slice (M.ra p) (M.rn p) (M.rc p)):=fun w' h=>HM.out.p0 w' (hx1.trans h) p hpMn
  have e0:∀ w',Ext w1 w'→w'.cell? ⟨T.eb p,T.eo p+M.rn p*5,none⟩=some (.int .i64 (T.kind p (M.rn p))):=fun w' h=>HT.out.E.e0 w' (hx1.trans h) p _ hp hlt
  have e1:∀ w',Ext w1 w'→w'.cell? ⟨T.eb p,T.eo p+M.rn p*5+1,none⟩=some (.int .i64 (T.peer p (M.rn p))):=fun w' h=>HT.out.E.e1 w' (hx1.trans h) p _ hp hlt
  have e2:∀ w',Ext w1 w'→w'.cell? ⟨T.eb p,T.eo p+M.rn p*5+2,none⟩=some (.int .i64 (T.msg p (M.rn p))):=fun w' h=>HT.out.E.e2 w' (hx1.trans h) p _ hp hlt
  have e3:∀ w',Ext w1 w'→w'.cell? ⟨T.eb p,T.eo p+M.rn p*5+3,none⟩=some (.int .i64 (T.time p (M.rn p))):=fun w' h=>HT.out.E.e3 w' (hx1.trans h) p _ hp hlt
  have e4:∀ w',Ext w1 w'→w'.cell? ⟨T.eb p,T.eo p+M.rn p*5+4,none⟩=some (.slice (T.aa p (M.rn p)) (T.an p (M.rn p)) (T.ac p (M.rn p))):=fun w' h=>HT.out.E.e4 w' (hx1.trans h) p _ hp hlt
  go_region_held3 (fun w'=>Ext w1 w') (first | exact (Ext.refl w1).drew | exact ((Ext.refl w1).alloc' _).drew) (first | fail)
  simp only [Exit.then]
  go_upto_region 6 with fail
  refine boxdr1 (w:=w1) (G:=fun x=>Code.wp _ _ _ _ x) ?_
  intro w5 hx5 hs5 ⟨l5,c5,_,_⟩
  have hx55:Ext w5 w5:=Ext.refl _
  have hxw5:=hx1.trans hx5
  clear e0 e1 e2 e3 e4 eb ea hs5 p24 m04 tb mb1
  by_cases k3:T.kind p (M.rn p)=3
  ·have hcv:=HCV.out.1 k3
   obtain ⟨q,j,hqn,hjn,hps,hsn,⟨hk2,hm2⟩,hU⟩:=HSN.out k3
   rw [hsn] at hcv
   have HCW:=Lib.hid hcv
   have HU:=Lib.hid hU
   simp only [k3,hps] at c5 ⊢
   have hq':(q:Int)<(T.n:Int):=by omega
   have hen2:=HV64.out q hqn
   have p2:∀ w',Ext w w'→w'.cell? ⟨T.b,T.off+q*3+2,none⟩=some (.slice (T.ea q) (T.en q) (T.ec q)):=fun w' h=>HT.out.P.p2 w' h q hqn
   have m0:∀ w',Ext w w'→w'.cell? ⟨M.b,M.off+q,none⟩=some (.slice (M.ra q) (M.rn q) (M.rc q)):=fun w' h=>HM.out.p0 w' h q (by omega)
   have hea:=HT.out.E.ea q hqn (by omega)
   obtain ⟨me,hme⟩:∃ z,z=T.msg p (M.rn p):=⟨_,rfl⟩
   rw [←hme] at hm2 c5 ⊢
   have HUE:=Lib.hid (fun i hi h2 (h3:T.msg q i=me)=>HU.out i hi h2 (h3.trans hme))
   clear hcv HCV HSN hU HU hme hps k3
   simp only [hea] at p2
   go_wp2_with fail
   go_loopg [54] (T.en q) (fun gg v54 wr=>∃ i:Nat,i≤j∧gg=T.en q - i∧v54=.int .i64 i∧Ext w5 wr)
   case atStart=>exact ⟨0,by omega,rfl,rfl,hx55⟩
   case round=>
    obtain ⟨i,hi,rfl,rfl,hxr⟩:=hrel
    have hxwr:=hxw5.trans hxr
    have hie:i<T.en q:=by omega
    have hie':(i:Int)<(T.en q:Int):=by omega
    have eb:=fun w' (h:Ext w w')=>HT.out.E.eb q hqn (by omega) w' h
    have e0:∀ w',Ext w w'→w'.cell? ⟨T.eb q,T.eo q+i*5,none⟩=some (.int .i64 (T.kind q i)):=fun w' x=>HT.out.E.e0 w' x q i hqn hie
    have e1:∀ w',Ext w w'→w'.cell? ⟨T.eb q,T.eo q+i*5+1,none⟩=some (.int .i64 (T.peer q i)):=fun w' x=>HT.out.E.e1 w' x q i hqn hie
    have e2:∀ w',Ext w w'→w'.cell? ⟨T.eb q,T.eo q+i*5+2,none⟩=some (.int .i64 (T.msg q i)):=fun w' x=>HT.out.E.e2 w' x q i hqn hie
    have e3:∀ w',Ext w w'→w'.cell? ⟨T.eb q,T.eo q+i*5+3,none⟩=some (.int .i64 (T.time q i)):=fun w' x=>HT.out.E.e3 w' x q i hqn hie
    have e4:∀ w',Ext w w'→w'.cell? ⟨T.eb q,T.eo q+i*5+4,none⟩=some (.slice (T.aa q i) (T.an q i) (T.ac q i)):=fun w' x=>HT.out.E.e4 w' x q i hqn hie
    go_upto_region 11 with fail
    refine boxed1 (w:=wr) (G:=fun x=>Code.wp _ _ _ _ x) ?_
    intro w6 hx6 hs6 ⟨l6,c6,_,_⟩
    have hx66:Ext w6 w6:=Ext.refl _
    have hx56:=hxr.trans hx6
    have hxw6:=hxw5.trans hx56
    clear hs6 e0 e1 e2 e3 e4 eb
    by_cases hij:i=j
    ·subst hij
     simp only [hk2,hm2] at c6 ⊢
     have HH:=Lib.hid (And.intro hk2 hm2)
     clear hk2 hm2
     by_cases hle:M.rn q≤i
     ·have d1:decide ((M.rn q:Int)≤(i:Int))=true:=decide_eq_true (by omega)
      go_wp2_with fail
      go_ret2
      exact ⟨by rw [HCW.out,if_pos hle];rfl,hxw6⟩
     ·have d1:decide ((M.rn q:Int)≤(i:Int))=false:=decide_eq_false (by omega)
      obtain ⟨v,hv2⟩:∃ v,v=M.val q i:=⟨_,rfl⟩
      have hvb:=HSM.out q i (by omega) (by omega)
      have mq:∀ w',Ext w w'→w'.cell? ⟨M.rb q,M.ro q+i,none⟩=some (.int .i64 v):=fun w' x=>by rw [hv2];exact HM.out.r0 w' x q i (by omega) (by omega)
      have mrb:=HM.out.rb q (by omega) (by omega)
      have mra:=HM.out.ra q (by omega) (by omega)
      simp only [mra] at m0
      have hir:(i:Int)<(M.rn q:Int):=by omega
      rw [←hv2] at hvb
      have HV2:=Lib.hid hv2
      clear hv2
      have hwv:IntKind.i64.wrap (v+1)=v+1:=IntWalk.i64_in _ (by omega)
      go_wp2_with fail
      all_goals go_ret2
      all_goals refine ⟨?_,hxw6⟩
      all_goals rw [HCW.out,if_neg hle,←HV2.out]
      all_goals first | (rw [Int.max_eq_right (by omega)];rfl) | (rw [Int.max_eq_left (by omega)];rfl)
    ·have hi2:i<j:=by omega
     by_cases hk:T.kind q i=2
     ·have d1:(T.kind q i == 2)=true:=by simpa using hk
      have d2:(T.msg q i == me)=false:=by
       rw [beq_eq_false_iff_ne];intro h;have:=HUE.out i hie hk h;omega
      clear hk
      go_wp2_with fail
      go_roundg (T.en q - (i+1))
      case rel=>exact ⟨i+1,by omega,rfl,by go_num,hx56⟩
      case measure=>omega
     ·have d1:(T.kind q i == 2)=false:=by simpa using hk
      clear hk
      go_wp2_with fail
      go_roundg (T.en q - (i+1))
      case rel=>exact ⟨i+1,by omega,rfl,by go_num,hx56⟩
      case measure=>omega
  ·have hkb:(T.kind p (M.rn p) == 3)=false:=by simpa using k3
   have hcv:=HCV.out.2 k3
   go_wp2_with fail
   go_ret2
   exact ⟨by rw [hcv];rfl,hxw5⟩
 ·have h0':decide ((0:Int)<(M.rn p:Int))=false:=decide_eq_false (by omega)
  obtain rfl:cc=0:=by rw [hcc];unfold colC;rw [if_pos (by omega)]
  clear hcc
  go_upto_region 5 with fail
  have ea:=HT.out.E.ea p hp (by omega)
  have eb:=fun w' (h:Ext w1 w')=>HT.out.E.eb p hp (by omega) w' (hx1.trans h)
  have tb:∀ w',Ext w1 w'→T.b<w'.heap.size:=fun w' h=>pb w' (hx1.trans h)
  have mb1:∀ w',Ext w1 w'→M.b<w'.heap.size:=fun w' h=>mb w' (hx1.trans h)
  have p24:∀ w',Ext w1 w'→w'.cell? ⟨T.b,T.off+p*3+2,none⟩=some (.slice (T.ea p) (T.en p) (T.ec p)):=fun w' h=>HT.out.P.p2 w' (hx1.trans h) p hp
  have m04:∀ w',Ext w1 w'→w'.cell? ⟨M.b,M.off+p,none⟩=some (.slice (M.ra p) (M.rn p) (M.rc p)):=fun w' h=>HM.out.p0 w' (hx1.trans h) p hpMn
  have e0:∀ w',Ext w1 w'→w'.cell? ⟨T.eb p,T.eo p+M.rn p*5,none⟩=some (.int .i64 (T.kind p (M.rn p))):=fun w' h=>HT.out.E.e0 w' (hx1.trans h) p _ hp hlt
  have e1:∀ w',Ext w1 w'→w'.cell? ⟨T.eb p,T.eo p+M.rn p*5+1,none⟩=some (.int .i64 (T.peer p (M.rn p))):=fun w' h=>HT.out.E.e1 w' (hx1.trans h) p _ hp hlt
  have e2:∀ w',Ext w1 w'→w'.cell? ⟨T.eb p,T.eo p+M.rn p*5+2,none⟩=some (.int .i64 (T.msg p (M.rn p))):=fun w' h=>HT.out.E.e2 w' (hx1.trans h) p _ hp hlt
  have e3:∀ w',Ext w1 w'→w'.cell? ⟨T.eb p,T.eo p+M.rn p*5+3,none⟩=some (.int .i64 (T.time p (M.rn p))):=fun w' h=>HT.out.E.e3 w' (hx1.trans h) p _ hp hlt
  have e4:∀ w',Ext w1 w'→w'.cell? ⟨T.eb p,T.eo p+M.rn p*5+4,none⟩=some (.slice (T.aa p (M.rn p)) (T.an p (M.rn p)) (T.ac p (M.rn p))):=fun w' h=>HT.out.E.e4 w' (hx1.trans h) p _ hp hlt
  go_region_held3 (fun w'=>Ext w1 w') (first | exact (Ext.refl w1).drew | exact ((Ext.refl w1).alloc' _).drew) (first | fail)
  simp only [Exit.then]
  go_upto_region 6 with fail
  refine boxdr1 (w:=w1) (G:=fun x=>Code.wp _ _ _ _ x) ?_
  intro w5 hx5 hs5 ⟨l5,c5,_,_⟩
  have hx55:Ext w5 w5:=Ext.refl _
  have hxw5:=hx1.trans hx5
  clear e0 e1 e2 e3 e4 eb ea hs5 p24 m04 tb mb1
  by_cases k3:T.kind p (M.rn p)=3
  ·have hcv:=HCV.out.1 k3
   obtain ⟨q,j,hqn,hjn,hps,hsn,⟨hk2,hm2⟩,hU⟩:=HSN.out k3
   rw [hsn] at hcv
   have HCW:=Lib.hid hcv
   have HU:=Lib.hid hU
   simp only [k3,hps] at c5 ⊢
   have hq':(q:Int)<(T.n:Int):=by omega
   have hen2:=HV64.out q hqn
   have p2:∀ w',Ext w w'→w'.cell? ⟨T.b,T.off+q*3+2,none⟩=some (.slice (T.ea q) (T.en q) (T.ec q)):=fun w' h=>HT.out.P.p2 w' h q hqn
   have m0:∀ w',Ext w w'→w'.cell? ⟨M.b,M.off+q,none⟩=some (.slice (M.ra q) (M.rn q) (M.rc q)):=fun w' h=>HM.out.p0 w' h q (by omega)
   have hea:=HT.out.E.ea q hqn (by omega)
   obtain ⟨me,hme⟩:∃ z,z=T.msg p (M.rn p):=⟨_,rfl⟩
   rw [←hme] at hm2 c5 ⊢
   have HUE:=Lib.hid (fun i hi h2 (h3:T.msg q i=me)=>HU.out i hi h2 (h3.trans hme))
   clear hcv HCV HSN hU HU hme hps k3
   simp only [hea] at p2
   go_wp2_with fail
   go_loopg [54] (T.en q) (fun gg v54 wr=>∃ i:Nat,i≤j∧gg=T.en q - i∧v54=.int .i64 i∧Ext w5 wr)
   case atStart=>exact ⟨0,by omega,rfl,rfl,hx55⟩
   case round=>
    obtain ⟨i,hi,rfl,rfl,hxr⟩:=hrel
    have hxwr:=hxw5.trans hxr
    have hie:i<T.en q:=by omega
    have hie':(i:Int)<(T.en q:Int):=by omega
    have eb:=fun w' (h:Ext w w')=>HT.out.E.eb q hqn (by omega) w' h
    have e0:∀ w',Ext w w'→w'.cell? ⟨T.eb q,T.eo q+i*5,none⟩=some (.int .i64 (T.kind q i)):=fun w' x=>HT.out.E.e0 w' x q i hqn hie
    have e1:∀ w',Ext w w'→w'.cell? ⟨T.eb q,T.eo q+i*5+1,none⟩=some (.int .i64 (T.peer q i)):=fun w' x=>HT.out.E.e1 w' x q i hqn hie
    have e2:∀ w',Ext w w'→w'.cell? ⟨T.eb q,T.eo q+i*5+2,none⟩=some (.int .i64 (T.msg q i)):=fun w' x=>HT.out.E.e2 w' x q i hqn hie
    have e3:∀ w',Ext w w'→w'.cell? ⟨T.eb q,T.eo q+i*5+3,none⟩=some (.int .i64 (T.time q i)):=fun w' x=>HT.out.E.e3 w' x q i hqn hie
    have e4:∀ w',Ext w w'→w'.cell? ⟨T.eb q,T.eo q+i*5+4,none⟩=some (.slice (T.aa q i) (T.an q i) (T.ac q i)):=fun w' x=>HT.out.E.e4 w' x q i hqn hie
    go_upto_region 11 with fail
    refine boxed1 (w:=wr) (G:=fun x=>Code.wp _ _ _ _ x) ?_
    intro w6 hx6 hs6 ⟨l6,c6,_,_⟩
    have hx66:Ext w6 w6:=Ext.refl _
    have hx56:=hxr.trans hx6
    have hxw6:=hxw5.trans hx56
    clear hs6 e0 e1 e2 e3 e4 eb
    by_cases hij:i=j
    ·subst hij
     simp only [hk2,hm2] at c6 ⊢
     have HH:=Lib.hid (And.intro hk2 hm2)
     clear hk2 hm2
     by_cases hle:M.rn q≤i
     ·have d1:decide ((M.rn q:Int)≤(i:Int))=true:=decide_eq_true (by omega)
      go_wp2_with fail
      go_ret2
      exact ⟨by rw [HCW.out,if_pos hle];rfl,hxw6⟩
     ·have d1:decide ((M.rn q:Int)≤(i:Int))=false:=decide_eq_false (by omega)
      obtain ⟨v,hv2⟩:∃ v,v=M.val q i:=⟨_,rfl⟩
      have hvb:=HSM.out q i (by omega) (by omega)
      have mq:∀ w',Ext w w'→w'.cell? ⟨M.rb q,M.ro q+i,none⟩=some (.int .i64 v):=fun w' x=>by rw [hv2];exact HM.out.r0 w' x q i (by omega) (by omega)
      have mrb:=HM.out.rb q (by omega) (by omega)
      have mra:=HM.out.ra q (by omega) (by omega)
      simp only [mra] at m0
      have hir:(i:Int)<(M.rn q:Int):=by omega
      rw [←hv2] at hvb
      have HV2:=Lib.hid hv2
      clear hv2
      have hwv:IntKind.i64.wrap (v+1)=v+1:=IntWalk.i64_in _ (by omega)
      go_wp2_with fail
      all_goals go_ret2
      all_goals refine ⟨?_,hxw6⟩
      all_goals rw [HCW.out,if_neg hle,←HV2.out]
      all_goals first | (rw [Int.max_eq_right (by omega)];rfl) | (rw [Int.max_eq_left (by omega)];rfl)
    ·have hi2:i<j:=by omega
     by_cases hk:T.kind q i=2
     ·have d1:(T.kind q i == 2)=true:=by simpa using hk
      have d2:(T.msg q i == me)=false:=by
       rw [beq_eq_false_iff_ne];intro h;have:=HUE.out i hie hk h;omega
      clear hk
      go_wp2_with fail
      go_roundg (T.en q - (i+1))
      case rel=>exact ⟨i+1,by omega,rfl,by go_num,hx56⟩
      case measure=>omega
     ·have d1:(T.kind q i == 2)=false:=by simpa using hk
      clear hk
      go_wp2_with fail
      go_roundg (T.en q - (i+1))
      case rel=>exact ⟨i+1,by omega,rfl,by go_num,hx56⟩
      case measure=>omega
  ·have hkb:(T.kind p (M.rn p) == 3)=false:=by simpa using k3
   have hcv:=HCV.out.2 k3
   go_wp2_with fail
   go_ret2
   exact ⟨by rw [hcv];rfl,hxw5⟩
end Go.Proofs.YtmhapcnlpoilpaaGreatDoor
