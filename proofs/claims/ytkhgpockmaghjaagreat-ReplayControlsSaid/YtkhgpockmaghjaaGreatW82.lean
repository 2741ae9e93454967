/- Contracts and laws in plain Lean for RApp: group W82. -/
import Derived.Test.YtkhgpockmaghjaaGreatW81
import Derived.Test.YtkhgpockmaghjaaGreatW78
set_option maxRecDepth 100000
namespace Go.Proofs.YtkhgpockmaghjaaGreat
open Go.RowKit Go.Shelf
attribute [local go_sem] Oper.semAt_some
theorem IntRow.as {w:World} {g n:Nat} {f f':Nat→Int} (h:IntRow w g n f) (e:∀ k,k<n→f' k=f k):IntRow w g n f':=⟨fun k hk=>by rw [e k hk];exact h.c k hk,h.fr,h.lt⟩
theorem IntRow.put {w:World} {g n:Nat} {f:Nat→Int} (h:IntRow w g n f) (q:Nat) (v:Int):IntRow (w.setCell ⟨g,q,none⟩ (.int .i64 v)) g n (fun j=>if j=q then v else f j):=by
 refine ⟨fun k hk=>?_,fun o=>?_,by rw [World.size_setCell];exact h.lt⟩
 ·by_cases e:k=q
  ·subst e
   rw [if_pos rfl];exact World.cell?_setCell_same _ _ _ (h.c k hk)
  ·rw [if_neg e];refine Eq.trans ?_ (h.c k hk);apply World.cell?_setCell_other;intro h9;simp only [Addr.mk.injEq] at h9;exact e h9.2.1.symm
 ·rw [frozen_set];exact h.fr o
theorem prj_succ {T:Tr} {N:List Syn} {F:List Nat} {p m:Nat} (h:∃ i,i<T.en p∧T.pos N F p i=m):T.prj N F p (m+1)=T.prj N F p m+1:=by
 show T.prj N F p m+_=_
 rw [if_pos h]
theorem prj_same {T:Tr} {N:List Syn} {F:List Nat} {p m:Nat} (h:¬ ∃ i,i<T.en p∧T.pos N F p i=m):T.prj N F p (m+1)=T.prj N F p m:=by
 show T.prj N F p m+_=_
 rw [if_neg h];rfl
set_option maxHeartbeats 1000000 in
theorem index_bool (w : World) (g n : Nat) (f : Nat → Bool) (h : BRow w g n f) (hf : ∀ i, i < n → f i = true) (hn : n ≤ 100000) :
    Calls Tryz.prog 79 #[.slice (some ⟨g,0,none⟩) n n,.bool false] w fun e w'=>e=.returned (.int .i64 (-1))∧Ext w w':=by
 have H:=Lib.hid h
 have HF:=Lib.hid hf
 have c0:∀ w',Ext w w'→∀ i,i<n→w'.cell? ⟨g,i,none⟩=some (.bool true):=fun w' x i hi=>by rw [x.cell (h.c i hi),hf i hi]
 have HC:=Lib.hid c0
 have gl:∀ w',Ext w w'→g<w'.heap.size:=fun w' x=>Nat.lt_of_lt_of_le h.lt x.le
 clear h hf c0
 have hxx:=Ext.refl w
 go_enter Tryz.func79,Tryz.ntmps79
 go_wp2_with fail
 go_loopg [8] n (fun gg v8 wr=>∃ k:Nat,k≤n∧gg=n - k∧v8=.int .i64 k∧Ext w wr)
 case atStart=>exact ⟨0,by omega,rfl,rfl,hxx⟩
 case round=>
  clear hxx
  obtain ⟨k,hk,rfl,rfl,hxr⟩:=hrel
  by_cases hlt:k<n
  case neg=>
   obtain rfl:k=n:=by omega
   go_wp2_with fail
   go_ret
   exact ⟨rfl,hxr⟩
  have hlt':(k:Int)<(n:Int):=by omega
  have p0:∀ w',Ext w w'→w'.cell? ⟨g,k,none⟩=some (.bool true):=fun w' x=>HC.out w' x k hlt
  go_wp2_with fail
  go_roundg (n - (k+1))
  case rel=>exact ⟨k+1,by omega,rfl,by go_num,hxr⟩
  case measure=>omega
set_option maxHeartbeats 1000000 in
theorem contains_bool (w : World) (g n : Nat) (f : Nat → Bool) (h : BRow w g n f) (hf : ∀ i, i < n → f i = true) (hn : n ≤ 100000) :
    Calls Tryz.prog 36 #[.slice (some ⟨g,0,none⟩) n n,.bool false] w fun e w'=>e=.returned (.bool false)∧Ext w w':=by
 have hi:=index_bool w g n f h hf hn
 clear h hf
 go_enter Tryz.func36,Tryz.ntmps36
 go_wp2_with (go_at_call 79;refine hi.mono ?_;rintro e w2 ⟨rfl,hx2⟩)
 go_ret
 exact ⟨rfl,hx2⟩
set_option maxHeartbeats 2000000 in
theorem lengths_any (w : World) (T : TM) (hT : T.At w) (hn : T.n ≤ 1000) :
    Calls Tryz.prog 31 #[T.val] w fun e w'=>Ext w w'∧∃ v,e=.returned v∧Que w' w.heap.size 1 v T.n (intCells ((List.range T.n).map fun i=>((T.en i:Nat):Int))):=by
 obtain ⟨j0,hj0,hy0,hy1,hy2⟩:=info_parts infoInt
 have HT:=Lib.hid hT
 obtain ⟨ta,hta⟩:∃ z,z=T.a:=⟨_,rfl⟩
 have HTA:=Lib.hid hta
 simp only [TM.val,←hta]
 clear hT hta
 go_enter Tryz.func31,Tryz.ntmps31
 go_upto_region 1 with fail
 refine boxed1 (w:=w) (G:=fun x=>Code.wp _ _ _ _ x) ?_
 intro w1 hx1 hs1 ⟨l0,c0,_,_⟩
 have hx11:Ext w1 w1:=Ext.refl _
 clear hs1
 go_wp2_with fail
 go_loopg [3,4] T.n (fun gg v3 v4 wr=>∃ k:Nat,k≤T.n∧gg=T.n - k∧v4=.int .i64 k∧Ext w1 wr∧Que wr w1.heap.size 1 v3 k (intCells ((List.range k).map fun i=>((T.en i:Nat):Int))))
 case atStart=>exact ⟨0,by omega,rfl,rfl,hx11,Que.nil _ _ _⟩
 case round=>
  obtain ⟨k,hk,rfl,rfl,hx1r,hQ⟩:=hrel
  obtain ⟨qa,qc,rfl⟩:=hQ.slice
  have HQ:=Lib.hid hQ
  have hxwr:=hx1.trans hx1r
  clear hQ hx11
  by_cases hlt:k<T.n
  case neg=>
   obtain rfl:k=T.n:=by omega
   go_wp2_with fail
   go_ret
   exact ⟨hxwr,_,rfl,HQ.out.mono hx1.le⟩
  have hlt':(k:Int)<(T.n:Int):=by omega
  obtain rfl:ta=some ⟨T.b,T.off,none⟩:=HTA.out.trans (HT.out.P.pa (by omega))
  have pb:=HT.out.P.pb (by omega)
  have p2:=fun w' (h:Ext w w')=>HT.out.P.p2 w' h k hlt
  have hsz:=hx1r.le
  go_upto_region 4 with (at_builtin;refine wpList_append_que _ rfl _ _ 39 39 rfl (base:=w1.heap.size) (e:=3) (size:=1) j0 (.int .i64 0) 8 Tryz.underlying39 hj0 hy0 hy1 hy2 rfl rfl (v:=.slice qa k qc) (n:=k) (xs:=intCells ((List.range k).map fun i=>((T.en i:Nat):Int))) (HQ.out.ext (Ext.alloc wr (.cells #[.int .i64 (T.en k:Nat)] 3))) (by rw [World.size_alloc];omega) (.slice (some ⟨wr.heap.size,0,none⟩) 1 1) 1 [.int .i64 (T.en k:Nat)] rfl (by exact Src.ofSlice _ Tryz.underlying39 ⟨wr.heap.size,0,none⟩ 1 1 _ rfl (news_ok wr _ _) (one_int _)) (by unfold maxLen;omega) (by omega) ?_;rintro v9 w9 hq9 hg9 -;have H9:=Lib.hid (show Que w9 w1.heap.size 1 v9 (k+1) (intCells ((List.range (k+1)).map fun i=>((T.en i:Nat):Int))) from by rw [List.range_succ,List.map_append];simpa [intCells] using hq9);have hx19:Ext w1 w9:=Below.grown (hx1r.trans (Ext.alloc wr (.cells #[.int .i64 (T.en k:Nat)] 3))) hg9 (by rw [World.size_alloc];have:=hx1r.le;omega) (fun g e=>by exact HQ.out.block g e);clear hq9 hg9)
  go_wp2_with fail
  go_roundg (T.n - (k+1))
  case rel=>exact ⟨k+1,by omega,rfl,by go_num,hx19,H9.out⟩
  case measure=>omega
def ProjPost (T:Tr) (N:List Syn) (F:List Nat) (d:Nat→Nat) (w:World) (e:Ending) (w':World):Prop:=Ext w w'∧∃ g,e=.returned (.slice (some ⟨g,0,none⟩) T.n T.n)∧w.heap.size≤g∧IntRow w' g T.n (fun p=>((T.prj N F p (d p):Nat):Int))
set_option maxHeartbeats 4000000 in
theorem project_any (w : World) (T U : TM) (hT : T.At w) (hU : U.At w) (hV : T.toTr.Valid) (N : List Syn) (F : List Nat) (hA : AplOk T.toTr N F) (hUT : U.toTr = T.toTr.aplTr N F) (a : Option Addr) (g o c : Nat) (d : Nat → Nat) (hd : NumAt w T.n a g o (natV d)) (hle : ∀ p, p < T.n → d p ≤ U.en p) :
    Calls Tryz.prog 32 #[T.val,U.val,.slice a T.n c] w (ProjPost T.toTr N F d w):=by
 obtain ⟨j0,hj0,hy0,hy1,hy2⟩:=info_parts infoInt
 unfold ProjPost
 have hn8:T.n≤8:=hV.n8
 have hn1:1≤T.n:=hV.n1
 have hun:U.n=T.n:=(show U.toTr.n=(T.toTr.aplTr N F).n from by rw [hUT])
 have HNM:=Lib.hid (fun W (x:Ext w W)=>rnumbers_any W T (hT.ext x) hV)
 have HU:=Lib.hid hU
 have HV:=Lib.hid hV
 have HA:=Lib.hid hA
 have HD:=Lib.hid hd
 have HLE:=Lib.hid (show ∀ p,p<T.n→d p≤U.en p∧U.en p≤64 from fun p hp=>⟨hle p hp,by
  have h1:U.en p=(T.toTr.aplTr N F).en p:=congrFun (congrArg Tr.en hUT) p
  rw [h1];exact hA.en p hp⟩)
 have HUK:=Lib.hid (show (∀ p k,U.kind p k=(T.toTr.aplTr N F).kind p k)∧(∀ p k,U.msg p k=(T.toTr.aplTr N F).msg p k)∧∀ p,U.en p=(T.toTr.aplTr N F).en p from ⟨fun p k=>congrFun (congrFun (congrArg Tr.kind hUT) p) k,fun p k=>congrFun (congrFun (congrArg Tr.msg hUT) p) k,fun p=>congrFun (congrArg Tr.en hUT) p⟩)
 obtain ⟨ta,hta⟩:∃ z,z=T.a:=⟨_,rfl⟩
 obtain ⟨ua,hua⟩:∃ z,z=U.a:=⟨_,rfl⟩
 have HUA:=Lib.hid hua
 obtain rfl:=hd.pa (by omega)
 have gd:∀ w',Ext w w'→g<w'.heap.size:=fun w' x=>Nat.lt_of_lt_of_le (hd.pb (by omega)) x.le
 simp only [TM.val,←hta,←hua] at HNM ⊢
 rw [hun]
 clear hT hU hV hA hUT hd hle hta hua
 go_enter Tryz.func32,Tryz.ntmps32
 go_upto_region 1 with fail
 refine boxed2 (w:=w) (G:=fun x=>Code.wp _ _ _ _ x) ?_
 intro w1 hx1 hs1 ⟨l0,c0,_,_⟩ ⟨l1,c1,_,_⟩
 have hx11:Ext w1 w1:=Ext.refl _
 clear hs1
 go_wp2_with fail
 go_at_call 57
 refine (HNM.out w1 hx1).mono ?_
 rintro e w2 ⟨hx2,g7,f,rfl,hg7,hR7,hf7⟩
 have HF:=Lib.hid hf7
 have HR7:=Lib.hid hR7
 have hxw2:=hx1.trans hx2
 clear hg7 hR7 hf7 hx11
 have h22:Ext w2 w2:=Ext.refl _
 go_upto_region 3 with (at_make;refine wpList_make_full _ rfl _ _ 39 rfl w2.heap.size 3 j0 (.int .i64 0) 1 Tryz.underlying39 hj0 hy0 hy1 .i64 .i64 _ _ T.n rfl rfl rfl rfl (by rw [hy2];omega) (by unfold maxLen;omega) (Nat.le_refl _) ?_;intro w4 hown4 hg4;have hx4:Ext w2 w4:=((Below.refl _ _).grown hg4 (Nat.le_refl _) (by simp));have HR4:=Lib.hid (IntRow.made hown4);clear hown4 hg4)
 obtain ⟨g8,hg8⟩:∃ z,z=w2.heap.size:=⟨_,rfl⟩
 rw [←hg8] at HR4 ⊢
 have HG:=Lib.hid hg8
 clear hg8 h22
 go_wp2_with fail
 go_loopg [9] T.n (fun gg v9 wr=>∃ p:Nat,p≤T.n∧gg=T.n - p∧v9=.int .i64 p∧Ext w2 wr∧IntRow wr g8 T.n (fun q=>if q<p then ((T.toTr.prj N F q (d q):Nat):Int) else 0))
 case atStart=>exact ⟨0,by omega,rfl,rfl,hx4,HR4.out.as fun q _=>if_neg (Nat.not_lt_zero _)⟩
 case round=>
  clear hx4 HR4
  obtain ⟨p,hp,rfl,rfl,hx2r,hR⟩:=hrel
  have HR:=Lib.hid hR
  have hx1r:=hx2.trans hx2r
  have hxwr:=hx1.trans hx1r
  clear hR
  by_cases hlt:p<T.n
  case neg=>
   obtain rfl:p=T.n:=by omega
   go_wp2_with fail
   go_ret
   exact ⟨hxwr,g8,rfl,by rw [HG.out];exact hxw2.le,HR.out.as fun q hq=>(if_pos hq).symm⟩
  have hlt':(p:Int)<(T.n:Int):=by omega
  have hpu:p<U.n:=by omega
  obtain rfl:ua=some ⟨U.b,U.off,none⟩:=HUA.out.trans (HU.out.P.pa (by omega))
  have pb:=HU.out.P.pb (by omega)
  obtain ⟨ep,hep⟩:∃ z,z=U.en p:=⟨_,rfl⟩
  have HEP:=Lib.hid hep
  obtain ⟨ea,hea⟩:∃ z,z=U.ea p:=⟨_,rfl⟩
  have HEA:=Lib.hid hea
  obtain ⟨dp,hdp⟩:∃ z,z=d p:=⟨_,rfl⟩
  have HDP:=Lib.hid hdp
  have p2:∀ w',Ext w w'→w'.cell? ⟨U.b,U.off+p*3+2,none⟩=some (.slice ea ep (U.ec p)):=fun w' h=>by rw [hep,hea];exact HU.out.P.p2 w' h p hpu
  have d0:∀ w',Ext w w'→w'.cell? ⟨g,o+p,none⟩=some (.int .i64 (dp:Nat)):=fun w' h=>by rw [hdp];exact h.cell (HD.out.c p hlt)
  have hde:dp≤ep∧ep≤64:=by rw [hdp,hep];exact HLE.out p hlt
  obtain ⟨hde1,hde2⟩:=hde
  have hx2rr:=hx2r
  have HR0:=Lib.hid (show IntRow wr g8 T.n (fun q=>if q<p then ((T.toTr.prj N F q (d q):Nat):Int) else if q=p then ((T.toTr.prj N F p 0:Nat):Int) else 0) from HR.out.as fun q hq=>by
   by_cases h1:q<p
   ·rw [if_pos h1,if_pos h1]
   ·rw [if_neg h1,if_neg h1];split <;> rfl)
  clear hep hea hdp hx2r HR hx1r hxwr
  go_wp2_with fail
  go_loopg [10] dp (fun gg v10 wk=>∃ k:Nat,k≤dp∧gg=dp - k∧v10=.int .i64 k∧Ext w2 wk∧IntRow wk g8 T.n (fun q=>if q<p then ((T.toTr.prj N F q (d q):Nat):Int) else if q=p then ((T.toTr.prj N F p k:Nat):Int) else 0))
  case atStart=>exact ⟨0,by omega,rfl,rfl,hx2rr,HR0.out⟩
  case round=>
   clear hx2rr HR0
   rename World=>wk
   obtain ⟨k,hk,rfl,rfl,hx2k,hRk⟩:=hrel
   have HRk:=Lib.hid hRk
   have hx1k:=hx2.trans hx2k
   have hxwk:=hx1.trans hx1k
   clear hRk
   by_cases hlk:k<dp
   case neg=>
    obtain rfl:k=dp:=by omega
    have HN:=Lib.hid (show IntRow wk g8 T.n (fun q=>if q<p+1 then ((T.toTr.prj N F q (d q):Nat):Int) else 0) from HRk.out.as fun q hq=>by
     rcases Nat.lt_trichotomy q p with h1 | h1 | h1
     ·rw [if_pos (by omega),if_pos h1]
     ·subst h1;rw [if_pos (by omega),if_neg (by omega),if_pos rfl,HDP.out]
     ·rw [if_neg (by omega),if_neg (by omega),if_neg (by omega)])
    go_wp2_with fail
    go_roundg (T.n - (p+1))
    case rel=>exact ⟨p+1,by omega,rfl,by go_num,hx2k,HN.out⟩
    case measure=>omega
   have hlk':(k:Int)<(dp:Int):=by omega
   have hke:k<ep:=by omega
   have hkU:k<U.en p:=by have:=HEP.out;omega
   obtain rfl:ea=some ⟨U.eb p,U.eo p,none⟩:=HEA.out.trans (HU.out.E.ea p hpu (by omega))
   have eb:=HU.out.E.eb p hpu (by omega)
   have e0:=fun w' (x:Ext w w')=>HU.out.E.e0 w' x p k hpu hkU
   have e1:=fun w' (x:Ext w w')=>HU.out.E.e1 w' x p k hpu hkU
   have e2:=fun w' (x:Ext w w')=>HU.out.E.e2 w' x p k hpu hkU
   have e3:=fun w' (x:Ext w w')=>HU.out.E.e3 w' x p k hpu hkU
   have e4:=fun w' (x:Ext w w')=>HU.out.E.e4 w' x p k hpu hkU
   go_upto_region 10 with fail
   refine boxed1 (w:=wk) (G:=fun x=>Code.wp _ _ _ _ x) ?_
   intro w11 hx11 hs11 ⟨l11,c11,_,_⟩
   have hx2b:=hx2k.trans hx11
   have hx1b:=hx1k.trans hx11
   have hxwb:=hxwk.trans hx11
   have hbb:Ext w11 w11:=Ext.refl _
   have HRb:=Lib.hid (HRk.out.ext hx11)
   obtain ⟨pj,hpj⟩:∃ z,z=T.toTr.prj N F p k:=⟨_,rfl⟩
   have hpj64:pj≤64:=by rw [hpj];have h1:=prj_le (T:=T.toTr) (N:=N) (F:=F) (p:=p) k;have h2:=HV.out.en64 hlt;omega
   have hw1:IntKind.i64.wrap ((pj:Int)+1)=(pj:Int)+1:=IntWalk.i64_in _ (by omega)
   have HPJ:=Lib.hid hpj
   have t0:∀ w',Ext w11 w'→w'.cell? ⟨g8,p,none⟩=some (.int .i64 (pj:Nat)):=fun w' x=>by
    rw [hpj,x.cell (HRb.out.c p hlt),if_neg (Nat.lt_irrefl _),if_pos rfl]
   have tf:∀ w',Ext w11 w'→∀ o,w'.frozen? ⟨g8,o,none⟩=false:=fun w' x o=>(x.frozen (p:=⟨g8,o,none⟩) HRb.out.lt).trans (HRb.out.fr o)
   have tl:∀ w',Ext w11 w'→g8<w'.heap.size:=fun w' x=>Nat.lt_of_lt_of_le HRb.out.lt x.le
   have HUI:=Lib.hid (used_iff HA.out HV.out hlt (m:=k) (by rw [←HUK.out.2.2 p];exact hkU))
   obtain ⟨kd,hkd⟩:∃ z,z=U.kind p k:=⟨_,rfl⟩
   obtain ⟨ms,hms⟩:∃ z,z=U.msg p k:=⟨_,rfl⟩
   rw [←hkd,←hms] at c11
   have HKD:=Lib.hid (show kd=(T.toTr.aplTr N F).kind p k∧ms=(T.toTr.aplTr N F).msg p k from ⟨hkd.trans (HUK.out.1 p k),hms.trans (HUK.out.2.1 p k)⟩)
   clear hs11 e0 e1 e2 e3 e4 hpj hkd hms p2 d0 eb pb hx11
   by_cases hk1:kd=1
   ·have HOW:=Lib.hid (HUI.out.1 (.inl (HKD.out.1.symm.trans hk1)))
    have g0:(kd == 1)=true:=by simpa using hk1
    clear hk1
    have HB:=Lib.hid ((HRb.out.put p ((pj:Int)+1)).as (f':=fun q=>if q<p then ((T.toTr.prj N F q (d q):Nat):Int) else if q=p then ((T.toTr.prj N F p (k+1):Nat):Int) else 0) fun q hq=>by
     by_cases e:q=p
     ·subst e
      rw [if_neg (Nat.lt_irrefl _),if_pos rfl,if_pos rfl,prj_succ HOW.out,HPJ.out];rfl
     ·simp only [if_neg e])
    have hxs:=hx2b.setCell (p:=⟨g8,p,none⟩) (by have:=HG.out;show w2.heap.size≤g8;omega) (.int .i64 ((pj:Int)+1))
    go_upto_region 8 with fail
    clear t0 tf tl hbb
    generalize w11.setCell ⟨g8,p,none⟩ (.int .i64 ((pj:Int)+1))=w5 at HB hxs ⊢
    go_wp2_with fail
    go_roundg (dp - (k+1))
    case rel=>exact ⟨k+1,by omega,rfl,by go_num,hxs,HB.out⟩
    case measure=>omega
   have g0:(kd == 1)=false:=by simpa using hk1
   obtain ⟨m,rfl,hm2⟩:∃ m:Nat,ms=(m:Int)∧m<200:=by
    have h:=HA.out.formed HV.out ⟨(p,k),hlt,by rw [←HUK.out.2.2 p];exact hkU⟩
    simp only at h
    rw [←HKD.out.1,←HKD.out.2] at h
    refine ⟨ms.toNat,?_,?_⟩ <;> (unfold FormedP at h;omega)
   have hm3:(m:Int)<200:=by omega
   obtain ⟨fm,hfm⟩:∃ z,z=f m:=⟨_,rfl⟩
   have s0:∀ w',Ext w2 w'→w'.cell? ⟨g7,m,none⟩=some (.bool fm):=fun w' x=>by rw [hfm];exact x.cell (HR7.out.c m hm2)
   have sl:∀ w',Ext w2 w'→g7<w'.heap.size:=fun w' x=>Nat.lt_of_lt_of_le HR7.out.lt x.le
   have HFM:=Lib.hid (show fm=true↔∃ i,i<T.en p∧T.toTr.pos N F p i=k from by
    rw [hfm,HF.out m hm2,←HUI.out,←HKD.out.2,←HKD.out.1,Int.toNat_natCast]
    exact ⟨.inr,fun h=>h.resolve_left hk1⟩)
   clear hk1 hfm
   cases fm with
   | true =>
    have HOW:=Lib.hid (HFM.out.1 rfl)
    have HB:=Lib.hid ((HRb.out.put p ((pj:Int)+1)).as (f':=fun q=>if q<p then ((T.toTr.prj N F q (d q):Nat):Int) else if q=p then ((T.toTr.prj N F p (k+1):Nat):Int) else 0) fun q hq=>by
     by_cases e:q=p
     ·subst e
      rw [if_neg (Nat.lt_irrefl _),if_pos rfl,if_pos rfl,prj_succ HOW.out,HPJ.out];rfl
     ·simp only [if_neg e])
    have hxs:=hx2b.setCell (p:=⟨g8,p,none⟩) (by have:=HG.out;show w2.heap.size≤g8;omega) (.int .i64 ((pj:Int)+1))
    go_upto_region 8 with fail
    clear t0 tf tl hbb
    generalize w11.setCell ⟨g8,p,none⟩ (.int .i64 ((pj:Int)+1))=w5 at HB hxs ⊢
    go_wp2_with fail
    go_roundg (dp - (k+1))
    case rel=>exact ⟨k+1,by omega,rfl,by go_num,hxs,HB.out⟩
    case measure=>omega
   | false =>
    have HN:=Lib.hid (show IntRow w11 g8 T.n (fun q=>if q<p then ((T.toTr.prj N F q (d q):Nat):Int) else if q=p then ((T.toTr.prj N F p (k+1):Nat):Int) else 0) from by
     rw [prj_same (fun h=>by have:=HFM.out.2 h;cases this)];exact HRb.out)
    go_wp2_with fail
    go_roundg (dp - (k+1))
    case rel=>exact ⟨k+1,by omega,rfl,by go_num,hx2b,HN.out⟩
    case measure=>omega
end Go.Proofs.YtkhgpockmaghjaaGreat
