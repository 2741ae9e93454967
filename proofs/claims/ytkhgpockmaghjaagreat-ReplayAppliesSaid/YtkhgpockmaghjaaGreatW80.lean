/- Contracts and laws in plain Lean for RApp: group W80. -/
import Derived.Test.YtkhgpockmaghjaaGreatW79
import Derived.Test.YtkhgpockmaghjaaGreatW59
namespace Go.Proofs.YtkhgpockmaghjaaGreat
open Go.RowKit Go.Shelf
attribute [local go_sem] Oper.semAt_some
theorem AplE.next2 {T : Tr} {N : List Syn} {F : List Nat} {wS : World} {b k : Nat} {x0 x1 : Value} {i : Nat} {ad : Nat → SlD} {vy : Value} {wr : World} (h : AplE T N F wS b k x0 x1 i ad vy wr) {W : World} {s : SlD} {v' : Value}
    (hc:Chg (fun g=>g=b∨vy.ownBlock=some g) wr W) (hs:RowM W s 2 (T.asgCs k i)) (hsn:s.n=T.an k i) (hsb:0<s.n→wr.heap.size≤s.b∧v'.ownBlock≠some s.b)
    (hb:Hold W b #[x0,x1,v']) (hq:Que W wS.heap.size 5 v' (T.apl N F k (i+1)).length (T.aplCs N F k (setS ad i s) (i+1))) (hat:∀ g,v'.ownBlock=some g→vy.ownBlock=some g∨wr.heap.size≤g) :
    AplE T N F wS b k x0 x1 (i+1) (setS ad i s) v' W:=by
 have hn0:0<(T.apl N F k (i+1)).length:=by rw [apl_len_succ];omega
 have hst:=h.c.le
 have hlt:=h.lt
 refine ⟨h.c.then hc fun g hg k=>k.elim id fun e=>by have:=(h.own g e).1;omega,hlt,hb,hq,fun j hj=>?_,fun j hj h0=>?_,fun g e=>hq.own_in hn0 g e⟩
 ·by_cases e:j=i
  ·subst e;rw [setS_eq];exact ⟨hs,hsn⟩
  ·rw [setS_ne ad s e]
   have hji:j<i:=by omega
   refine ⟨(h.a j hji).1.same hc.le fun h0=>?_,(h.a j hji).2⟩
   obtain ⟨k1,k2,k3⟩:=h.blk j hji h0
   exact hc.2 _ k2 fun k=>by
    rcases k with k | k
    ·omega
    ·exact k3 k
 ·by_cases e:j=i
  ·subst e
   rw [setS_eq] at h0 ⊢
   exact ⟨by have:=(hsb h0).1;omega,hs.hb h0,(hsb h0).2⟩
  ·rw [setS_ne ad s e] at h0 ⊢
   have hji:j<i:=by omega
   obtain ⟨k1,k2,k3⟩:=h.blk j hji h0
   refine ⟨k1,Nat.lt_of_lt_of_le k2 hc.le,fun e2=>?_⟩
   rcases hat _ e2 with k4 | k4
   ·exact k3 k4
   ·omega
structure Grw (wA:World) (b:Nat) (x0 x1:Value) (base:Nat) (v0:Value) (n:Nat) (xs:List Value) (v:Value) (wr:World):Prop where
 c:Chg (fun g=>g=b∨v0.ownBlock=some g) wA wr
 lt:b<base
 box:Hold wr b #[x0,x1,v]
 que:Que wr base 5 v n xs
 hat:∀ g,v.ownBlock=some g→v0.ownBlock=some g∨wA.heap.size≤g
 own:∀ g,v.ownBlock=some g→g<wr.heap.size
theorem Grw.start {wA:World} {b:Nat} {x0 x1:Value} {base:Nat} {v0:Value} {n:Nat} {xs:List Value} (hb:b<base) (h:Hold wA b #[x0,x1,v0]) (q:Que wA base 5 v0 n xs) (ho:∀ g,v0.ownBlock=some g→g<wA.heap.size):Grw wA b x0 x1 base v0 n xs v0 wA:=
 ⟨Chg.refl _ _,hb,h,q,fun _ e=>.inl e,ho⟩
theorem Grw.ext {wA:World} {b:Nat} {x0 x1:Value} {base:Nat} {v0:Value} {n:Nat} {xs:List Value} {v:Value} {wr w':World} (h:Grw wA b x0 x1 base v0 n xs v wr) (x:Ext wr w'):Grw wA b x0 x1 base v0 n xs v w':=
 ⟨h.c.trans (x.chg _),h.lt,h.box.ext x,h.que.ext x,h.hat,fun g e=>Nat.lt_of_lt_of_le (h.own g e) x.le⟩
theorem Grw.app {wA : World} {b : Nat} {x0 x1 : Value} {base : Nat} {v0 : Value} {n : Nat} {xs : List Value} {v : Value} {wr : World} (h : Grw wA b x0 x1 base v0 n xs v wr) {wd w2 : World} {v' : Value} {n' : Nat} {xs' : List Value} (hx : Ext wr wd)
    (hq:Que w2 base 5 v' n' xs') (hg:wd.grownBy w2 v.ownBlock) (hat:v'.ownBlock=v.ownBlock∨v'.ownBlock=some wd.heap.size) (hn:0<n'):Grw wA b x0 x1 base v0 n' xs' v' (w2.setCell ⟨b,2,none⟩ v')∧Hold w2 b #[x0,x1,v]:=by
 have hle:=h.c.le
 have hxl:=hx.le
 have hlt:=h.lt
 have hc2:Chg (fun g=>g=b∨v0.ownBlock=some g) wA w2:=(h.c.trans (hx.chg _)).grown hg (fun g e=>(h.hat g e).imp .inr id)
 have hb2:Hold w2 b #[x0,x1,v]:=by
  have h1:=h.box.ext hx
  obtain ⟨t,ht⟩:=h1
  exact ⟨t,(hg.block b (Array.getElem?_eq_some_iff.1 ht).1 (fun e=>by have:=h.que.block b e.symm;omega)).trans ht⟩
 refine ⟨⟨hc2.set ⟨b,2,none⟩ _ (.inl (.inl rfl)),hlt,hb2.set 2 v',hq.same' (by simp) fun g e=>Below.heap_setCell _ _ _ _ (fun e2=>by
  have h8:=hq.block g e
  have h7:g=b:=e2
  omega),fun g e=>?_,fun g e=>by have:=(hq.own_in hn g e).2;simpa using this⟩,hb2⟩
 rcases hat with h1 | h1
 ·exact h.hat g (h1.symm.trans e)
 ·right
  rw [h1] at e
  have h2:wd.heap.size=g:=by simpa using e
  omega
theorem rapply_results (tmps : Array Value) (W : World) (b : Nat) (x0 u : Value) (t4 : tmps[4]? = some (.pointer (some ⟨b, 0, none⟩))) (t5 : tmps[5]? = some u) (c0 : W.cell? ⟨b, 0, none⟩ = some x0) :
    (results Tryz.f15 tmps).run Tryz.prog W=.ok (.tuple #[.agg #[x0],u]) W:=by
 simp [results,go_sem,t4,t5,c0]
def RAppPost (T : Tr) (L : List Syn) (w : World) (e : Ending) (w' : World) : Prop := Ext w w' ∧ ((T.AplBig (T.ndL L L.length) (T.freeL 200) ∧ e = .returned (.tuple #[.agg #[.slice none 0 0], .int .i64 9])) ∨
   (¬T.AplBig (T.ndL L L.length) (T.freeL 200)∧∃ U:TM,U.At w'∧U.toTr=T.aplTr (T.ndL L L.length) (T.freeL 200)∧e=.returned (.tuple #[U.val,.int .i64 0])))
set_option maxRecDepth 100000 in
set_option maxHeartbeats 8000000 in
theorem rapply_any (w : World) (T : TM) (hT : T.At w) (hV : T.toTr.Valid) (D : SyD) (hD : D.At w) (hL : SynOk T.toTr D.l) (hDn : D.s.n ≤ 1000) (hA : T.toTr.NoCyc D.l) :
    Calls Tryz.prog 15 #[T.val,.slice D.s.a D.s.n D.s.c] w (RAppPost T.toTr D.l w):=by
 obtain ⟨ei,hei,hez0,hez1,hez2⟩:=info_parts infoEvnt
 obtain ⟨pi,hpi,hpz0,hpz1,hpz2⟩:=info_parts infoProc
 obtain ⟨j0,hj0,hy0,hy1,hy2⟩:=info_parts infoInt
 obtain ⟨vi,hvi,hvz0,hvz1,hvz2⟩:=info_parts infoVar
 obtain ⟨si,hsi,hsz0,hsz1,hsz2⟩:=info_parts infoAsg
 have hn8:=hV.n8
 have hn1:=hV.n1
 have HND:=Lib.hid (fun W (h:Ext w W)=>(show Calls Tryz.prog 17 #[T.val,.slice D.s.a D.s.n D.s.c] W (fun e w'=>Ext W w'∧∃ v,e=.returned v∧Que w' W.heap.size 4 v (T.toTr.ndL D.l D.l.length).length (synCells (T.toTr.ndL D.l D.l.length))) from by
  have h1:=rneeded_any W T (hT.ext h) hV D (hD.ext h) hL hDn hA
  rw [←D.len] at h1;rw [←D.len];exact h1))
 have HNM:=Lib.hid (fun W (h:Ext w W)=>rnumbers_any W T (hT.ext h) hV)
 have HT:=Lib.hid hT
 have HV:=Lib.hid hV
 have HL:=Lib.hid hL
 unfold RAppPost
 obtain ⟨ta,hta⟩:∃ z,z=T.a:=⟨_,rfl⟩
 obtain ⟨da,hda⟩:∃ z,z=D.s.a:=⟨_,rfl⟩
 obtain ⟨dn,hdn⟩:∃ z,z=D.s.n:=⟨_,rfl⟩
 obtain ⟨N,hN⟩:∃ z,z=T.toTr.ndL D.l D.l.length:=⟨_,rfl⟩
 obtain ⟨F,hF⟩:∃ z,z=T.toTr.freeL 200:=⟨_,rfl⟩
 simp only [TM.val,←hta] at HND HNM ⊢
 rw [←hda,←hdn,←hN] at HND
 rw [←hda,←hdn,←hN,←hF]
 have hNl:N.length≤1000:=by rw [hN];have:=ndL_len T.toTr D.l D.l.length;have:=D.len;omega
 have HTA:=Lib.hid hta
 have HNN:=Lib.hid hN
 have HFF:=Lib.hid hF
 clear hT hV hD hL hA hta hda hdn hN hF hDn
 go_enter Tryz.func15,Tryz.ntmps15
 go_upto_region 1 with fail
 refine boxed2 (w:=w) (G:=fun x=>Code.wp _ _ _ _ x) ?_
 intro w1 hx1 hs1 ⟨l0,c0,_,_⟩ ⟨l1,c1,f1,k1⟩
 have HRB:=Lib.hid (show Hold w1 (w.heap.size+1) #[.slice none 0 0] from k1)
 have hx11:Ext w1 w1:=Ext.refl _
 clear hs1 k1
 go_wp2_with fail
 go_at_call 17
 refine (HND.out w1 hx1).mono ?_
 rintro e w2 ⟨hx2,vn,rfl,hqn⟩
 obtain ⟨na,nc,rfl⟩:=hqn.slice
 have hxw2:=hx1.trans hx2
 have HQN:=Lib.hid hqn
 clear hqn
 go_wp2_with fail
 go_at_call 57
 refine (HNM.out w2 hxw2).mono ?_
 rintro e w3 ⟨hx3,g,f,rfl,hg,hR,hf⟩
 have hx13:=hx2.trans hx3
 have hxw3:=hxw2.trans hx3
 have HR:=Lib.hid hR
 have HFl:=Lib.hid hf
 have HGL:=Lib.hid hg
 obtain ⟨nn,hnn⟩:∃ z,z=N.length:=⟨_,rfl⟩
 have HNL:=Lib.hid (show nn=N.length∧nn≤1000 from ⟨hnn,by omega⟩)
 rw [←hnn] at HQN ⊢
 have hnn1:nn≤1000:=by omega
 clear hR hf hg hnn hNl
 have HI0:=Lib.hid (show FrI T.toTr w3 0 (.slice none 0 0) w3 from ⟨Ext.refl _,Que.nil _ _ _⟩)
 go_wp2_with fail
 go_loopg [7,8] 200 (fun gg v7 v8 wr=>∃ m:Nat,m≤200∧gg=200 - m∧v8=.int .i64 m∧FrI T.toTr w3 m v7 wr)
 case atStart=>exact ⟨0,by omega,rfl,rfl,HI0.out⟩
 case round=>
  obtain ⟨m,hm,rfl,rfl,hI⟩:=hrel
  obtain ⟨a7,c7,rfl⟩:=hI.q.slice
  have hx3r:=hI.x
  have hx1r:=hx13.trans hx3r
  have hxwr:=hx1.trans hx1r
  obtain ⟨ln,hln⟩:∃ z,z=(T.toTr.freeL m).length:=⟨_,rfl⟩
  have hlm:ln≤200:=by rw [hln];have:=freeL_len T.toTr m;omega
  have HLN:=Lib.hid hln
  rw [←hln] at hI ⊢
  have HI:=Lib.hid hI
  clear hI hln HI0
  by_cases hlt:m<200
  case neg=>
   obtain rfl:m=200:=by omega
   have hd:¬((200:Nat):Int)<200:=by omega
   have hd2:¬((200:Nat):Int)≤199:=by omega
   by_cases hb:ln<nn
   ·have hb':(ln:Int)<(nn:Int):=by omega
    have HBG:=Lib.hid (show T.toTr.AplBig N F from .inl (by rw [←HNL.out.1,HFF.out,←HLN.out];exact hb))
    have hrr:Ext wr wr:=Ext.refl _
    go_wp2_with fail
    refine bodyPost_ret (rapply_results _ _ _ _ _ rfl rfl ((Hold.set (HRB.out.ext hx1r) 0 _).cell0 0)) rfl ?_
    exact ⟨hxwr.setCell (by show w.heap.size≤w.heap.size+1;omega) _,.inl ⟨HBG.out,rfl⟩⟩
   have hb':¬(ln:Int)<(nn:Int):=by omega
   have hb2:(nn:Int)≤(ln:Int):=by omega
   have hnln:nn≤ln:=by omega
   have hQ7:=HI.out.q
   rw [←HLN.out] at hQ7
   obtain ⟨fa,fg,fo,fc,hfv,hfle,hfp,hfcell⟩:=Que.cells1 hQ7
   simp only [Value.slice.injEq] at hfv
   obtain ⟨rfl,_,rfl⟩:=hfv
   have HFP:=Lib.hid hfp
   have HFC:=Lib.hid hfcell
   have h2r:=hx3.trans hx3r
   clear hQ7 hfle hfp hfcell
   go_upto_region 12 with fail
   refine boxed1 (w:=wr) (G:=fun x=>Code.wp _ _ _ _ x) ?_
   intro wE hxE hsE ⟨lE,cE,fE,kE⟩
   have hx1E:=hx1r.trans hxE
   have hxwE:=hx1.trans hx1E
   have HO0:=Lib.hid (AplO.start (T:=T.toTr) (N:=N) (F:=F) (show Hold wE wr.heap.size #[.slice none 0 0] from kE) (fun _=>default))
   obtain ⟨bo,hbo⟩:∃ z,z=wr.heap.size:=⟨_,rfl⟩
   rw [←hbo] at HO0 ⊢
   have HBO:=Lib.hid hbo
   have HXE:=Lib.hid hxE
   clear hsE lE cE fE kE hbo hxE
   go_wp2_with fail
   go_loopg [10] T.n (fun gg v10 wo=>∃ (k:Nat) (pa:Nat→PAd) (vo:Value),k≤T.n∧gg=T.n - k∧v10=.int .i64 k∧AplO T.toTr N F wE bo k pa vo wo∧∀ q,q<k→(T.toTr.apl N F q (T.en q)).length≤64)
   case atStart=>exact ⟨0,_,_,by omega,rfl,rfl,HO0.out,fun q h=>absurd h (Nat.not_lt_zero _)⟩
   case round=>
    rename World=>wo
    obtain ⟨k,pa,vo,hk,rfl,rfl,hO,hall⟩:=hrel
    have hxro:Ext wr wo:=Chg.ext HXE.out hO.c (fun g e=>by rw [e,HBO.out];exact Nat.le_refl _)
    have hx1o:=hx1r.trans hxro
    have hxwo:=hx1.trans hx1o
    have HO:=Lib.hid hO
    have HAL:=Lib.hid hall
    clear hO hall HO0
    by_cases hkn:k<T.n
    case neg=>
     obtain rfl:k=T.n:=by omega
     obtain ⟨oa,oc,rfl⟩:=HO.out.que.slice
     obtain ⟨lo,co,_,_⟩:=HO.out.box.box
     have hoo:Ext wo wo:=Ext.refl _
     go_wp2_with fail
     refine bodyPost_ret (rapply_results _ _ _ _ _ rfl rfl ((Hold.set (HRB.out.ext hx1o) 0 _).cell0 0)) rfl ?_
     refine ⟨hxwo.setCell (by show w.heap.size≤w.heap.size+1;omega) _,.inr ⟨?_,?_⟩⟩
     ·rintro (h1 | ⟨q,hq,h1⟩)
      ·rw [←HNL.out.1,HFF.out,←HLN.out] at h1
       omega
      ·have h2:=HAL.out q hq
       omega
     ·have hl:=HRB.out.lt
      have hle:=hx1E.le
      obtain ⟨U,h1,h2,h3⟩:=HO.out.fin (p:=⟨w.heap.size+1,0,none⟩) (v:=.slice oa T.n oc) (by omega) HT.out.ok (by rw [HFF.out];exact insOk_of (by omega) (HL.out.mono fun s hs=>ndL_sub (T:=T.toTr) (k:=D.l.length) (by rw [←HNN.out];exact hs)) 200 (by omega)) (by show w.heap.size+1<wE.heap.size;omega)
      exact ⟨U,h1,h2,by
       have h4:Value.agg #[.slice U.a U.n U.cap]=_:=h3
       rw [h4];rfl⟩
    have hkn':(k:Int)<(T.n:Int):=by omega
    obtain ⟨oa,oc,rfl⟩:=HO.out.que.slice
    have hen:=HV.out.en64 hkn
    have hvn:=(HV.out.pr k hkn).2.2.1
    obtain rfl:ta=some ⟨T.b,T.off,none⟩:=by rw [HTA.out];exact HT.out.P.pa (by omega)
    have pb:=HT.out.P.pb (by omega)
    obtain ⟨nm,hnm⟩:∃ z,z=T.name k:=⟨_,rfl⟩
    obtain ⟨vn,hvn0⟩:∃ z,z=T.vn k:=⟨_,rfl⟩
    obtain ⟨en,hen0⟩:∃ z,z=T.en k:=⟨_,rfl⟩
    obtain ⟨ea,hea0⟩:∃ z,z=T.ea k:=⟨_,rfl⟩
    have p0:∀ w',Ext w w'→w'.cell? ⟨T.b,T.off+k*3,none⟩=some (.string nm):=fun w' h=>by rw [hnm];exact HT.out.P.p0 w' h k hkn
    have p1:∀ w',Ext w w'→w'.cell? ⟨T.b,T.off+k*3+1,none⟩=some (.slice (T.va k) vn (T.vc k)):=fun w' h=>by rw [hvn0];exact HT.out.P.p1 w' h k hkn
    have p2:∀ w',Ext w w'→w'.cell? ⟨T.b,T.off+k*3+2,none⟩=some (.slice ea en (T.ec k)):=fun w' h=>by rw [hea0,hen0];exact HT.out.P.p2 w' h k hkn
    have HSV0:=Lib.hid (fun W (x:Ext wo W)=>(show Src Tryz.prog 2 59 (.slice (T.va k) vn (T.vc k)) vn (T.varCs k) W from by rw [hvn0];exact ((HT.out.vM hkn).ext (hxwo.trans x)).src (P:=Tryz.prog) Tryz.underlying59 (varCs_one _ _)))
    have HKE:=Lib.hid (And.intro hnm (And.intro hvn0 (And.intro hen0 hea0)))
    rw [←hvn0] at hvn
    rw [←hen0] at hen
    clear hnm hvn0 hen0 hea0
    have hoo:Ext wo wo:=Ext.refl _
    go_upto_region 15 with fail
    go_cut [11] (fun s11 wx=>∃ (bn:Nat) (sv:SlD),s11=.pointer (some ⟨bn,0,none⟩)∧Hold wx bn #[.string nm,.slice sv.a vn sv.c,.slice none 0 0]∧RowM wx sv 2 (T.varCs k)∧sv.n=vn∧(0<sv.n→wo.heap.size≤sv.b∧sv.b≠bn)∧wo.heap.size≤bn∧Ext wo wx)
    case first=>
     have hpw:∀ w',Ext wo w'→Ext w w':=fun w' h=>hxwo.trans h
     have hp1:∀ w',Ext wo w'→Ext w1 w':=fun w' h=>hx1o.trans h
     refine wp_region_T (t:=16) (S:=fun _=>True) (R:=fun w'=>Ext wo w') (by kernel_rfl) trivial (Ext.refl wo).drew (fun hHeld=>?_)
     refine takeU 0 (v:=?_) rfl (by kernel_rfl) (by kernel_rfl) (by kernel_rfl) (by kernel_rfl) (by kernel_rfl) (fun _ _ _ h=>h) (by decide) (Or.inl ⟨by rfl,?_⟩) hHeld.1 hHeld.2 ?_
     rotate_left
     ·intro w' hSw
      have hSX:=hSw.2
      (try dsimp only at hSX)
      have hSY:=hpw _ hSX
      have hSZ:=hp1 _ hSX
      have hSS:=Ext.refl w'
      go_simp
      try with_reducible rfl
     try simp only [Act.put,zA,zB,zC]
     refine takeU 1 (v:=?_) rfl (by kernel_rfl) (by kernel_rfl) (by kernel_rfl) (by kernel_rfl) (by kernel_rfl) (fun _ _ _ h=>h) (by decide) (Or.inl ⟨by rfl,?_⟩) hHeld.1 hHeld.2 ?_
     rotate_left
     ·intro w' hSw
      have hSX:=hSw.2
      (try dsimp only at hSX)
      have hSY:=hpw _ hSX
      have hSZ:=hp1 _ hSX
      have hSS:=Ext.refl w'
      go_simp
      try with_reducible rfl
     try simp only [Act.put,zA,zB,zC]
     refine takeU 2 (v:=?_) rfl (by kernel_rfl) (by kernel_rfl) (by kernel_rfl) (by kernel_rfl) (by kernel_rfl) (fun _ _ _ h=>h) (by decide) (Or.inl ⟨by rfl,?_⟩) hHeld.1 hHeld.2 ?_
     rotate_left
     ·intro w' hSw
      have hSX:=hSw.2
      (try dsimp only at hSX)
      have hSY:=hpw _ hSX
      have hSZ:=hp1 _ hSX
      have hSS:=Ext.refl w'
      go_simp
      try with_reducible rfl
     try simp only [Act.put,zA,zB,zC]
     refine takeU 3 (v:=?_) rfl (by kernel_rfl) (by kernel_rfl) (by kernel_rfl) (by kernel_rfl) (by kernel_rfl) (fun _ _ _ h=>h) (by decide) (Or.inl ⟨by rfl,?_⟩) hHeld.1 hHeld.2 ?_
     rotate_left
     ·intro w' hSw
      have hSX:=hSw.2
      (try dsimp only at hSX)
      have hSY:=hpw _ hSX
      have hSZ:=hp1 _ hSX
      have hSS:=Ext.refl w'
      go_simp
      try with_reducible rfl
     try simp only [Act.put,zA,zB,zC]
     refine takeU 4 (v:=?_) rfl (by kernel_rfl) (by kernel_rfl) (by kernel_rfl) (by kernel_rfl) (by kernel_rfl) (fun _ _ _ h=>h) (by decide) (Or.inl ⟨by rfl,?_⟩) hHeld.1 hHeld.2 ?_
     rotate_left
     ·intro w' hSw
      have hSX:=hSw.2
      (try dsimp only at hSX)
      have hSY:=hpw _ hSX
      have hSZ:=hp1 _ hSX
      have hSS:=Ext.refl w'
      go_simp
      try with_reducible rfl
     try simp only [Act.put,zA,zB,zC]
     refine takeU 5 (v:=?_) rfl (by kernel_rfl) (by kernel_rfl) (by kernel_rfl) (by kernel_rfl) (by kernel_rfl) (fun _ _ _ h=>h) (by decide) (Or.inl ⟨by rfl,?_⟩) hHeld.1 hHeld.2 ?_
     rotate_left
     ·intro w' hSw
      have hSX:=hSw.2
      (try dsimp only at hSX)
      have hSY:=hpw _ hSX
      have hSZ:=hp1 _ hSX
      have hSS:=Ext.refl w'
      go_simp
      try with_reducible rfl
     try simp only [Act.put,zA,zB,zC]
     refine takeU 7 (v:=?_) rfl (by kernel_rfl) (by kernel_rfl) (by kernel_rfl) (by kernel_rfl) (by kernel_rfl) (fun _ _ _ h=>h) (by decide) (Or.inl ⟨by rfl,?_⟩) hHeld.1 hHeld.2 ?_
     rotate_left
     ·intro w' hSw
      have hSX:=hSw.2
      (try dsimp only at hSX)
      have hSY:=hpw _ hSX
      have hSZ:=hp1 _ hSX
      have hSS:=Ext.refl w'
      go_simp
      try with_reducible rfl
     try simp only [Act.put,zA,zB,zC]
     refine takeU 8 (v:=?_) rfl (by kernel_rfl) (by kernel_rfl) (by kernel_rfl) (by kernel_rfl) (by kernel_rfl) (fun _ _ _ h=>h) (by decide) (Or.inl ⟨by rfl,?_⟩) hHeld.1 hHeld.2 ?_
     rotate_left
     ·intro w' hSw
      have hSX:=hSw.2
      (try dsimp only at hSX)
      have hSY:=hpw _ hSX
      have hSZ:=hp1 _ hSX
      have hSS:=Ext.refl w'
      go_simp
      try with_reducible rfl
     try simp only [Act.put,zA,zB,zC]
     refine takeU 9 (v:=?_) rfl (by kernel_rfl) (by kernel_rfl) (by kernel_rfl) (by kernel_rfl) (by kernel_rfl) (fun _ _ _ h=>h) (by decide) (Or.inl ⟨by rfl,?_⟩) hHeld.1 hHeld.2 ?_
     rotate_left
     ·intro w' hSw
      have hSX:=hSw.2
      (try dsimp only at hSX)
      have hSY:=hpw _ hSX
      have hSZ:=hp1 _ hSX
      have hSS:=Ext.refl w'
      go_simp
      try with_reducible rfl
     try simp only [Act.put,zA,zB,zC]
     refine takeU 10 (v:=?_) rfl (by kernel_rfl) (by kernel_rfl) (by kernel_rfl) (by kernel_rfl) (by kernel_rfl) (fun _ _ _ h=>h) (by decide) (Or.inl ⟨by rfl,?_⟩) hHeld.1 hHeld.2 ?_
     rotate_left
     ·intro w' hSw
      have hSX:=hSw.2
      (try dsimp only at hSX)
      have hSY:=hpw _ hSX
      have hSZ:=hp1 _ hSX
      have hSS:=Ext.refl w'
      go_simp
      try with_reducible rfl
     try simp only [Act.put,zA,zB,zC]
     refine takeU 11 (v:=?_) rfl (by kernel_rfl) (by kernel_rfl) (by kernel_rfl) (by kernel_rfl) (by kernel_rfl) (fun _ _ _ h=>h) (by decide) (Or.inl ⟨by rfl,?_⟩) hHeld.1 hHeld.2 ?_
     rotate_left
     ·intro w' hSw
      have hSX:=hSw.2
      (try dsimp only at hSX)
      have hSY:=hpw _ hSX
      have hSZ:=hp1 _ hSX
      have hSS:=Ext.refl w'
      go_simp
      try with_reducible rfl
     try simp only [Act.put,zA,zB,zC]
     refine takeU 12 (v:=?_) rfl (by kernel_rfl) (by kernel_rfl) (by kernel_rfl) (by kernel_rfl) (by kernel_rfl) (fun _ _ _ h=>h) (by decide) (Or.inl ⟨by rfl,?_⟩) hHeld.1 hHeld.2 ?_
     rotate_left
     ·intro w' hSw
      have hSX:=hSw.2
      (try dsimp only at hSX)
      have hSY:=hpw _ hSX
      have hSZ:=hp1 _ hSX
      have hSS:=Ext.refl w'
      go_simp
      try with_reducible rfl
     try simp only [Act.put,zA,zB,zC]
     have hA0:Ext wo wo.drew:=(Ext.refl wo).drew
     have hz0:wo.drew.heap.size=wo.heap.size:=rfl
     generalize wo.drew=w0 at hA0 hz0 hHeld ⊢
     clear p0 p1 p2 pb hpw hp1
     refine wpAnyT_ready (rs:=[6,15]) (by kernel_rfl) (by simp) ?_
     refine AllReadyT.cons rfl (fun K hK=>?_) (AllReadyT.cons rfl (fun K hK=>?_) AllReadyT.nil)
     ·go_simp
      have hxa:=hA0.alloc' (.cells #[] 94)
      refine hK.out _ _ ⟨trivial,hxa⟩ (fun hHeld2=>?_)
      clear hK K
      try simp only [Act.put,zA,zB,zC]
      clear hHeld
      have hHeld:=hHeld2
      clear hHeld2
      have hza:(w0.alloc (.cells #[] 94)).heap.size=wo.heap.size+1:=by simp [hz0]
      refine wpAnyT_ready (rs:=[13,15]) (by kernel_rfl) (by simp) ?_
      refine AllReadyT.cons rfl (fun K hK=>?_) (AllReadyT.cons rfl (fun K hK=>?_) AllReadyT.nil)
      ·skip
       refine step_append_que _ rfl _ _ 59 59 rfl (base:=wo.heap.size) (e:=94) (size:=2) vi (.agg #[.string ⟨#[]⟩,.int .i64 0]) 24 Tryz.underlying59 hvi hvz0 hvz1 hvz2 rfl (v:=.slice (some ⟨wo.heap.size,0,none⟩) 0 0) (n:=0) (xs:=[]) rfl ⟨rfl,.inl ⟨_,rfl,rfl,fun a e=>by cases e;show wo.heap.size≤wo.heap.size;omega⟩⟩ (by omega) (.slice (T.va k) vn (T.vc k)) vn (T.varCs k) rfl (HSV0.out _ hxa) (by unfold maxLen;omega) (by omega) ?_
       intro v13 w13 hq13 hg13 hat13
       rw [Nat.zero_add,List.nil_append] at hq13
       obtain ⟨⟨sva,svn,svc,svb,svo⟩,rfl,hsn,hsM,hsb⟩:=RowM.que hq13 (by omega)
       simp only at hsn hsb
       subst hsn
       have hx13:Ext wo w13:=Below.grown hxa hg13 (by omega) (by intro g hgg;simp [Value.ownBlock] at hgg;omega)
       refine hK.out _ _ ⟨trivial,hx13⟩ (fun hHeld2=>?_)
       clear hK K
       try simp only [Act.put]
       clear hHeld
       have hHeld:=hHeld2
       clear hHeld2
       refine takeU 14 (v:=?_) rfl (by kernel_rfl) (by kernel_rfl) (by kernel_rfl) (by kernel_rfl) (by kernel_rfl) (fun _ _ _ h=>h) (by decide) (Or.inl ⟨by rfl,?_⟩) hHeld.1 hHeld.2 ?_
       rotate_left
       ·intro w' hSw
        go_simp
        try with_reducible rfl
       try simp only [Act.put]
       refine wpAnyT_ready (rs:=[15]) (by kernel_rfl) (by simp) ?_
       refine AllReadyT.cons rfl (fun K hK=>?_) AllReadyT.nil
       go_simp
       refine hK.out _ _ ⟨trivial,hx13.alloc' _⟩ (fun hHeld2=>?_)
       clear hK K
       try simp only [Act.put,zA,zB,zC]
       have hxW:=hx13.alloc' (.cells #[.string ⟨#[]⟩,.slice none 0 0,.slice none 0 0] 62)
       have hNW:=Hold.new w13 #[.string ⟨#[]⟩,.slice none 0 0,.slice none 0 0] 62
       have hbn:wo.heap.size≤w13.heap.size:=hx13.le
       have hSM:=hsM.ext (Ext.alloc w13 (.cells #[.string ⟨#[]⟩,.slice none 0 0,.slice none 0 0] 62))
       have hsbn:0<svn→svb≠w13.heap.size:=fun h0=>by have h9:svb<w13.heap.size:=hsM.hb h0;omega
       have HSB:=Lib.hid (show 0<svn→wo.heap.size≤svb from fun h0=>(hsb h0).1)
       clear hHeld hHeld2 hsM hsb hx13 hg13 hat13 hq13
       generalize (w13.alloc (.cells #[.string ⟨#[]⟩,.slice none 0 0,.slice none 0 0] 62))=W at hxW hNW hSM ⊢
       generalize w13.heap.size=bn at hNW hbn hsbn ⊢
       obtain ⟨ln9,cn9,fn9,_⟩:=hNW.box
       have hWW:Ext W W:=Ext.refl _
       refine wpAnyT_ready (rs:=[16]) (by kernel_rfl) (by simp) ?_
       refine AllReadyT.late rfl (by decide) (fun K hK=>?_) AllReadyT.nil
       go_simp
       refine hK.out _ _ trivial (fun hHeld4=>?_)
       clear hK K
       clear ln9 cn9 fn9 hWW
       have hP:=put3 hNW hxW hbn (.string nm) (.slice sva svn svc) (.slice none 0 0)
       have HP:=Lib.hid hP
       have HSMF:=Lib.hid (hSM.same hP.2.2.2 fun h0=>hP.2.2.1 _ (hsbn h0))
       have HSBN:=Lib.hid hsbn
       have HBN:=Lib.hid hbn
       clear hP hSM hsbn hbn hNW hxW
       refine wpAnyT_done (by kernel_rfl) ?_ _
       go_wp2_with fail
       go_meet
       exact ⟨bn,⟨sva,svn,svc,svb,svo⟩,rfl,HP.out.1,HSMF.out,rfl,fun h0=>⟨HSB.out h0,HSBN.out h0⟩,HBN.out,HP.out.2.1⟩
      ·go_simp
       have hxb:=hxa.alloc' (.cells #[.string ⟨#[]⟩,.slice none 0 0,.slice none 0 0] 62)
       have hNB:=Hold.new (w0.alloc (.cells #[] 94)) #[.string ⟨#[]⟩,.slice none 0 0,.slice none 0 0] 62
       rw [hza] at hNB
       have hzb:((w0.alloc (.cells #[] 94)).alloc (.cells #[.string ⟨#[]⟩,.slice none 0 0,.slice none 0 0] 62)).heap.size=wo.heap.size+1+1:=by simp [hz0]
       refine hK.out _ _ ⟨trivial,hxb⟩ (fun hHeld2=>?_)
       clear hK K
       try simp only [Act.put,zA,zB,zC]
       clear hHeld
       have hHeld:=hHeld2
       clear hHeld2
       refine wpAnyT_ready (rs:=[13]) (by kernel_rfl) (by simp) ?_
       refine AllReadyT.cons rfl (fun K hK=>?_) AllReadyT.nil
       refine step_append_que _ rfl _ _ 59 59 rfl (base:=wo.heap.size) (e:=94) (size:=2) vi (.agg #[.string ⟨#[]⟩,.int .i64 0]) 24 Tryz.underlying59 hvi hvz0 hvz1 hvz2 rfl (v:=.slice (some ⟨wo.heap.size,0,none⟩) 0 0) (n:=0) (xs:=[]) rfl ⟨rfl,.inl ⟨_,rfl,rfl,fun a e=>by cases e;show wo.heap.size≤wo.heap.size;omega⟩⟩ (by omega) (.slice (T.va k) vn (T.vc k)) vn (T.varCs k) rfl (HSV0.out _ hxb) (by unfold maxLen;omega) (by omega) ?_
       intro v13 w13 hq13 hg13 hat13
       rw [Nat.zero_add,List.nil_append] at hq13
       obtain ⟨⟨sva,svn,svc,svb,svo⟩,rfl,hsn,hsM,hsb⟩:=RowM.que hq13 (by omega)
       simp only at hsn hsb
       subst hsn
       have hx13:Ext wo w13:=Below.grown hxb hg13 (by omega) (by intro g hgg;simp [Value.ownBlock] at hgg;omega)
       refine hK.out _ _ ⟨trivial,hx13⟩ (fun hHeld2=>?_)
       clear hK K
       try simp only [Act.put]
       clear hHeld
       have hHeld:=hHeld2
       clear hHeld2
       refine takeU 14 (v:=?_) rfl (by kernel_rfl) (by kernel_rfl) (by kernel_rfl) (by kernel_rfl) (by kernel_rfl) (fun _ _ _ h=>h) (by decide) (Or.inl ⟨by rfl,?_⟩) hHeld.1 hHeld.2 ?_
       rotate_left
       ·intro w' hSw
        go_simp
        try with_reducible rfl
       try simp only [Act.put]
       have hNW:Hold w13 (wo.heap.size+1) #[.string ⟨#[]⟩,.slice none 0 0,.slice none 0 0]:=by
        obtain ⟨t,ht⟩:=hNB
        exact ⟨t,(hg13.block _ (by omega) (fun e=>by simp [Value.ownBlock] at e <;> omega)).trans ht⟩
       have hSM:=hsM
       have hsbn:0<svn→svb≠(wo.heap.size+1):=fun h0=>by
        have h9:=(hsb h0).2
        rcases hat13 with h8 | h8
        ·rw [h8] at h9;simp [Value.ownBlock] at h9 <;> omega
        ·rw [h8] at h9;simp at h9 <;> omega
       have HSB:=Lib.hid (show 0<svn→wo.heap.size≤svb from fun h0=>(hsb h0).1)
       have hxW:=hx13
       have hbn:wo.heap.size≤(wo.heap.size+1):=by omega
       clear hHeld hsM hsb hx13 hg13 hat13 hq13 hNB
       obtain ⟨W,hWW⟩:∃ W,W=w13:=⟨_,rfl⟩
       rw [←hWW] at hxW hNW hSM ⊢
       clear hWW
       obtain ⟨bn,hbn0⟩:∃ z,z=(wo.heap.size+1):=⟨_,rfl⟩
       rw [←hbn0] at hNW hsbn ⊢
       clear hbn
       have hbn:wo.heap.size≤bn:=by omega
       clear hbn0
       obtain ⟨ln9,cn9,fn9,_⟩:=hNW.box
       have hWW:Ext W W:=Ext.refl _
       refine wpAnyT_ready (rs:=[16]) (by kernel_rfl) (by simp) ?_
       refine AllReadyT.late rfl (by decide) (fun K hK=>?_) AllReadyT.nil
       go_simp
       refine hK.out _ _ trivial (fun hHeld4=>?_)
       clear hK K
       clear ln9 cn9 fn9 hWW
       have hP:=put3 hNW hxW hbn (.string nm) (.slice sva svn svc) (.slice none 0 0)
       have HP:=Lib.hid hP
       have HSMF:=Lib.hid (hSM.same hP.2.2.2 fun h0=>hP.2.2.1 _ (hsbn h0))
       have HSBN:=Lib.hid hsbn
       have HBN:=Lib.hid hbn
       clear hP hSM hsbn hbn hNW hxW
       refine wpAnyT_done (by kernel_rfl) ?_ _
       go_wp2_with fail
       go_meet
       exact ⟨bn,⟨sva,svn,svc,svb,svo⟩,rfl,HP.out.1,HSMF.out,rfl,fun h0=>⟨HSB.out h0,HSBN.out h0⟩,HBN.out,HP.out.2.1⟩
     ·go_simp
      have hxa:=hA0.alloc' (.cells #[.string ⟨#[]⟩,.slice none 0 0,.slice none 0 0] 62)
      have hNA:=Hold.new w0 #[.string ⟨#[]⟩,.slice none 0 0,.slice none 0 0] 62
      refine hK.out _ _ ⟨trivial,hxa⟩ (fun hHeld2=>?_)
      clear hK K
      try simp only [Act.put,zA,zB,zC]
      clear hHeld
      have hHeld:=hHeld2
      clear hHeld2
      have hza:(w0.alloc (.cells #[.string ⟨#[]⟩,.slice none 0 0,.slice none 0 0] 62)).heap.size=wo.heap.size+1:=by simp [hz0]
      refine wpAnyT_ready (rs:=[6]) (by kernel_rfl) (by simp) ?_
      refine AllReadyT.cons rfl (fun K hK=>?_) AllReadyT.nil
      go_simp
      have hxb:=hxa.alloc' (.cells #[] 94)
      rw [hz0] at hNA
      have hNB:=Hold.ext hNA (Ext.alloc _ (.cells #[] 94))
      have hzb:((w0.alloc (.cells #[.string ⟨#[]⟩,.slice none 0 0,.slice none 0 0] 62)).alloc (.cells #[] 94)).heap.size=wo.heap.size+1+1:=by simp [hz0]
      refine hK.out _ _ ⟨trivial,hxb⟩ (fun hHeld2=>?_)
      clear hK K
      try simp only [Act.put,zA,zB,zC]
      clear hHeld
      have hHeld:=hHeld2
      clear hHeld2
      refine wpAnyT_ready (rs:=[13]) (by kernel_rfl) (by simp) ?_
      refine AllReadyT.cons rfl (fun K hK=>?_) AllReadyT.nil
      refine step_append_que _ rfl _ _ 59 59 rfl (base:=wo.heap.size) (e:=94) (size:=2) vi (.agg #[.string ⟨#[]⟩,.int .i64 0]) 24 Tryz.underlying59 hvi hvz0 hvz1 hvz2 rfl (v:=.slice (some ⟨(wo.heap.size+1),0,none⟩) 0 0) (n:=0) (xs:=[]) rfl ⟨rfl,.inl ⟨_,rfl,rfl,fun a e=>by cases e;show wo.heap.size≤(wo.heap.size+1);omega⟩⟩ (by omega) (.slice (T.va k) vn (T.vc k)) vn (T.varCs k) rfl (HSV0.out _ hxb) (by unfold maxLen;omega) (by omega) ?_
      intro v13 w13 hq13 hg13 hat13
      rw [Nat.zero_add,List.nil_append] at hq13
      obtain ⟨⟨sva,svn,svc,svb,svo⟩,rfl,hsn,hsM,hsb⟩:=RowM.que hq13 (by omega)
      simp only at hsn hsb
      subst hsn
      have hx13:Ext wo w13:=Below.grown hxb hg13 (by omega) (by intro g hgg;simp [Value.ownBlock] at hgg;omega)
      refine hK.out _ _ ⟨trivial,hx13⟩ (fun hHeld2=>?_)
      clear hK K
      try simp only [Act.put]
      clear hHeld
      have hHeld:=hHeld2
      clear hHeld2
      refine takeU 14 (v:=?_) rfl (by kernel_rfl) (by kernel_rfl) (by kernel_rfl) (by kernel_rfl) (by kernel_rfl) (fun _ _ _ h=>h) (by decide) (Or.inl ⟨by rfl,?_⟩) hHeld.1 hHeld.2 ?_
      rotate_left
      ·intro w' hSw
       go_simp
       try with_reducible rfl
      try simp only [Act.put]
      have hNW:Hold w13 wo.heap.size #[.string ⟨#[]⟩,.slice none 0 0,.slice none 0 0]:=by
       obtain ⟨t,ht⟩:=hNB
       exact ⟨t,(hg13.block _ (by omega) (fun e=>by simp [Value.ownBlock] at e <;> omega)).trans ht⟩
      have hSM:=hsM
      have hsbn:0<svn→svb≠wo.heap.size:=fun h0=>by
       have h9:=(hsb h0).2
       rcases hat13 with h8 | h8
       ·rw [h8] at h9;simp [Value.ownBlock] at h9 <;> omega
       ·rw [h8] at h9;simp at h9 <;> omega
      have HSB:=Lib.hid (show 0<svn→wo.heap.size≤svb from fun h0=>(hsb h0).1)
      have hxW:=hx13
      have hbn:wo.heap.size≤wo.heap.size:=by omega
      clear hHeld hsM hsb hx13 hg13 hat13 hq13 hNB
      obtain ⟨W,hWW⟩:∃ W,W=w13:=⟨_,rfl⟩
      rw [←hWW] at hxW hNW hSM ⊢
      clear hWW
      obtain ⟨bn,hbn0⟩:∃ z,z=wo.heap.size:=⟨_,rfl⟩
      rw [←hbn0] at hNW hsbn ⊢
      clear hbn
      have hbn:wo.heap.size≤bn:=by omega
      clear hbn0
      obtain ⟨ln9,cn9,fn9,_⟩:=hNW.box
      have hWW:Ext W W:=Ext.refl _
      refine wpAnyT_ready (rs:=[16]) (by kernel_rfl) (by simp) ?_
      refine AllReadyT.late rfl (by decide) (fun K hK=>?_) AllReadyT.nil
      go_simp
      refine hK.out _ _ trivial (fun hHeld4=>?_)
      clear hK K
      clear ln9 cn9 fn9 hWW
      have hP:=put3 hNW hxW hbn (.string nm) (.slice sva svn svc) (.slice none 0 0)
      have HP:=Lib.hid hP
      have HSMF:=Lib.hid (hSM.same hP.2.2.2 fun h0=>hP.2.2.1 _ (hsbn h0))
      have HSBN:=Lib.hid hsbn
      have HBN:=Lib.hid hbn
      clear hP hSM hsbn hbn hNW hxW
      refine wpAnyT_done (by kernel_rfl) ?_ _
      go_wp2_with fail
      go_meet
      exact ⟨bn,⟨sva,svn,svc,svb,svo⟩,rfl,HP.out.1,HSMF.out,rfl,fun h0=>⟨HSB.out h0,HSBN.out h0⟩,HBN.out,HP.out.2.1⟩
    case rest=>
     obtain ⟨bn,⟨sva,svn,svc,svb,svo⟩,rfl,hbN,hsM,hsn,hsb,hbn,hxc⟩:=hcut
     simp only at hsn hbN hsb
     subst hsn
     have hx1c:=hx1o.trans hxc
     have hxwc:=hxwo.trans hxc
     have hxrc:Ext wr wc:=hxro.trans hxc
     have hcc:Ext wc wc:=Ext.refl _
     have HE0:=Lib.hid (AplE.start (T:=T.toTr) (N:=N) (F:=F) (k:=k) hbN (fun _=>default))
     have HSV:=Lib.hid (And.intro hsM (And.intro hsb hbn))
     have HXC:=Lib.hid hxc
     have hbl:=hbN.lt
     have HBL:=Lib.hid hbl
     clear hsM hsb hbn hbN hbl p0 p1
     go_wp2_with fail
     go_loopg [12] en (fun gg v12 wi=>∃ (i:Nat) (ad:Nat→SlD) (vy:Value),i≤en∧gg=en - i∧v12=.int .i64 i∧AplE T.toTr N F wc bn k (.string nm) (.slice sva svn svc) i ad vy wi)
     case atStart=>exact ⟨0,_,_,by omega,rfl,rfl,HE0.out⟩
     case round=>
      rename World=>wi
      obtain ⟨i,ad,vy,hi,rfl,rfl,hE⟩:=hrel
      have hxoi:Ext wo wi:=Chg.ext hxc hE.c (fun g e=>by rw [e];exact HSV.out.2.2)
      have hx1i:=hx1o.trans hxoi
      have hxwi:=hxwo.trans hxoi
      have hxri:=hxro.trans hxoi
      obtain ⟨ya,yc,rfl⟩:=hE.que.slice
      obtain ⟨ma,hna⟩:∃ z,z=(T.toTr.apl N F k i).length:=⟨_,rfl⟩
      have HNA:=Lib.hid hna
      have hma2:ma≤200000:=by
       rw [hna]
       have h1:=apl_len_le T.toTr N F k i
       have h2:=HNL.out
       have h3:i*(2*N.length+1)≤64*2001:=Nat.mul_le_mul (by omega) (by omega)
       omega
      rw [←hna] at hE
      have HE:=Lib.hid hE
      clear hE hna HE0 hxc hcc
      by_cases hin:i<en
      case neg=>
       obtain rfl:i=en:=by omega
       have hEb:=HE.out.box
       obtain ⟨ly,cy,_,_⟩:=hEb.box
       have hii:Ext wi wi:=Ext.refl _
       clear hEb
       by_cases h64:64<ma
       ·have b1:decide ((64:Int)<(ma:Int))=true:=decide_eq_true (by omega)
        have b1':decide (64<ma)=true:=decide_eq_true h64
        have HBG:=Lib.hid (show T.toTr.AplBig N F from .inr ⟨k,hkn,by rw [←HKE.out.2.2.1,←HNA.out];exact h64⟩)
        go_wp2_with fail
        refine bodyPost_ret (rapply_results _ _ _ _ _ rfl rfl ((Hold.set (HRB.out.ext hx1i) 0 _).cell0 0)) rfl ?_
        exact ⟨hxwi.setCell (by show w.heap.size≤w.heap.size+1;omega) _,.inl ⟨HBG.out,rfl⟩⟩
       have b1:decide ((64:Int)<(ma:Int))=false:=decide_eq_false (by omega)
       have b1':decide (64<ma)=false:=decide_eq_false h64
       have hwo2:=HXC.out.le
       have hwo3:=HSV.out.2.2
       have hwo4:=HO.out.lt
       have hwo5:=HO.out.c.le
       have hbo0:Hold wi bo #[.slice oa k oc]:=(HO.out.box.ext HXC.out).chg HE.out.c (by omega)
       have HBO2:=Lib.hid hbo0
       obtain ⟨lo,co,_,_⟩:=hbo0.box
       have hci:=HE.out.c.le
       have HQO:=Lib.hid (((HO.out.que.ext HXC.out).chg HE.out.c (fun g e=>⟨by have:=(HO.out.own g e).2;omega,by have:=(HO.out.own g e).2;omega⟩)).ext (Ext.alloc wi (.cells #[.string nm,.slice sva svn svc,.slice ya ma yc] 62)))
       have HSO:=Lib.hid ((RowM.new wi [.string nm,.slice sva svn svc,.slice ya ma yc] 62 3 rfl).src (P:=Tryz.prog) Tryz.underlying22 (by intro u hu;simp at hu;rcases hu with rfl | rfl | rfl <;> rfl))
       have hsz2:(wi.alloc (.cells #[.string nm,.slice sva svn svc,.slice ya ma yc] 62)).heap.size=wi.heap.size+1:=by simp
       have HAL2:=Lib.hid (show ∀ q,q<k+1→(T.toTr.apl N F q (T.en q)).length≤64 from fun q hq=>by
        by_cases e:q=k
        ·subst e;rw [←HKE.out.2.2.1,←HNA.out];omega
        ·exact HAL.out q (by omega))
       have hk8:k≤8:=by omega
       clear hbo0 h64
       go_wp2_with (at_builtin;refine wpList_append_que _ rfl _ _ 22 22 rfl (base:=wE.heap.size) (e:=62) (size:=3) pi (.agg #[.string ⟨#[]⟩,.slice none 0 0,.slice none 0 0]) 64 Tryz.underlying22 hpi hpz0 hpz1 hpz2 rfl (v:=.slice oa k oc) (n:=k) (xs:=T.toTr.prCs N F pa k) rfl HQO.out (by omega) (.slice (some ⟨wi.heap.size,0,none⟩) 1 1) 1 [.string nm,.slice sva svn svc,.slice ya ma yc] rfl HSO.out (by unfold maxLen;omega) (by omega) ?_;rintro v28 w28 hq28 hg28 hat28;obtain ⟨x28,y28,rfl⟩:=hq28.slice;have hc28:Chg (fun g=>g=bo∨(Value.slice oa k oc).ownBlock=some g) wi w28:=((Ext.alloc wi (.cells #[.string nm,.slice sva svn svc,.slice ya ma yc] 62)).chg _).grown hg28 (fun g e=>.inl (.inr e));have hbo28:Hold w28 bo #[.slice oa k oc]:=(by obtain ⟨t,ht⟩:=(HBO2.out.ext (Ext.alloc wi (.cells #[.string nm,.slice sva svn svc,.slice ya ma yc] 62)));exact ⟨t,(hg28.block bo (by simp;omega) (fun e=>by have:=(HO.out.own bo e.symm).1;omega)).trans ht⟩);obtain ⟨l28,c28,f28,_⟩:=hbo28.box;have h2828:Ext w28 w28:=Ext.refl _;obtain ⟨⟨sea,sen,sec,seb,seo⟩,hse1,hse2,hse3,hse4⟩:=RowM.que HE.out.que (by rw [←HNA.out];omega);simp only [SlD.v,Value.slice.injEq] at hse1;obtain ⟨rfl,hse5,rfl⟩:=hse1;have HN28:=Lib.hid (show AplO T.toTr N F wE bo (k+1) (setS pa k ⟨⟨sva,svn,svc,svb,svo⟩,⟨ya,sen,yc,seb,seo⟩,ad⟩) (.slice x28 (k+1) y28) (w28.setCell ⟨bo,0,none⟩ (.slice x28 (k+1) y28)) from HO.out.next (HXC.out.chg _) (by omega) (by rw [←HKE.out.2.2.1];exact HE.out) HSV.out.1 HKE.out.2.1 (fun h0=>HSV.out.2.1 h0) (by rw [←HKE.out.2.2.1];exact hse3) (by rw [←HKE.out.2.2.1];exact hse2) (fun h0=>(hse4 h0).2) (hc28.set ⟨bo,0,none⟩ (.slice x28 (k+1) y28) (.inl (.inl rfl))) (hbo28.set 0 (.slice x28 (k+1) y28)) (by rw [prCs_succ,←HKE.out.1,←HKE.out.2.1,←HKE.out.2.2.1,←HNA.out];exact hq28.same' (by simp) (fun g e=>Below.heap_setCell _ _ _ _ (fun e2=>by have h8:=hq28.block g e;have h7:g=bo:=e2;omega))) (fun g e=>hat28.elim (fun h=>.inl (h.symm.trans e)) (fun h=>.inr (by rw [h] at e;simp at e;omega))));clear hq28 hg28 hat28 hc28 hbo28 hse2 hse3 hse4 hse5)
       go_roundg (T.n - (k+1))
       case rel=>exact ⟨k+1,_,_,by omega,rfl,by go_num,HN28.out,HAL2.out⟩
       case measure=>omega
      have hin':(i:Int)<(en:Int):=by omega
      have hiT:i<T.en k:=by rw [←HKE.out.2.2.1];exact hin
      obtain rfl:ea=some ⟨T.eb k,T.eo k,none⟩:=by rw [HKE.out.2.2.2];exact HT.out.E.ea k hkn (by omega)
      have peb:=HT.out.E.eb k hkn (by omega)
      have e0:=fun w' (h:Ext w w')=>HT.out.E.e0 w' h k i hkn hiT
      have e1:=fun w' (h:Ext w w')=>HT.out.E.e1 w' h k i hkn hiT
      have e2:=fun w' (h:Ext w w')=>HT.out.E.e2 w' h k i hkn hiT
      have e3:=fun w' (h:Ext w w')=>HT.out.E.e3 w' h k i hkn hiT
      have e4:=fun w' (h:Ext w w')=>HT.out.E.e4 w' h k i hkn hiT
      have han:=(HV.out.ev k i hkn hiT).2.2.2.1
      have hw1:IntKind.i64.wrap ((i:Int)+1)=(i:Int)+1:=IntWalk.i64_in _ (by omega)
      have HSA0:=Lib.hid (fun W (x:Ext w W)=>(show Src Tryz.prog 2 63 (.slice (T.aa k i) (T.an k i) (T.ac k i)) (T.an k i) (T.asgCs k i) W from ((HT.out.aM hkn hiT).ext x).src (P:=Tryz.prog) Tryz.underlying63 (asgCs_one _ _ _)))
      have HIT:=Lib.hid hiT
      clear hiT
      go_upto_region 21 with fail
      refine boxed2 (w:=wi) (G:=fun x=>Code.wp _ _ _ _ x) ?_
      intro wA hxA hsA ⟨_,_,_,k13⟩ ⟨_,_,_,k14⟩
      have HB13:=Lib.hid (show Hold wA wi.heap.size _ from k13)
      have HB14:=Lib.hid (show Hold wA (wi.heap.size+1) _ from k14)
      have HSZA:=Lib.hid hsA
      have HXA:=Lib.hid hxA
      have hxrA:=hxri.trans hxA
      have HG0:=Lib.hid (Grw.start (wA:=wA) HBL.out (HE.out.box.ext hxA) (HE.out.que.ext hxA) (fun g e=>Nat.lt_of_lt_of_le (HE.out.own g e).2 hxA.le))
      rw [←HNA.out] at HG0
      have HS0:=Lib.hid (show ∀ g,(g=bn∨(Value.slice ya ma yc).ownBlock=some g)→wo.heap.size≤g∧g<wi.heap.size from fun g e=>by
       have h1:=HSV.out.2.2
       have h2:=HBL.out
       have h3:=HE.out.c.le
       have h4:=HXC.out.le
       rcases e with e | e
       ·omega
       ·have h5:=HE.out.own g e;omega)
      have HN13:=Lib.hid (show ¬(wi.heap.size=bn∨(Value.slice ya ma yc).ownBlock=some wi.heap.size) from fun e=>by have:=(HS0.out _ e).2;omega)
      have HN14:=Lib.hid (show ¬(wi.heap.size+1=bn∨(Value.slice ya ma yc).ownBlock=some (wi.heap.size+1)) from fun e=>by have:=(HS0.out _ e).2;omega)
      clear hsA k13 k14 e0 e1 e2 e3 e4 peb hxA
      go_wp2_with fail
      go_loopg [15] nn (fun gg v15 wj=>∃ (j:Nat) (v:Value),j≤nn∧gg=nn - j∧v15=.int .i64 j∧Grw wA bn (.string nm) (.slice sva svn svc) wc.heap.size (.slice ya ma yc) (ma+(T.toTr.insG N F false (k,i) j).length) (T.toTr.aplCs N F k ad i++insCells (T.toTr.insG N F false (k,i) j)) v wj)
      case atStart=>exact ⟨0,_,by omega,rfl,rfl,by have h:=HG0.out;rw [←List.append_nil (T.toTr.aplCs N F k ad i)] at h;exact h⟩
      case round=>
       rename World=>wj
       have hma3:ma≤201001:=by omega
       obtain ⟨j,v,hj,rfl,rfl,hG⟩:=hrel
       have hcj:=hG.c
       have hxrj:Ext wr wj:=Chg.ext hxrA hcj (fun g e=>by have h1:=(HS0.out g e).1;have h2:=hxro.le;omega)
       have h1j:=hx1r.trans hxrj
       have hxwj:=hxwr.trans hxrj
       obtain ⟨nj,hnj⟩:∃ z,z=ma+(T.toTr.insG N F false (k,i) j).length:=⟨_,rfl⟩
       have hnj2:nj≤203000:=by rw [hnj];have h1:=insG_len T.toTr N F false (k,i) j;omega
       rw [←hnj] at hG
       obtain ⟨va,vc,rfl⟩:=hG.que.slice
       have HNJL:=Lib.hid hnj
       have k13:=Hold.chg HB13.out hcj HN13.out
       have k14:=Hold.chg HB14.out hcj HN14.out
       have HK13:=Lib.hid k13
       have HK14:=Lib.hid k14
       obtain ⟨l13,c13,_,_⟩:=k13.box
       obtain ⟨l14,c14,_,_⟩:=k14.box
       obtain ⟨l11,c11,_,_⟩:=hG.box.box
       have HG:=Lib.hid hG
       have hjj:Ext wj wj:=Ext.refl _
       clear hcj k13 k14 hnj hG
       by_cases hjn:j<nn
       case pos=>
        have hjn':(j:Int)<(nn:Int):=by omega
        have hjN:j<N.length:=by rw [←HNL.out.1];exact hjn
        obtain ⟨ng,no,ncap,hnv,hng1,hng2,_,_,hncell,_⟩:∃ g off cap,Value.slice na nn nc=.slice (some ⟨g,off,none⟩) nn cap∧w1.heap.size≤g∧g<w2.heap.size∧nn≤cap∧cap≤maxLen∧(∀ j,j<nn*4→w2.cell? ⟨g,off+j,none⟩=(synCells N)[j]?)∧∀ j,j<cap*4→(w2.cell? ⟨g,off+j,none⟩).isSome=true∧w2.frozen? ⟨g,off+j,none⟩=false:=by
         rcases HQN.out.val with ⟨_,_,h0,_⟩ | h9
         ·omega
         ·exact h9
        simp only [Value.slice.injEq] at hnv
        obtain ⟨rfl,_,rfl⟩:=hnv
        obtain ⟨x,y,hxV,hyV,hxy⟩:=HL.out.nn (ndL_sub (T:=T.toTr) (k:=D.l.length) (by rw [←HNN.out];exact List.getElem_mem hjN))
        obtain ⟨xp,xi⟩:=x
        obtain ⟨yp,yi⟩:=y
        have hsc:=synCells_get hjN
        rw [hxy] at hsc
        have h2j:Ext w2 wj:=h2r.trans hxrj
        have s0:∀ w',Ext wj w'→w'.cell? ⟨ng,no+j*4,none⟩=some (.int .i64 (xp:Int)):=fun w' h=>(h2j.trans h).cell ((hncell (j*4) (by omega)).trans hsc.1)
        have s1:∀ w',Ext wj w'→w'.cell? ⟨ng,no+j*4+1,none⟩=some (.int .i64 ((xi:Int)+1)):=fun w' h=>(h2j.trans h).cell ((hncell (j*4+1) (by omega)).trans hsc.2.1)
        have s2:∀ w',Ext wj w'→w'.cell? ⟨ng,no+j*4+2,none⟩=some (.int .i64 (yp:Int)):=fun w' h=>(h2j.trans h).cell ((hncell (j*4+2) (by omega)).trans hsc.2.2.1)
        have s3:∀ w',Ext wj w'→w'.cell? ⟨ng,no+j*4+3,none⟩=some (.int .i64 ((yi:Int)+1)):=fun w' h=>(h2j.trans h).cell ((hncell (j*4+3) (by omega)).trans hsc.2.2.2)
        have sb:∀ w',Ext wj w'→ng<w'.heap.size:=fun w' h=>Nat.lt_of_lt_of_le hng2 (h2j.trans h).le
        have HNJ:=Lib.hid (show N[j]?=some (evI (xp,xi),evI (yp,yi)) from by rw [List.getElem?_eq_getElem hjN,hxy])
        have hgj:∀ d os,Ext wj (Sort.grow (redrawn wj d) os):=fun d os=>below_regrown wj d os
        have HNG:=Lib.hid hng2
        clear hxV hyV hxy hsc hncell hng1 hng2 h2j
        by_cases e0:k=yp
        case neg=>
         have d0:(((yp:Nat):Int) == (k:Int))=false:=by rw [beq_eq_false_iff_ne];omega
         have HNN:=Lib.hid (insG_n (T:=T.toTr) (F:=F) (z:=(k,i)) HNJ.out false (fun e=>e0 (congrArg Prod.fst e).symm))
         go_upto_region 24 with fail
         refine wp_region_quiet_below (by kernel_rfl) (by kernel_rfl) ?_
         repeat (go_big_quiet_step (fail))
         refine wpQuiet_nil ?_
         intro _ hw'
         obtain ⟨⟨dq,osq⟩,hw''⟩:=hw'
         subst hw''
         have hjq:=hgj dq osq
         clear hgj
         generalize Sort.grow (redrawn wj dq) osq=wq at hjq ⊢
         go_wp2_with fail
         go_roundg (nn - (j+1))
         case rel=>exact ⟨j+1,_,by omega,rfl,by go_num,by rw [HNN.out,←HNJL.out];exact HG.out.ext hjq⟩
         case measure=>omega
        subst e0
        by_cases e1:i=yi
        case neg=>
         have d1:(((yi:Nat):Int) == (i:Int))=false:=by rw [beq_eq_false_iff_ne];omega
         have d2:(((yi:Nat):Int)+1 == (i:Int)+1)=false:=by rw [beq_eq_false_iff_ne];omega
         have HNN:=Lib.hid (insG_n (T:=T.toTr) (F:=F) (z:=(k,i)) HNJ.out false (fun e=>e1 (congrArg Prod.snd e).symm))
         go_upto_region 24 with fail
         refine wp_region_quiet_below (by kernel_rfl) (by kernel_rfl) ?_
         repeat (go_big_quiet_step (fail))
         refine wpQuiet_nil ?_
         intro _ hw'
         obtain ⟨⟨dq,osq⟩,hw''⟩:=hw'
         subst hw''
         have hjq:=hgj dq osq
         clear hgj
         generalize Sort.grow (redrawn wj dq) osq=wq at hjq ⊢
         go_wp2_with fail
         go_roundg (nn - (j+1))
         case rel=>exact ⟨j+1,_,by omega,rfl,by go_num,by rw [HNN.out,←HNJL.out];exact HG.out.ext hjq⟩
         case measure=>omega
        subst e1
        have hjF:j<F.length:=by rw [HFF.out,←HLN.out];omega
        obtain ⟨rfl,hfg1,hfg2⟩:=HFP.out (by omega)
        obtain ⟨fj,hfj⟩:∃ z,z=F[j]:=⟨_,rfl⟩
        have HFJ2:=Lib.hid (show ((fj:Nat):Int)=((F.getD j 0:Nat):Int) from by rw [hfj,List.getD_eq_getElem?_getD,List.getElem?_eq_getElem hjF];rfl)
        have n0:∀ w',Ext wj w'→w'.cell? ⟨fg,fo+j,none⟩=some (.int .i64 (fj:Int)):=fun w' h=>by
         refine (hxrj.trans h).cell ?_
         rw [HFC.out j (by omega),←HFF.out,natInts_get (i:=j) (v:=fj) (by rw [hfj];exact List.getElem?_eq_getElem hjF)]
        have nb:∀ w',Ext wj w'→fg<w'.heap.size:=fun w' h=>Nat.lt_of_lt_of_le hfg2 (hxrj.trans h).le
        have hjl:j<ln:=by omega
        have HLS:=Lib.hid (show ng<w2.heap.size∧fg<wr.heap.size from ⟨HNG.out,hfg2⟩)
        clear hfj hfg1 hfg2
        go_upto_region 24 with fail
        refine wp_region_quiet_below (by kernel_rfl) (by kernel_rfl) ?_
        repeat (go_big_quiet_step (fail))
        refine wpQuiet_nil ?_
        intro _ hw'
        obtain ⟨⟨dq,osq⟩,hw''⟩:=hw'
        subst hw''
        have hjq:=hgj dq osq
        clear hgj
        generalize Sort.grow (redrawn wj dq) osq=wq at hjq ⊢
        have hqq:Ext wq wq:=Ext.refl _
        go_upto_region 25 with fail
        obtain ⟨Sv,hSv⟩:∃ S:Nat→Prop,S=fun g=>(Value.slice va nj vc).ownBlock=some g:=⟨_,rfl⟩
        have HSv:=Lib.hid hSv
        have hnS:∀ g,g<wc.heap.size→¬Sv g:=fun g h e=>by
         rw [hSv] at e
         have:=HG.out.que.block g e
         omega
        have hnS14:¬Sv (wi.heap.size+1):=fun e=>by
         rw [hSv] at e
         have h1:=HB14.out.lt
         rcases HG.out.hat _ e with h2 | h2
         ·exact HN14.out (.inr h2)
         ·omega
        have hzc:wr.heap.size≤wc.heap.size:=hxrc.le
        have hz2:w2.heap.size≤wr.heap.size:=h2r.le
        have hzl:=HBL.out
        have hzn:=HLS.out
        have t0:∀ w',Chg Sv wq w'→w'.cell? ⟨ng,no+j*4,none⟩=some (.int .i64 _):=fun w' h=>h.cell (s0 wq hjq) (hnS _ (by show ng<_;omega))
        have t2:∀ w',Chg Sv wq w'→w'.cell? ⟨ng,no+j*4+2,none⟩=some (.int .i64 _):=fun w' h=>h.cell (s2 wq hjq) (hnS _ (by show ng<_;omega))
        have tb:∀ w',Chg Sv wq w'→ng<w'.heap.size:=fun w' h=>Nat.lt_of_lt_of_le (sb wq hjq) h.le
        have m0:∀ w',Chg Sv wq w'→w'.cell? ⟨fg,fo+j,none⟩=some (.int .i64 (fj:Int)):=fun w' h=>h.cell (n0 wq hjq) (hnS _ (by show fg<_;omega))
        have mb:∀ w',Chg Sv wq w'→fg<w'.heap.size:=fun w' h=>Nat.lt_of_lt_of_le (nb wq hjq) h.le
        clear l13 c13 l14 c14 l11 c11 s0 s1 s2 s3 sb n0 nb
        obtain ⟨l11,c11⟩:=(HG.out.box.ext hjq).boxS (S:=Sv) (hnS _ HBL.out)
        obtain ⟨l14,c14⟩:=(Hold.ext HK14.out hjq).boxS (S:=Sv) hnS14
        clear hnS hnS14 hzc hz2 hzl hzn hSv
        refine wp_region_T (t:=17) (S:=fun _=>True) (R:=fun w'=>Chg Sv wq w') (by kernel_rfl) trivial (Chg.refl Sv wq).drew (fun hHeld=>?_)
        refine takeU 0 (v:=?_) rfl (by kernel_rfl) (by kernel_rfl) (by kernel_rfl) (by kernel_rfl) (by kernel_rfl) (fun _ _ _ h=>h) (by decide) (Or.inl ⟨by rfl,?_⟩) hHeld.1 hHeld.2 ?_
        rotate_left
        ·intro w' hSw
         have hSX:=hSw.2
         (try dsimp only at hSX)
         have hSS:=Ext.refl w'
         go_simp
         try with_reducible rfl
        try simp only [Act.put,zA,zB,zC]
        refine takeU 1 (v:=?_) rfl (by kernel_rfl) (by kernel_rfl) (by kernel_rfl) (by kernel_rfl) (by kernel_rfl) (fun _ _ _ h=>h) (by decide) (Or.inl ⟨by rfl,?_⟩) hHeld.1 hHeld.2 ?_
        rotate_left
        ·intro w' hSw
         have hSX:=hSw.2
         (try dsimp only at hSX)
         have hSS:=Ext.refl w'
         go_simp
         try with_reducible rfl
        try simp only [Act.put,zA,zB,zC]
        refine takeU 2 (v:=?_) rfl (by kernel_rfl) (by kernel_rfl) (by kernel_rfl) (by kernel_rfl) (by kernel_rfl) (fun _ _ _ h=>h) (by decide) (Or.inl ⟨by rfl,?_⟩) hHeld.1 hHeld.2 ?_
        rotate_left
        ·intro w' hSw
         have hSX:=hSw.2
         (try dsimp only at hSX)
         have hSS:=Ext.refl w'
         go_simp
         try with_reducible rfl
        try simp only [Act.put,zA,zB,zC]
        refine takeU 3 (v:=?_) rfl (by kernel_rfl) (by kernel_rfl) (by kernel_rfl) (by kernel_rfl) (by kernel_rfl) (fun _ _ _ h=>h) (by decide) (Or.inl ⟨by rfl,?_⟩) hHeld.1 hHeld.2 ?_
        rotate_left
        ·intro w' hSw
         have hSX:=hSw.2
         (try dsimp only at hSX)
         have hSS:=Ext.refl w'
         go_simp
         try with_reducible rfl
        try simp only [Act.put,zA,zB,zC]
        refine takeU 4 (v:=?_) rfl (by kernel_rfl) (by kernel_rfl) (by kernel_rfl) (by kernel_rfl) (by kernel_rfl) (fun _ _ _ h=>h) (by decide) (Or.inl ⟨by rfl,?_⟩) hHeld.1 hHeld.2 ?_
        rotate_left
        ·intro w' hSw
         have hSX:=hSw.2
         (try dsimp only at hSX)
         have hSS:=Ext.refl w'
         go_simp
         try with_reducible rfl
        try simp only [Act.put,zA,zB,zC]
        refine takeU 5 (v:=?_) rfl (by kernel_rfl) (by kernel_rfl) (by kernel_rfl) (by kernel_rfl) (by kernel_rfl) (fun _ _ _ h=>h) (by decide) (Or.inl ⟨by rfl,?_⟩) hHeld.1 hHeld.2 ?_
        rotate_left
        ·intro w' hSw
         have hSX:=hSw.2
         (try dsimp only at hSX)
         have hSS:=Ext.refl w'
         go_simp
         try with_reducible rfl
        try simp only [Act.put,zA,zB,zC]
        refine takeU 6 (v:=?_) rfl (by kernel_rfl) (by kernel_rfl) (by kernel_rfl) (by kernel_rfl) (by kernel_rfl) (fun _ _ _ h=>h) (by decide) (Or.inl ⟨by rfl,?_⟩) hHeld.1 hHeld.2 ?_
        rotate_left
        ·intro w' hSw
         have hSX:=hSw.2
         (try dsimp only at hSX)
         have hSS:=Ext.refl w'
         go_simp
         try with_reducible rfl
        try simp only [Act.put,zA,zB,zC]
        refine takeU 7 (v:=?_) rfl (by kernel_rfl) (by kernel_rfl) (by kernel_rfl) (by kernel_rfl) (by kernel_rfl) (fun _ _ _ h=>h) (by decide) (Or.inl ⟨by rfl,?_⟩) hHeld.1 hHeld.2 ?_
        rotate_left
        ·intro w' hSw
         have hSX:=hSw.2
         (try dsimp only at hSX)
         have hSS:=Ext.refl w'
         go_simp
         try with_reducible rfl
        try simp only [Act.put,zA,zB,zC]
        refine takeU 8 (v:=?_) rfl (by kernel_rfl) (by kernel_rfl) (by kernel_rfl) (by kernel_rfl) (by kernel_rfl) (fun _ _ _ h=>h) (by decide) (Or.inl ⟨by rfl,?_⟩) hHeld.1 hHeld.2 ?_
        rotate_left
        ·intro w' hSw
         have hSX:=hSw.2
         (try dsimp only at hSX)
         have hSS:=Ext.refl w'
         go_simp
         try with_reducible rfl
        try simp only [Act.put,zA,zB,zC]
        refine takeU 9 (v:=?_) rfl (by kernel_rfl) (by kernel_rfl) (by kernel_rfl) (by kernel_rfl) (by kernel_rfl) (fun _ _ _ h=>h) (by decide) (Or.inl ⟨by rfl,?_⟩) hHeld.1 hHeld.2 ?_
        rotate_left
        ·intro w' hSw
         have hSX:=hSw.2
         (try dsimp only at hSX)
         have hSS:=Ext.refl w'
         go_simp
         try with_reducible rfl
        try simp only [Act.put,zA,zB,zC]
        refine takeU 10 (v:=?_) rfl (by kernel_rfl) (by kernel_rfl) (by kernel_rfl) (by kernel_rfl) (by kernel_rfl) (fun _ _ _ h=>h) (by decide) (Or.inl ⟨by rfl,?_⟩) hHeld.1 hHeld.2 ?_
        rotate_left
        ·intro w' hSw
         have hSX:=hSw.2
         (try dsimp only at hSX)
         have hSS:=Ext.refl w'
         go_simp
         try with_reducible rfl
        try simp only [Act.put,zA,zB,zC]
        refine takeU 11 (v:=?_) rfl (by kernel_rfl) (by kernel_rfl) (by kernel_rfl) (by kernel_rfl) (by kernel_rfl) (fun _ _ _ h=>h) (by decide) (Or.inl ⟨by rfl,?_⟩) hHeld.1 hHeld.2 ?_
        rotate_left
        ·intro w' hSw
         have hSX:=hSw.2
         (try dsimp only at hSX)
         have hSS:=Ext.refl w'
         go_simp
         try with_reducible rfl
        try simp only [Act.put,zA,zB,zC]
        refine takeU 12 (v:=?_) rfl (by kernel_rfl) (by kernel_rfl) (by kernel_rfl) (by kernel_rfl) (by kernel_rfl) (fun _ _ _ h=>h) (by decide) (Or.inl ⟨by rfl,?_⟩) hHeld.1 hHeld.2 ?_
        rotate_left
        ·intro w' hSw
         have hSX:=hSw.2
         (try dsimp only at hSX)
         have hSS:=Ext.refl w'
         go_simp
         try with_reducible rfl
        try simp only [Act.put,zA,zB,zC]
        refine takeU 13 (v:=?_) rfl (by kernel_rfl) (by kernel_rfl) (by kernel_rfl) (by kernel_rfl) (by kernel_rfl) (fun _ _ _ h=>h) (by decide) (Or.inl ⟨by rfl,?_⟩) hHeld.1 hHeld.2 ?_
        rotate_left
        ·intro w' hSw
         have hSX:=hSw.2
         (try dsimp only at hSX)
         have hSS:=Ext.refl w'
         go_simp
         try with_reducible rfl
        try simp only [Act.put,zA,zB,zC]
        refine takeU 14 (v:=?_) rfl (by kernel_rfl) (by kernel_rfl) (by kernel_rfl) (by kernel_rfl) (by kernel_rfl) (fun _ _ _ h=>h) (by decide) (Or.inl ⟨by rfl,?_⟩) hHeld.1 hHeld.2 ?_
        rotate_left
        ·intro w' hSw
         have hSX:=hSw.2
         (try dsimp only at hSX)
         have hSS:=Ext.refl w'
         go_simp
         try with_reducible rfl
        try simp only [Act.put,zA,zB,zC]
        have hA0:Ext wq wq.drew:=(Ext.refl wq).drew
        generalize wq.drew=wd at hA0 hHeld ⊢
        clear l14 c14 l11 c11 t0 t2 tb m0 mb
        refine wpAnyT_ready (rs:=[15]) (by kernel_rfl) (by simp) ?_
        refine AllReadyT.cons rfl (fun K hK=>?_) AllReadyT.nil
        go_simp
        have hxe:=hA0.alloc' (.cells #[.int .i64 3,.int .i64 (xp:Nat),.int .i64 fj,.int .i64 (T.time k i),.slice none 0 0] 65)
        refine hK.out _ _ ⟨trivial,hxe.chg Sv⟩ (fun hHeld2=>?_)
        clear hK K
        try simp only [Act.put,zA,zB,zC]
        have HSR:=Lib.hid ((RowM.new wd [.int .i64 3,.int .i64 (xp:Nat),.int .i64 fj,.int .i64 (T.time k i),.slice none 0 0] 65 5 rfl).src (P:=Tryz.prog) Tryz.underlying60 (by intro u hu;simp at hu;rcases hu with rfl | rfl | rfl | rfl | rfl <;> rfl))
        have hjd:=hjq.trans hxe
        have HQJ:=Lib.hid (HG.out.que.ext hjd)
        have hszd:wc.heap.size≤(wd.alloc (.cells #[.int .i64 3,.int .i64 (xp:Nat),.int .i64 fj,.int .i64 (T.time k i),.slice none 0 0] 65)).heap.size:=by
         have h1:=hjd.le
         have h2:=HE.out.c.le
         have h3:=HSZA.out
         have h4:=HG.out.c.le
         have h5:=HSZA.out
         omega
        clear hHeld
        refine wpAnyT_ready (rs:=[16]) (by kernel_rfl) (by simp) ?_
        refine AllReadyT.cons rfl (fun K hK=>?_) AllReadyT.nil
        refine step_append_que _ rfl _ _ 60 60 rfl (base:=wc.heap.size) (e:=65) (size:=5) ei (.agg #[.int .i64 0,.int .i64 0,.int .i64 0,.int .i64 0,.slice none 0 0]) 56 Tryz.underlying60 hei hez0 hez1 hez2 rfl (v:=.slice va nj vc) (n:=nj) (xs:=(T.toTr.aplCs N F k ad i)++insCells (T.toTr.insG N F false (k,i) j)) rfl HQJ.out hszd (.slice (some ⟨wd.heap.size,0,none⟩) 1 1) 1 [.int .i64 3,.int .i64 (xp:Nat),.int .i64 fj,.int .i64 (T.time k i),.slice none 0 0] rfl HSR.out (by unfold maxLen;omega) (by omega) ?_
        intro v9 w9 hq9 hg9 hat9
        obtain ⟨x9,y9,rfl⟩:=hq9.slice
        obtain ⟨hG9,hb9⟩:=HG.out.app hjd hq9 hg9 hat9 (Nat.succ_pos _)
        refine hK.out _ _ ⟨trivial,(hxe.chg Sv).grown hg9 (fun g e=>.inl (by rw [HSv.out];exact e))⟩ (fun hHeld3=>?_)
        clear hK K
        try simp only [Act.put]
        obtain ⟨l9,c9,f9,_⟩:=hb9.box
        have h99:Ext w9 w9:=Ext.refl _
        have HN9:=Lib.hid hG9
        clear hG9 hq9 hg9 hat9 hb9
        refine wpAnyT_ready (rs:=[17]) (by kernel_rfl) (by simp) ?_
        refine AllReadyT.late rfl (by decide) (fun K hK=>?_) AllReadyT.nil
        go_simp
        refine hK.out _ _ trivial (fun hHeld4=>?_)
        clear hK K
        try simp only [Act.put]
        refine wpAnyT_ready (rs:=[18]) (by kernel_rfl) (by simp) ?_
        refine AllReadyT.late rfl (by decide) (fun K hK=>?_) AllReadyT.nil
        go_simp
        refine hK.out _ _ trivial (fun hHeld5=>?_)
        clear hK K
        clear l9 c9 f9 h99 hHeld2 hHeld3 hHeld4 hHeld5
        refine wpAnyT_done (by kernel_rfl) ?_ _
        generalize w9.setCell ⟨bn,2,none⟩ (.slice x9 (nj+1) y9)=wz at HN9 ⊢
        go_wp2_with fail
        go_roundg (nn - (j+1))
        case rel=>exact ⟨j+1,_,by omega,rfl,by go_num,by
         have h:=HN9.out
         rw [HNJL.out] at h
         rw [insG_f HNJ.out,insCells_snoc,List.length_append,←List.append_assoc,←Nat.add_assoc,←HFJ2.out]
         exact h⟩
        case measure=>omega
       have hjn3:nn=j:=by omega
       subst hjn3
       clear l13 c13 l11 c11
       go_upto_region 27 with (at_builtin;refine wpList_append_que _ rfl _ _ 63 63 rfl (base:=wj.heap.size) (e:=97) (size:=2) si (.agg #[.int .i64 0,.int .i64 0]) 16 Tryz.underlying63 hsi hsz0 hsz1 hsz2 rfl rfl (v:=.slice (some ⟨wj.heap.size,0,none⟩) 0 0) (n:=0) (xs:=[]) ⟨rfl,.inl ⟨_,rfl,rfl,fun a e=>by cases e;exact Nat.le_refl _⟩⟩ (by simp) (.slice (T.aa k i) (T.an k i) (T.ac k i)) (T.an k i) (T.asgCs k i) rfl (HSA0.out _ (hxwj.trans (Ext.alloc _ _))) (by unfold maxLen;omega) (by omega) ?_;rintro v26 w26 hq26 hg26 -;rw [Nat.zero_add,List.nil_append] at hq26;obtain ⟨⟨sa,sn,sc,sb,so⟩,rfl,hsn,hsM,hsb⟩:=RowM.que hq26 (by omega);simp only at hsn hsb;subst hsn;have hj26:Ext wj w26:=((Below.refl _ wj).alloc (Nat.le_refl _) _).grown hg26 (by simp) (by intro g hg;simp [Value.ownBlock] at hg;omega);clear l14 c14;obtain ⟨l14,c14,f14,_⟩:=(Hold.ext HK14.out hj26).box;have h26:Ext w26 w26:=Ext.refl _)
       have hzj:=HG.out.c.le
       have hzA:=HSZA.out
       have hzi:=HE.out.c.le
       have hzb:=HBL.out
       have hcB:Chg (fun g=>g=bn∨(Value.slice ya ma yc).ownBlock=some g) wi (w26.setCell ⟨wi.heap.size+1,4,none⟩ (.slice sa (T.an k i) sc)):=(((HXA.out.chg _).trans HG.out.c).trans (hj26.chg _)).set ⟨wi.heap.size+1,4,none⟩ _ (.inr (by show wi.heap.size≤wi.heap.size+1;omega))
       have HCB:=Lib.hid hcB
       have HBB:=Lib.hid ((Hold.ext HG.out.box hj26).other ⟨wi.heap.size+1,4,none⟩ (.slice sa (T.an k i) sc) (by show bn≠wi.heap.size+1;omega))
       have HB13b:=Lib.hid ((Hold.ext HK13.out hj26).other ⟨wi.heap.size+1,4,none⟩ (.slice sa (T.an k i) sc) (by show wi.heap.size≠wi.heap.size+1;omega))
       have HB14b:=Lib.hid (show Hold (w26.setCell ⟨wi.heap.size+1,4,none⟩ (.slice sa (T.an k i) sc)) (wi.heap.size+1) #[.int .i64 (T.kind k i),.int .i64 (T.peer k i),.int .i64 (T.msg k i),.int .i64 (T.time k i),.slice sa (T.an k i) sc] from (Hold.ext HK14.out hj26).set 4 (.slice sa (T.an k i) sc))
       have HOV:=Lib.hid (show ∀ g,(Value.slice va nj vc).ownBlock=some g→wc.heap.size≤g∧g<wj.heap.size∧g≠wi.heap.size∧g≠wi.heap.size+1 from fun g e=>by
        have h1:=HG.out.que.block g e
        have h2:=HG.out.own g e
        rcases HG.out.hat g e with h3 | h3
        ·have h4:=(HE.out.own g h3).2
         exact ⟨h1,h2,by omega,by omega⟩
        ·exact ⟨h1,h2,by omega,by omega⟩)
       have hzB:wj.heap.size≤(w26.setCell ⟨wi.heap.size+1,4,none⟩ (.slice sa (T.an k i) sc)).heap.size:=by have:=hj26.le;simpa using this
       have HQB:=Lib.hid ((HG.out.que.ext hj26).same' (w':=w26.setCell ⟨wi.heap.size+1,4,none⟩ (.slice sa (T.an k i) sc)) (by simp) fun g e=>Below.heap_setCell _ _ _ _ (fun e2=>(HOV.out g e).2.2.2 e2))
       have HMB:=Lib.hid (hsM.same (w':=w26.setCell ⟨wi.heap.size+1,4,none⟩ (.slice sa (T.an k i) sc)) (by simp) fun h0=>Below.heap_setCell _ _ _ _ (by have h1:=(hsb h0).1;show sb≠wi.heap.size+1;omega))
       have HSB:=Lib.hid (show 0<T.an k i→wj.heap.size≤sb from fun h0=>(hsb h0).1)
       have HSBL:=Lib.hid (show 0<T.an k i→sb<(w26.setCell ⟨wi.heap.size+1,4,none⟩ (.slice sa (T.an k i) sc)).heap.size from fun h0=>by have:=hsM.hb h0;simpa using this)
       clear hcB hq26 hg26 hsM hsb l14 c14 f14 h26 hj26 hjj
       generalize w26.setCell ⟨wi.heap.size+1,4,none⟩ (.slice sa (T.an k i) sc)=wB at HCB HBB HB13b HB14b HQB HMB HSBL hzB ⊢
       have HGB:=Lib.hid (Grw.start HBL.out HBB.out HQB.out (fun g e=>Nat.lt_of_lt_of_le (HOV.out g e).2.1 hzB))
       obtain ⟨lb,cb,_,_⟩:=HBB.out.box
       obtain ⟨l14,c14,_,_⟩:=HB14b.out.box
       have hBB:Ext wB wB:=Ext.refl _
       have HSE:=Lib.hid ((RowM.new wB [.int .i64 (T.kind k i),.int .i64 (T.peer k i),.int .i64 (T.msg k i),.int .i64 (T.time k i),.slice sa (T.an k i) sc] 65 5 rfl).src (P:=Tryz.prog) Tryz.underlying60 (by intro u hu;simp at hu;rcases hu with rfl | rfl | rfl | rfl | rfl <;> rfl))
       have hszB:(wB.alloc (.cells #[.int .i64 (T.kind k i),.int .i64 (T.peer k i),.int .i64 (T.msg k i),.int .i64 (T.time k i),.slice sa (T.an k i) sc] 65)).heap.size=wB.heap.size+1:=by simp
       have HQC:=Lib.hid (HGB.out.que.ext (Ext.alloc wB (.cells #[.int .i64 (T.kind k i),.int .i64 (T.peer k i),.int .i64 (T.msg k i),.int .i64 (T.time k i),.slice sa (T.an k i) sc] 65)))
       go_upto_region 28 with (at_builtin;refine wpList_append_que _ rfl _ _ 60 60 rfl (base:=wc.heap.size) (e:=65) (size:=5) ei (.agg #[.int .i64 0,.int .i64 0,.int .i64 0,.int .i64 0,.slice none 0 0]) 56 Tryz.underlying60 hei hez0 hez1 hez2 rfl rfl (v:=.slice va nj vc) (n:=nj) (xs:=T.toTr.aplCs N F k ad i++insCells (T.toTr.insG N F false (k,i) nn)) HQC.out (by omega) (.slice (some ⟨wB.heap.size,0,none⟩) 1 1) 1 [.int .i64 (T.kind k i),.int .i64 (T.peer k i),.int .i64 (T.msg k i),.int .i64 (T.time k i),.slice sa (T.an k i) sc] rfl HSE.out (by unfold maxLen;omega) (by omega) ?_;rintro v27 w27 hq27 hg27 hat27;obtain ⟨x27,y27,rfl⟩:=hq27.slice;obtain ⟨hG27,hb27⟩:=HGB.out.app (Ext.alloc wB (.cells #[.int .i64 (T.kind k i),.int .i64 (T.peer k i),.int .i64 (T.msg k i),.int .i64 (T.time k i),.slice sa (T.an k i) sc] 65)) hq27 hg27 hat27 (Nat.succ_pos _);have HAT:=Lib.hid hat27;have HG27:=Lib.hid hG27;clear lb cb;obtain ⟨lb,cb,fb,_⟩:=hb27.box;have h27:Ext w27 w27:=Ext.refl _;clear hq27 hg27 hat27 hG27 hb27)
       clear lb cb fb h27 l14 c14 hBB
       have HSC:=Lib.hid (show ∀ g,(g=bn∨(Value.slice va nj vc).ownBlock=some g)→wo.heap.size≤g∧(g<wi.heap.size→g=bn∨(Value.slice ya ma yc).ownBlock=some g)∧g≠wi.heap.size∧g≠wi.heap.size+1∧g<wj.heap.size from fun g e=>by
        rcases e with e | e
        ·have h1:=HSV.out.2.2
         exact ⟨by omega,fun _=>.inl e,by omega,by omega,by omega⟩
        ·have h1:=HOV.out g e
         have h2:=HXC.out.le
         refine ⟨by omega,fun h=>.inr ?_,h1.2.2.1,h1.2.2.2,h1.2.1⟩
         rcases HG.out.hat g e with h3 | h3
         ·exact h3
         ·omega)
       have HC2:=Lib.hid (HCB.out.then HG27.out.c (fun g hg e=>(HSC.out g e).2.1 hg))
       have HB13c:=Lib.hid (Hold.chg HB13b.out HG27.out.c (fun e=>(HSC.out _ e).2.2.1 rfl))
       have HB14c:=Lib.hid (Hold.chg HB14b.out HG27.out.c (fun e=>(HSC.out _ e).2.2.2.1 rfl))
       have HMC:=Lib.hid (HMB.out.same HG27.out.c.le fun h0=>HG27.out.c.2 _ (HSBL.out h0) (fun e=>by have h1:sb<wj.heap.size:=(HSC.out _ e).2.2.2.2;have h2:=HSB.out h0;omega))
       have HOW:=Lib.hid (show ∀ g,(Value.slice x27 (nj+1) y27).ownBlock=some g→wc.heap.size≤g∧g≠wi.heap.size∧g≠wi.heap.size+1∧(0<T.an k i→g≠sb)∧(g<wi.heap.size→(Value.slice ya ma yc).ownBlock=some g) from fun g e=>by
        have h0:=HG27.out.que.block g e
        rcases HAT.out with h1 | h1
        ·have h2:=HOV.out g (h1.symm.trans e)
         refine ⟨h0,h2.2.2.1,h2.2.2.2,fun hp=>by have:=HSB.out hp;omega,fun h=>?_⟩
         rcases HG.out.hat g (h1.symm.trans e) with h3 | h3
         ·exact h3
         ·omega
        ·rw [h1] at e
         have h2:(wB.alloc (.cells #[.int .i64 (T.kind k i),.int .i64 (T.peer k i),.int .i64 (T.msg k i),.int .i64 (T.time k i),.slice sa (T.an k i) sc] 65)).heap.size=g:=by simpa using e
         exact ⟨h0,by omega,by omega,fun hp=>by have:=HSBL.out hp;omega,fun h=>by omega⟩)
       have HSS:=Lib.hid (show ∀ g,(g=bn∨(Value.slice x27 (nj+1) y27).ownBlock=some g)→wo.heap.size≤g∧(g<wi.heap.size→g=bn∨(Value.slice ya ma yc).ownBlock=some g)∧g≠wi.heap.size∧g≠wi.heap.size+1∧(0<T.an k i→g≠sb) from fun g e=>by
        rcases e with e | e
        ·have h1:=HSV.out.2.2
         exact ⟨by omega,fun _=>.inl e,by omega,by omega,fun hp=>by have:=HSB.out hp;omega⟩
        ·have h1:=HOW.out g e
         have h2:=HXC.out.le
         exact ⟨by omega,fun h=>.inr (h1.2.2.2.2 h),h1.2.1,h1.2.2.1,h1.2.2.2.1⟩)
       have HG1:=Lib.hid (Grw.start HBL.out HG27.out.box HG27.out.que HG27.out.own)
       have HSZ2:=Lib.hid (show wi.heap.size≤(w27.setCell ⟨bn,2,none⟩ (.slice x27 (nj+1) y27)).heap.size from HC2.out.le)
       have hxrA2:Ext wr (w27.setCell ⟨bn,2,none⟩ (.slice x27 (nj+1) y27)):=Chg.ext hxri HC2.out (fun g e=>by have h1:=(HS0.out g e).1;have h2:=hxro.le;omega)
       have HN13b:=Lib.hid (show ¬(wi.heap.size=bn∨(Value.slice x27 (nj+1) y27).ownBlock=some wi.heap.size) from fun e=>(HSS.out _ e).2.2.1 rfl)
       have HN14b:=Lib.hid (show ¬(wi.heap.size+1=bn∨(Value.slice x27 (nj+1) y27).ownBlock=some (wi.heap.size+1)) from fun e=>(HSS.out _ e).2.2.2.1 rfl)
       obtain ⟨n1,hn1⟩:∃ z,z=nj+1:=⟨_,rfl⟩
       have HN1:=Lib.hid (show n1=ma+(T.toTr.insG N F false (k,i) nn).length+1 from by rw [hn1,HNJL.out])
       have hn12:n1≤201500:=by rw [hn1,HNJL.out];have h1:=insG_len T.toTr N F false (k,i) nn;omega
       rw [←hn1] at HG1 HC2 HB13c HB14c HMC HOW HSS HSZ2 hxrA2 HN13b HN14b ⊢
       obtain ⟨X1,hX1⟩:∃ z,z=T.toTr.aplCs N F k ad i++insCells (T.toTr.insG N F false (k,i) nn)++[.int .i64 (T.kind k i),.int .i64 (T.peer k i),.int .i64 (T.msg k i),.int .i64 (T.time k i),.slice sa (T.an k i) sc]:=⟨_,rfl⟩
       have HX1:=Lib.hid hX1
       rw [←hX1] at HG1
       have HSW:=Lib.hid (show 0<T.an k i→wi.heap.size≤sb from fun h0=>by have:=HSB.out h0;omega)
       clear HG27 HAT HGB HQC HSE hszB HCB HBB HB13b HB14b HOV HQB HMB HSB HSBL HSC HG HNJL HK13 HK14 hzB hX1 hn1 hxrj h1j hxwj
       generalize w27.setCell ⟨bn,2,none⟩ (.slice x27 n1 y27)=wA2 at HG1 HC2 HB13c HB14c HMC HOW HSS HSZ2 hxrA2 HN13b HN14b ⊢
       go_wp2_with fail
       go_loopg [16] nn (fun gg v16 wj=>∃ (j:Nat) (v:Value),j≤nn∧gg=nn - j∧v16=.int .i64 j∧Grw wA2 bn (.string nm) (.slice sva svn svc) wc.heap.size (.slice x27 n1 y27) (n1+(T.toTr.insG N F true (k,i) j).length) (X1++insCells (T.toTr.insG N F true (k,i) j)) v wj)
       case atStart=>exact ⟨0,_,by omega,rfl,rfl,by have h:=HG1.out;rw [←List.append_nil X1] at h;exact h⟩
       case round=>
        rename World=>wj
        obtain ⟨j,v,hj,rfl,rfl,hG⟩:=hrel
        have hcj:=hG.c
        have hxrj:Ext wr wj:=Chg.ext hxrA2 hcj (fun g e=>by have h1:=(HSS.out g e).1;have h2:=hxro.le;omega)
        have h1j:=hx1r.trans hxrj
        have hxwj:=hxwr.trans hxrj
        obtain ⟨nj,hnj⟩:∃ z,z=n1+(T.toTr.insG N F true (k,i) j).length:=⟨_,rfl⟩
        have hnj2:nj≤203000:=by rw [hnj];have h1:=insG_len T.toTr N F true (k,i) j;omega
        rw [←hnj] at hG
        obtain ⟨va,vc,rfl⟩:=hG.que.slice
        have HNJL:=Lib.hid hnj
        have k13:=Hold.chg HB13c.out hcj HN13b.out
        have k14:=Hold.chg HB14c.out hcj HN14b.out
        have HK13:=Lib.hid k13
        have HK14:=Lib.hid k14
        obtain ⟨l13,c13,_,_⟩:=k13.box
        obtain ⟨l14,c14,_,_⟩:=k14.box
        obtain ⟨l11,c11,_,_⟩:=hG.box.box
        have HG:=Lib.hid hG
        have hjj:Ext wj wj:=Ext.refl _
        clear hcj k13 k14 hnj hG
        by_cases hjn:j<nn
        case pos=>
         have hjn':(j:Int)<(nn:Int):=by omega
         have hjN:j<N.length:=by rw [←HNL.out.1];exact hjn
         obtain ⟨ng,no,ncap,hnv,hng1,hng2,_,_,hncell,_⟩:∃ g off cap,Value.slice na nn nc=.slice (some ⟨g,off,none⟩) nn cap∧w1.heap.size≤g∧g<w2.heap.size∧nn≤cap∧cap≤maxLen∧(∀ j,j<nn*4→w2.cell? ⟨g,off+j,none⟩=(synCells N)[j]?)∧∀ j,j<cap*4→(w2.cell? ⟨g,off+j,none⟩).isSome=true∧w2.frozen? ⟨g,off+j,none⟩=false:=by
          rcases HQN.out.val with ⟨_,_,h0,_⟩ | h9
          ·omega
          ·exact h9
         simp only [Value.slice.injEq] at hnv
         obtain ⟨rfl,_,rfl⟩:=hnv
         obtain ⟨x,y,hxV,hyV,hxy⟩:=HL.out.nn (ndL_sub (T:=T.toTr) (k:=D.l.length) (by rw [←HNN.out];exact List.getElem_mem hjN))
         obtain ⟨xp,xi⟩:=x
         obtain ⟨yp,yi⟩:=y
         have hsc:=synCells_get hjN
         rw [hxy] at hsc
         have h2j:Ext w2 wj:=h2r.trans hxrj
         have s0:∀ w',Ext wj w'→w'.cell? ⟨ng,no+j*4,none⟩=some (.int .i64 (xp:Int)):=fun w' h=>(h2j.trans h).cell ((hncell (j*4) (by omega)).trans hsc.1)
         have s1:∀ w',Ext wj w'→w'.cell? ⟨ng,no+j*4+1,none⟩=some (.int .i64 ((xi:Int)+1)):=fun w' h=>(h2j.trans h).cell ((hncell (j*4+1) (by omega)).trans hsc.2.1)
         have s2:∀ w',Ext wj w'→w'.cell? ⟨ng,no+j*4+2,none⟩=some (.int .i64 (yp:Int)):=fun w' h=>(h2j.trans h).cell ((hncell (j*4+2) (by omega)).trans hsc.2.2.1)
         have s3:∀ w',Ext wj w'→w'.cell? ⟨ng,no+j*4+3,none⟩=some (.int .i64 ((yi:Int)+1)):=fun w' h=>(h2j.trans h).cell ((hncell (j*4+3) (by omega)).trans hsc.2.2.2)
         have sb:∀ w',Ext wj w'→ng<w'.heap.size:=fun w' h=>Nat.lt_of_lt_of_le hng2 (h2j.trans h).le
         have HNJ:=Lib.hid (show N[j]?=some (evI (xp,xi),evI (yp,yi)) from by rw [List.getElem?_eq_getElem hjN,hxy])
         have hgj:∀ d os,Ext wj (Sort.grow (redrawn wj d) os):=fun d os=>below_regrown wj d os
         have HNG:=Lib.hid hng2
         clear hxV hyV hxy hsc hncell hng1 hng2 h2j
         by_cases e0:k=xp
         case neg=>
          have d0:(((xp:Nat):Int) == (k:Int))=false:=by rw [beq_eq_false_iff_ne];omega
          have HNN:=Lib.hid (insG_n (T:=T.toTr) (F:=F) (z:=(k,i)) HNJ.out true (fun e=>e0 (congrArg Prod.fst e).symm))
          go_upto_region 31 with fail
          refine wp_region_quiet_below (by kernel_rfl) (by kernel_rfl) ?_
          repeat (go_big_quiet_step (fail))
          refine wpQuiet_nil ?_
          intro _ hw'
          obtain ⟨⟨dq,osq⟩,hw''⟩:=hw'
          subst hw''
          have hjq:=hgj dq osq
          clear hgj
          generalize Sort.grow (redrawn wj dq) osq=wq at hjq ⊢
          go_wp2_with fail
          go_roundg (nn - (j+1))
          case rel=>exact ⟨j+1,_,by omega,rfl,by go_num,by rw [HNN.out,←HNJL.out];exact HG.out.ext hjq⟩
          case measure=>omega
         subst e0
         by_cases e1:i=xi
         case neg=>
          have d1:(((xi:Nat):Int) == (i:Int))=false:=by rw [beq_eq_false_iff_ne];omega
          have d2:(((xi:Nat):Int)+1 == (i:Int)+1)=false:=by rw [beq_eq_false_iff_ne];omega
          have HNN:=Lib.hid (insG_n (T:=T.toTr) (F:=F) (z:=(k,i)) HNJ.out true (fun e=>e1 (congrArg Prod.snd e).symm))
          go_upto_region 31 with fail
          refine wp_region_quiet_below (by kernel_rfl) (by kernel_rfl) ?_
          repeat (go_big_quiet_step (fail))
          refine wpQuiet_nil ?_
          intro _ hw'
          obtain ⟨⟨dq,osq⟩,hw''⟩:=hw'
          subst hw''
          have hjq:=hgj dq osq
          clear hgj
          generalize Sort.grow (redrawn wj dq) osq=wq at hjq ⊢
          go_wp2_with fail
          go_roundg (nn - (j+1))
          case rel=>exact ⟨j+1,_,by omega,rfl,by go_num,by rw [HNN.out,←HNJL.out];exact HG.out.ext hjq⟩
          case measure=>omega
         subst e1
         have hjF:j<F.length:=by rw [HFF.out,←HLN.out];omega
         obtain ⟨rfl,hfg1,hfg2⟩:=HFP.out (by omega)
         obtain ⟨fj,hfj⟩:∃ z,z=F[j]:=⟨_,rfl⟩
         have HFJ2:=Lib.hid (show ((fj:Nat):Int)=((F.getD j 0:Nat):Int) from by rw [hfj,List.getD_eq_getElem?_getD,List.getElem?_eq_getElem hjF];rfl)
         have n0:∀ w',Ext wj w'→w'.cell? ⟨fg,fo+j,none⟩=some (.int .i64 (fj:Int)):=fun w' h=>by
          refine (hxrj.trans h).cell ?_
          rw [HFC.out j (by omega),←HFF.out,natInts_get (i:=j) (v:=fj) (by rw [hfj];exact List.getElem?_eq_getElem hjF)]
         have nb:∀ w',Ext wj w'→fg<w'.heap.size:=fun w' h=>Nat.lt_of_lt_of_le hfg2 (hxrj.trans h).le
         have hjl:j<ln:=by omega
         have HLS:=Lib.hid (show ng<w2.heap.size∧fg<wr.heap.size from ⟨HNG.out,hfg2⟩)
         clear hfj hfg1 hfg2
         go_upto_region 31 with fail
         refine wp_region_quiet_below (by kernel_rfl) (by kernel_rfl) ?_
         repeat (go_big_quiet_step (fail))
         refine wpQuiet_nil ?_
         intro _ hw'
         obtain ⟨⟨dq,osq⟩,hw''⟩:=hw'
         subst hw''
         have hjq:=hgj dq osq
         clear hgj
         generalize Sort.grow (redrawn wj dq) osq=wq at hjq ⊢
         have hqq:Ext wq wq:=Ext.refl _
         go_upto_region 32 with fail
         obtain ⟨Sv,hSv⟩:∃ S:Nat→Prop,S=fun g=>(Value.slice va nj vc).ownBlock=some g:=⟨_,rfl⟩
         have HSv:=Lib.hid hSv
         have hnS:∀ g,g<wc.heap.size→¬Sv g:=fun g h e=>by
          rw [hSv] at e
          have:=HG.out.que.block g e
          omega
         have hnS14:¬Sv (wi.heap.size+1):=fun e=>by
          rw [hSv] at e
          have h1:=HB14c.out.lt
          rcases HG.out.hat _ e with h2 | h2
          ·exact HN14b.out (.inr h2)
          ·omega
         have hzc:wr.heap.size≤wc.heap.size:=hxrc.le
         have hz2:w2.heap.size≤wr.heap.size:=h2r.le
         have hzl:=HBL.out
         have hzn:=HLS.out
         have t0:∀ w',Chg Sv wq w'→w'.cell? ⟨ng,no+j*4,none⟩=some (.int .i64 _):=fun w' h=>h.cell (s0 wq hjq) (hnS _ (by show ng<_;omega))
         have t2:∀ w',Chg Sv wq w'→w'.cell? ⟨ng,no+j*4+2,none⟩=some (.int .i64 _):=fun w' h=>h.cell (s2 wq hjq) (hnS _ (by show ng<_;omega))
         have tb:∀ w',Chg Sv wq w'→ng<w'.heap.size:=fun w' h=>Nat.lt_of_lt_of_le (sb wq hjq) h.le
         have m0:∀ w',Chg Sv wq w'→w'.cell? ⟨fg,fo+j,none⟩=some (.int .i64 (fj:Int)):=fun w' h=>h.cell (n0 wq hjq) (hnS _ (by show fg<_;omega))
         have mb:∀ w',Chg Sv wq w'→fg<w'.heap.size:=fun w' h=>Nat.lt_of_lt_of_le (nb wq hjq) h.le
         clear l13 c13 l14 c14 l11 c11 s0 s1 s2 s3 sb n0 nb
         obtain ⟨l11,c11⟩:=(HG.out.box.ext hjq).boxS (S:=Sv) (hnS _ HBL.out)
         obtain ⟨l14,c14⟩:=(Hold.ext HK14.out hjq).boxS (S:=Sv) hnS14
         clear hnS hnS14 hzc hz2 hzl hzn hSv
         refine wp_region_T (t:=17) (S:=fun _=>True) (R:=fun w'=>Chg Sv wq w') (by kernel_rfl) trivial (Chg.refl Sv wq).drew (fun hHeld=>?_)
         refine takeU 0 (v:=?_) rfl (by kernel_rfl) (by kernel_rfl) (by kernel_rfl) (by kernel_rfl) (by kernel_rfl) (fun _ _ _ h=>h) (by decide) (Or.inl ⟨by rfl,?_⟩) hHeld.1 hHeld.2 ?_
         rotate_left
         ·intro w' hSw
          have hSX:=hSw.2
          (try dsimp only at hSX)
          have hSS:=Ext.refl w'
          go_simp
          try with_reducible rfl
         try simp only [Act.put,zA,zB,zC]
         refine takeU 1 (v:=?_) rfl (by kernel_rfl) (by kernel_rfl) (by kernel_rfl) (by kernel_rfl) (by kernel_rfl) (fun _ _ _ h=>h) (by decide) (Or.inl ⟨by rfl,?_⟩) hHeld.1 hHeld.2 ?_
         rotate_left
         ·intro w' hSw
          have hSX:=hSw.2
          (try dsimp only at hSX)
          have hSS:=Ext.refl w'
          go_simp
          try with_reducible rfl
         try simp only [Act.put,zA,zB,zC]
         refine takeU 2 (v:=?_) rfl (by kernel_rfl) (by kernel_rfl) (by kernel_rfl) (by kernel_rfl) (by kernel_rfl) (fun _ _ _ h=>h) (by decide) (Or.inl ⟨by rfl,?_⟩) hHeld.1 hHeld.2 ?_
         rotate_left
         ·intro w' hSw
          have hSX:=hSw.2
          (try dsimp only at hSX)
          have hSS:=Ext.refl w'
          go_simp
          try with_reducible rfl
         try simp only [Act.put,zA,zB,zC]
         refine takeU 3 (v:=?_) rfl (by kernel_rfl) (by kernel_rfl) (by kernel_rfl) (by kernel_rfl) (by kernel_rfl) (fun _ _ _ h=>h) (by decide) (Or.inl ⟨by rfl,?_⟩) hHeld.1 hHeld.2 ?_
         rotate_left
         ·intro w' hSw
          have hSX:=hSw.2
          (try dsimp only at hSX)
          have hSS:=Ext.refl w'
          go_simp
          try with_reducible rfl
         try simp only [Act.put,zA,zB,zC]
         refine takeU 4 (v:=?_) rfl (by kernel_rfl) (by kernel_rfl) (by kernel_rfl) (by kernel_rfl) (by kernel_rfl) (fun _ _ _ h=>h) (by decide) (Or.inl ⟨by rfl,?_⟩) hHeld.1 hHeld.2 ?_
         rotate_left
         ·intro w' hSw
          have hSX:=hSw.2
          (try dsimp only at hSX)
          have hSS:=Ext.refl w'
          go_simp
          try with_reducible rfl
         try simp only [Act.put,zA,zB,zC]
         refine takeU 5 (v:=?_) rfl (by kernel_rfl) (by kernel_rfl) (by kernel_rfl) (by kernel_rfl) (by kernel_rfl) (fun _ _ _ h=>h) (by decide) (Or.inl ⟨by rfl,?_⟩) hHeld.1 hHeld.2 ?_
         rotate_left
         ·intro w' hSw
          have hSX:=hSw.2
          (try dsimp only at hSX)
          have hSS:=Ext.refl w'
          go_simp
          try with_reducible rfl
         try simp only [Act.put,zA,zB,zC]
         refine takeU 6 (v:=?_) rfl (by kernel_rfl) (by kernel_rfl) (by kernel_rfl) (by kernel_rfl) (by kernel_rfl) (fun _ _ _ h=>h) (by decide) (Or.inl ⟨by rfl,?_⟩) hHeld.1 hHeld.2 ?_
         rotate_left
         ·intro w' hSw
          have hSX:=hSw.2
          (try dsimp only at hSX)
          have hSS:=Ext.refl w'
          go_simp
          try with_reducible rfl
         try simp only [Act.put,zA,zB,zC]
         refine takeU 7 (v:=?_) rfl (by kernel_rfl) (by kernel_rfl) (by kernel_rfl) (by kernel_rfl) (by kernel_rfl) (fun _ _ _ h=>h) (by decide) (Or.inl ⟨by rfl,?_⟩) hHeld.1 hHeld.2 ?_
         rotate_left
         ·intro w' hSw
          have hSX:=hSw.2
          (try dsimp only at hSX)
          have hSS:=Ext.refl w'
          go_simp
          try with_reducible rfl
         try simp only [Act.put,zA,zB,zC]
         refine takeU 8 (v:=?_) rfl (by kernel_rfl) (by kernel_rfl) (by kernel_rfl) (by kernel_rfl) (by kernel_rfl) (fun _ _ _ h=>h) (by decide) (Or.inl ⟨by rfl,?_⟩) hHeld.1 hHeld.2 ?_
         rotate_left
         ·intro w' hSw
          have hSX:=hSw.2
          (try dsimp only at hSX)
          have hSS:=Ext.refl w'
          go_simp
          try with_reducible rfl
         try simp only [Act.put,zA,zB,zC]
         refine takeU 9 (v:=?_) rfl (by kernel_rfl) (by kernel_rfl) (by kernel_rfl) (by kernel_rfl) (by kernel_rfl) (fun _ _ _ h=>h) (by decide) (Or.inl ⟨by rfl,?_⟩) hHeld.1 hHeld.2 ?_
         rotate_left
         ·intro w' hSw
          have hSX:=hSw.2
          (try dsimp only at hSX)
          have hSS:=Ext.refl w'
          go_simp
          try with_reducible rfl
         try simp only [Act.put,zA,zB,zC]
         refine takeU 10 (v:=?_) rfl (by kernel_rfl) (by kernel_rfl) (by kernel_rfl) (by kernel_rfl) (by kernel_rfl) (fun _ _ _ h=>h) (by decide) (Or.inl ⟨by rfl,?_⟩) hHeld.1 hHeld.2 ?_
         rotate_left
         ·intro w' hSw
          have hSX:=hSw.2
          (try dsimp only at hSX)
          have hSS:=Ext.refl w'
          go_simp
          try with_reducible rfl
         try simp only [Act.put,zA,zB,zC]
         refine takeU 11 (v:=?_) rfl (by kernel_rfl) (by kernel_rfl) (by kernel_rfl) (by kernel_rfl) (by kernel_rfl) (fun _ _ _ h=>h) (by decide) (Or.inl ⟨by rfl,?_⟩) hHeld.1 hHeld.2 ?_
         rotate_left
         ·intro w' hSw
          have hSX:=hSw.2
          (try dsimp only at hSX)
          have hSS:=Ext.refl w'
          go_simp
          try with_reducible rfl
         try simp only [Act.put,zA,zB,zC]
         refine takeU 12 (v:=?_) rfl (by kernel_rfl) (by kernel_rfl) (by kernel_rfl) (by kernel_rfl) (by kernel_rfl) (fun _ _ _ h=>h) (by decide) (Or.inl ⟨by rfl,?_⟩) hHeld.1 hHeld.2 ?_
         rotate_left
         ·intro w' hSw
          have hSX:=hSw.2
          (try dsimp only at hSX)
          have hSS:=Ext.refl w'
          go_simp
          try with_reducible rfl
         try simp only [Act.put,zA,zB,zC]
         refine takeU 13 (v:=?_) rfl (by kernel_rfl) (by kernel_rfl) (by kernel_rfl) (by kernel_rfl) (by kernel_rfl) (fun _ _ _ h=>h) (by decide) (Or.inl ⟨by rfl,?_⟩) hHeld.1 hHeld.2 ?_
         rotate_left
         ·intro w' hSw
          have hSX:=hSw.2
          (try dsimp only at hSX)
          have hSS:=Ext.refl w'
          go_simp
          try with_reducible rfl
         try simp only [Act.put,zA,zB,zC]
         refine takeU 14 (v:=?_) rfl (by kernel_rfl) (by kernel_rfl) (by kernel_rfl) (by kernel_rfl) (by kernel_rfl) (fun _ _ _ h=>h) (by decide) (Or.inl ⟨by rfl,?_⟩) hHeld.1 hHeld.2 ?_
         rotate_left
         ·intro w' hSw
          have hSX:=hSw.2
          (try dsimp only at hSX)
          have hSS:=Ext.refl w'
          go_simp
          try with_reducible rfl
         try simp only [Act.put,zA,zB,zC]
         have hA0:Ext wq wq.drew:=(Ext.refl wq).drew
         generalize wq.drew=wd at hA0 hHeld ⊢
         clear l14 c14 l11 c11 t0 t2 tb m0 mb
         refine wpAnyT_ready (rs:=[15]) (by kernel_rfl) (by simp) ?_
         refine AllReadyT.cons rfl (fun K hK=>?_) AllReadyT.nil
         go_simp
         have hxe:=hA0.alloc' (.cells #[.int .i64 2,.int .i64 (yp:Nat),.int .i64 fj,.int .i64 (T.time k i),.slice none 0 0] 65)
         refine hK.out _ _ ⟨trivial,hxe.chg Sv⟩ (fun hHeld2=>?_)
         clear hK K
         try simp only [Act.put,zA,zB,zC]
         have HSR:=Lib.hid ((RowM.new wd [.int .i64 2,.int .i64 (yp:Nat),.int .i64 fj,.int .i64 (T.time k i),.slice none 0 0] 65 5 rfl).src (P:=Tryz.prog) Tryz.underlying60 (by intro u hu;simp at hu;rcases hu with rfl | rfl | rfl | rfl | rfl <;> rfl))
         have hjd:=hjq.trans hxe
         have HQJ:=Lib.hid (HG.out.que.ext hjd)
         have hszd:wc.heap.size≤(wd.alloc (.cells #[.int .i64 2,.int .i64 (yp:Nat),.int .i64 fj,.int .i64 (T.time k i),.slice none 0 0] 65)).heap.size:=by
          have h1:=hjd.le
          have h2:=HE.out.c.le
          have h3:=HSZA.out
          have h4:=HG.out.c.le
          have h5:=HSZ2.out
          omega
         clear hHeld
         refine wpAnyT_ready (rs:=[16]) (by kernel_rfl) (by simp) ?_
         refine AllReadyT.cons rfl (fun K hK=>?_) AllReadyT.nil
         refine step_append_que _ rfl _ _ 60 60 rfl (base:=wc.heap.size) (e:=65) (size:=5) ei (.agg #[.int .i64 0,.int .i64 0,.int .i64 0,.int .i64 0,.slice none 0 0]) 56 Tryz.underlying60 hei hez0 hez1 hez2 rfl (v:=.slice va nj vc) (n:=nj) (xs:=X1++insCells (T.toTr.insG N F true (k,i) j)) rfl HQJ.out hszd (.slice (some ⟨wd.heap.size,0,none⟩) 1 1) 1 [.int .i64 2,.int .i64 (yp:Nat),.int .i64 fj,.int .i64 (T.time k i),.slice none 0 0] rfl HSR.out (by unfold maxLen;omega) (by omega) ?_
         intro v9 w9 hq9 hg9 hat9
         obtain ⟨x9,y9,rfl⟩:=hq9.slice
         obtain ⟨hG9,hb9⟩:=HG.out.app hjd hq9 hg9 hat9 (Nat.succ_pos _)
         refine hK.out _ _ ⟨trivial,(hxe.chg Sv).grown hg9 (fun g e=>.inl (by rw [HSv.out];exact e))⟩ (fun hHeld3=>?_)
         clear hK K
         try simp only [Act.put]
         obtain ⟨l9,c9,f9,_⟩:=hb9.box
         have h99:Ext w9 w9:=Ext.refl _
         have HN9:=Lib.hid hG9
         clear hG9 hq9 hg9 hat9 hb9
         refine wpAnyT_ready (rs:=[17]) (by kernel_rfl) (by simp) ?_
         refine AllReadyT.late rfl (by decide) (fun K hK=>?_) AllReadyT.nil
         go_simp
         refine hK.out _ _ trivial (fun hHeld4=>?_)
         clear hK K
         try simp only [Act.put]
         refine wpAnyT_ready (rs:=[18]) (by kernel_rfl) (by simp) ?_
         refine AllReadyT.late rfl (by decide) (fun K hK=>?_) AllReadyT.nil
         go_simp
         refine hK.out _ _ trivial (fun hHeld5=>?_)
         clear hK K
         clear l9 c9 f9 h99 hHeld2 hHeld3 hHeld4 hHeld5
         refine wpAnyT_done (by kernel_rfl) ?_ _
         generalize w9.setCell ⟨bn,2,none⟩ (.slice x9 (nj+1) y9)=wz at HN9 ⊢
         go_wp2_with fail
         go_roundg (nn - (j+1))
         case rel=>exact ⟨j+1,_,by omega,rfl,by go_num,by
          have h:=HN9.out
          rw [HNJL.out] at h
          rw [insG_t HNJ.out,insCells_snoc,List.length_append,←List.append_assoc,←Nat.add_assoc,←HFJ2.out]
          exact h⟩
         case measure=>omega
        have hjn3:nn=j:=by omega
        subst hjn3
        have HNX:=Lib.hid (show AplE T.toTr N F wc bn k (.string nm) (.slice sva svn svc) (i+1) (setS ad i ⟨sa,T.an k i,sc,sb,so⟩) (.slice va nj vc) wj from by
         refine HE.out.next2 (HC2.out.then HG.out.c (fun g hg e=>(HSS.out g e).2.1 hg)) (HMC.out.same HG.out.c.le fun h0=>HG.out.c.2 _ (HMC.out.hb h0) (fun e=>(HSS.out sb e).2.2.2.2 h0 rfl)) rfl (fun h0=>⟨?_,fun e=>?_⟩) HG.out.box ?_ (fun g e=>?_)
         ·exact HSW.out h0
         ·have h1:=HMC.out.hb h0
          rcases HG.out.hat _ e with h2 | h2
          ·exact (HSS.out _ (.inr h2)).2.2.2.2 h0 rfl
          ·have h3:sb<wA2.heap.size:=h1
           have h4:wA2.heap.size≤sb:=h2
           omega
         ·have h:=HG.out.que
          rw [HX1.out,HNL.out.1] at h
          rw [apl_len_succ,aplCs_succ,←HNA.out,show ma+(T.toTr.insG N F false (k,i) N.length).length+1+(T.toTr.insG N F true (k,i) N.length).length=nj from by rw [HNJL.out,HN1.out,HNL.out.1]]
          exact h
         ·rcases HG.out.hat g e with h2 | h2
          ·by_cases h3:g<wi.heap.size
           ·exact .inl ((HOW.out g h2).2.2.2.2 h3)
           ·exact .inr (by omega)
          ·exact .inr (Nat.le_trans HSZ2.out h2))
        clear l13 c13 l14 c14 l11 c11
        go_wp2_with fail
        go_roundg (en - (i+1))
        case rel=>exact ⟨i+1,_,_,by omega,rfl,by go_num,HNX.out⟩
        case measure=>omega
  have hlt':(m:Int)<200:=by omega
  have hlt2:(m:Int)≤199:=by omega
  have hRr:=HR.out.extN hx3r
  obtain ⟨b,hb⟩:∃ z,z=f m:=⟨_,rfl⟩
  have s0:∀ w',Ext wr w'→w'.cell? ⟨g,m,none⟩=some (.bool b):=fun w' x=>by rw [hb];exact x.cell (hRr.c m hlt)
  have sl:∀ w',Ext wr w'→g<w'.heap.size:=fun w' x=>Nat.lt_of_lt_of_le hRr.lt x.le
  have hrr:Ext wr wr:=Ext.refl _
  have HB:=Lib.hid (show b=true↔¬T.toTr.Free m from by rw [hb];exact HFl.out m hlt)
  clear hb hRr
  cases b with
  | true =>
   have HST:=Lib.hid (show FrI T.toTr w3 (m+1) (.slice a7 ln c7) wr from ⟨HI.out.x,by rw [freeL_no (HB.out.1 rfl),←HLN.out];have h:=HI.out.q;rw [←HLN.out] at h;exact h⟩)
   go_wp2_with fail
   go_roundg (200 - (m+1))
   case rel=>exact ⟨m+1,by omega,rfl,by go_num,HST.out⟩
   case measure=>omega
  | false =>
   have HNF:=Lib.hid (freeL_yes (T:=T.toTr) (m:=m) (Classical.byContradiction fun h=>absurd (HB.out.2 h) (by decide)))
   go_upto_region 6 with (at_builtin;refine wpList_append_que _ rfl _ _ 39 39 rfl (base:=w3.heap.size) (e:=3) (size:=1) j0 (.int .i64 0) 8 Tryz.underlying39 hj0 hy0 hy1 hy2 rfl rfl (v:=.slice a7 ln c7) (n:=ln) (xs:=intCells (natInts (T.toTr.freeL m))) (by have h1:=(HI.out.ext (Ext.alloc wr (.cells #[.int .i64 (m:Int)] 3))).q;rw [←HLN.out] at h1;exact h1) (by rw [World.size_alloc];have:=HI.out.x.le;omega) (.slice (some ⟨wr.heap.size,0,none⟩) 1 1) 1 [.int .i64 (m:Int)] rfl (by exact Src.ofSlice _ Tryz.underlying39 ⟨wr.heap.size,0,none⟩ 1 1 _ rfl (news_ok wr _ _) (one_int _)) (by unfold maxLen;omega) (by omega) ?_;rintro v9 w9 hq9 hg9 -;have H9:=Lib.hid (show FrI T.toTr w3 (m+1) v9 w9 from ⟨Below.grown ((HI.out.x).trans (Ext.alloc wr (.cells #[.int .i64 (m:Int)] 3))) hg9 (by rw [World.size_alloc];have:=HI.out.x.le;omega) (fun g e=>by have h1:=HI.out.q.block g e;omega),by rw [HNF.out,natInts_snoc,List.length_append,←HLN.out];exact hq9⟩);clear hq9 hg9)
   go_wp2_with fail
   go_roundg (200 - (m+1))
   case rel=>exact ⟨m+1,by omega,rfl,by go_num,H9.out⟩
   case measure=>omega
end Go.Proofs.YtkhgpockmaghjaaGreat
