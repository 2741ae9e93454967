/- Contracts and laws in plain Lean for RApp: group W59. -/
import Derived.Test.YtkhgpockmaghjaaGreatW56
import Derived.Laws.EntriesVeiled
namespace Go.Proofs.YtkhgpockmaghjaaGreat
open Go.RowKit Go.Shelf
attribute [local go_sem] Oper.semAt_some
theorem synCells_get {l:List Syn} {j:Nat} (h:j<l.length):(synCells l)[j*4]?=some (.int .i64 l[j].1.1)∧(synCells l)[j*4+1]?=some (.int .i64 l[j].1.2)∧(synCells l)[j*4+2]?=some (.int .i64 l[j].2.1)∧(synCells l)[j*4+3]?=some (.int .i64 l[j].2.2):=by
 induction l generalizing j with
 | nil => exact absurd h (Nat.not_lt_zero _)
 | cons s l ih =>
  cases j with
  | zero => exact ⟨rfl,rfl,rfl,rfl⟩
  | succ j =>
   have h1:=ih (j:=j) (by simpa using h)
   have e:(j+1)*4=j*4+1+1+1+1:=by omega
   rw [e]
   exact h1
def Tr.AplBig (T:Tr) (N:List Syn) (F:List Nat):Prop:=F.length<N.length∨∃ p,p<T.n∧64<(T.apl N F p (T.en p)).length
def PAppPost (T:Tr) (L:List Syn) (w:World) (e:Ending) (w':World):Prop:=Ext w w'∧((∃ r:Int,PFault T L True False r∧r≠0∧e=.returned (.tuple #[.agg #[.slice none 0 0],.int .i64 r]))∨
 (PFault T L True False 0∧((T.AplBig (T.ndL L L.length) (T.freeL 200)∧e=.returned (.tuple #[.agg #[.slice none 0 0],.int .i64 9]))∨
  (¬T.AplBig (T.ndL L L.length) (T.freeL 200)∧∃ U:TM,U.At w'∧U.toTr=T.aplTr (T.ndL L L.length) (T.freeL 200)∧e=.returned (.tuple #[U.val,.int .i64 0])))))
theorem papply_results (tmps : Array Value) (W : World) (b : Nat) (x0 u : Value) (t4 : tmps[4]? = some (.pointer (some ⟨b, 0, none⟩))) (t5 : tmps[5]? = some u) (c0 : W.cell? ⟨b, 0, none⟩ = some x0) :
    (results Tryz.f12 tmps).run Tryz.prog W=.ok (.tuple #[.agg #[x0],u]) W:=by
 simp [results,go_sem,t4,t5,c0]
theorem insG_succ {T:Tr} {N:List Syn} {F:List Nat} {j:Nat} {x y:NN} (hN:N[j]?=some (evI x,evI y)) (c:Bool) (z:NN):T.insG N F c z (j+1)=T.insG N F c z j++if (bif c then x else y)=z then [((bif c then 2 else 3),(bif c then (y.1:Int) else (x.1:Int)),((F.getD j 0:Nat):Int),T.time z.1 z.2)] else []:=by
 show T.insG N F c z j++_=_
 rw [hN]
 cases c
 ·show _++(if evI y=evI z then _ else _)=_++(if y=z then _ else _)
  by_cases e:y=z
  ·subst e;rw [if_pos rfl,if_pos rfl]
  ·rw [if_neg e,if_neg fun h=>e (evI_inj h)]
 ·show _++(if evI x=evI z then _ else _)=_++(if x=z then _ else _)
  by_cases e:x=z
  ·subst e;rw [if_pos rfl,if_pos rfl]
  ·rw [if_neg e,if_neg fun h=>e (evI_inj h)]
theorem insG_t {T:Tr} {N:List Syn} {F:List Nat} {j:Nat} {x y:NN} (hN:N[j]?=some (evI x,evI y)):T.insG N F true x (j+1)=T.insG N F true x j++[(2,(y.1:Int),((F.getD j 0:Nat):Int),T.time x.1 x.2)]:=by
 rw [insG_succ hN];exact congrArg _ (if_pos rfl)
theorem insG_f {T:Tr} {N:List Syn} {F:List Nat} {j:Nat} {x y:NN} (hN:N[j]?=some (evI x,evI y)):T.insG N F false y (j+1)=T.insG N F false y j++[(3,(x.1:Int),((F.getD j 0:Nat):Int),T.time y.1 y.2)]:=by
 rw [insG_succ hN];exact congrArg _ (if_pos rfl)
theorem insG_n {T:Tr} {N:List Syn} {F:List Nat} {j:Nat} {x y z:NN} (hN:N[j]?=some (evI x,evI y)) (c:Bool) (h:(bif c then x else y)≠z):T.insG N F c z (j+1)=T.insG N F c z j:=by
 rw [insG_succ hN,if_neg h,List.append_nil]
theorem fld_time (a b c d e:Value) (w:World):Sem.run Tryz.prog (Instr.field 65 (.agg #[a,b,c,d,e]) 3) w=.ok d w:=by kernel_rfl
set_option maxRecDepth 100000 in
set_option maxHeartbeats 8000000 in
theorem papply_any (w : World) (T : TM) (hT : T.At w) (hn : T.n ≤ 1000) (D : SyD) (hD : D.At w) :
    Calls Tryz.prog 12 #[T.val,.slice D.s.a D.s.n D.s.c] w (PAppPost T.toTr D.l w):=by
 obtain ⟨ei,hei,hez0,hez1,hez2⟩:=info_parts infoEvnt
 obtain ⟨pi,hpi,hpz0,hpz1,hpz2⟩:=info_parts infoProc
 have HIN:=Lib.hid (fun W=>initial_any W T hn)
 have HCK:=Lib.hid (fun W (h:Ext w W) g (hr:IntRow W g T.n (fun _=>0))=>(show Calls Tryz.prog 48 #[T.val,.slice D.s.a D.s.n D.s.c,.slice (some ⟨g,0,none⟩) T.n T.n] W (fun e w'=>Ext W w'∧∃ r:Int,e=.returned (.int .i64 r)∧PFault T.toTr D.l True False r) from
  (check_any W T (hT.ext h) D (hD.ext h) (some ⟨g,0,none⟩) g 0 T.n T.n (fun _=>0) (hr.num (by omega))).mono fun e w' ⟨hx,r,he,hf⟩=>⟨hx,r,he,hf.zero⟩))
 have HFR:=Lib.hid (fun W (h:Ext w W) (hV:T.toTr.Valid)=>free_any W T (hT.ext h) hV)
 have HND:=Lib.hid (fun W (h:Ext w W) (hV:T.toTr.Valid) (hL:SynOk T.toTr D.l) (hl:D.l.length≤1000)=>(show Calls Tryz.prog 50 #[T.val,.slice D.s.a D.s.n D.s.c] W (fun e w'=>Ext W w'∧∃ v,e=.returned v∧Que w' W.heap.size 4 v (T.toTr.ndL D.l D.l.length).length (synCells (T.toTr.ndL D.l D.l.length))) from by
  have h1:=needed_any W T (hT.ext h) hV D (hD.ext h) hL (by rw [D.len] at hl;exact hl)
  rw [←D.len] at h1;rw [←D.len];exact h1))
 have HEV:=Lib.hid (fun W (h:Ext w W) p i hp hi=>pevent_any W T (hT.ext h) p i hp hi)
 have HT:=Lib.hid hT
 unfold PAppPost
 obtain ⟨ta,hta⟩:∃ z,z=T.a:=⟨_,rfl⟩
 obtain ⟨da,hda⟩:∃ z,z=D.s.a:=⟨_,rfl⟩
 obtain ⟨dn,hdn⟩:∃ z,z=D.s.n:=⟨_,rfl⟩
 obtain ⟨N,hN⟩:∃ z,z=T.toTr.ndL D.l D.l.length:=⟨_,rfl⟩
 obtain ⟨F,hF⟩:∃ z,z=T.toTr.freeL 200:=⟨_,rfl⟩
 simp only [TM.val,←hta] at HIN HCK HFR HND HEV ⊢
 rw [←hda,←hdn] at HCK HND
 rw [←hda,←hdn,←hN,←hF]
 rw [←hN] at HND
 rw [←hF] at HFR
 have HTA:=Lib.hid hta
 have HNN:=Lib.hid hN
 have HFF:=Lib.hid hF
 clear hT hD hta hda hdn hN hF
 go_enter Tryz.func12,Tryz.ntmps12
 go_upto_region 1 with fail
 refine boxed2 (w:=w) (G:=fun x=>Code.wp _ _ _ _ x) ?_
 intro w1 hx1 hs1 ⟨l0,c0,_,_⟩ ⟨l1,c1,f1,k1⟩
 have HRB:=Lib.hid (show Hold w1 (w.heap.size+1) #[.slice none 0 0] from k1)
 clear hs1 k1
 refine wp_region_held_drew (S:=fun w'=>Ext w1 w') (by kernel_rfl) (Ext.refl _).drew (fun hHeld=>?_)
 refine hQ 0 (v:=?_) rfl (y:=.inl ⟨by rfl,?_⟩) (h:=?_)
 rotate_left
 ·(intro w' hSw;(try dsimp only at hSw);have hSS:=Ext.refl w';go_simp;try with_reducible rfl)
 try simp only [Act.put,zA,zB,zC]
 refine hQ 1 (v:=?_) rfl (y:=.inl ⟨by rfl,?_⟩) (h:=?_)
 rotate_left
 ·(intro w' hSw;(try dsimp only at hSw);have hSS:=Ext.refl w';go_simp;try with_reducible rfl)
 try simp only [Act.put,zA,zB,zC]
 refine hQ 2 (v:=?_) rfl (y:=.inl ⟨by rfl,?_⟩) (h:=?_)
 rotate_left
 ·(intro w' hSw;(try dsimp only at hSw);have hSS:=Ext.refl w';go_simp;try with_reducible rfl)
 try simp only [Act.put,zA,zB,zC]
 refine wpAnyH_ready (rs:=[3]) (by kernel_rfl) (by simp) ?_
 refine AllReadyH.cons rfl (fun K hK=>?_) AllReadyH.nil
 go_simp
 go_at_call 49
 refine (HIN.out w1.drew).mono ?_
 rintro e w2 ⟨hx2,g,rfl,hr,-⟩
 have hx12:Ext w1 w2:=(Ext.refl w1).drew.trans hx2
 refine hK.out _ _ ?_ (fun hHeld2=>?_)
 ·exact hx12
 clear hK K
 try simp only [Act.put,zA,zB,zC]
 have hck:=HCK.out w2 (hx1.trans hx12) g hr
 refine wpAnyH_ready (rs:=[4]) (by kernel_rfl) (by simp) ?_
 refine AllReadyH.cons rfl (fun K hK=>?_) AllReadyH.nil
 go_simp
 go_at_call 48
 refine hck.mono ?_
 rintro e w3 ⟨hx3,r,rfl,hf⟩
 have hx13:=hx12.trans hx3
 refine hK.out _ _ ?_ (fun hHeld3=>?_)
 ·exact hx13
 clear hK K
 try simp only [Act.put,zA,zB,zC]
 have HF:=Lib.hid hf
 clear hf hck hr
 refine hQ 5 (v:=?_) rfl (y:=.inl ⟨by rfl,?_⟩) (h:=?_)
 rotate_left
 ·(intro w' hSw;(try dsimp only at hSw);have hSS:=Ext.refl w';go_simp;try with_reducible rfl)
 try simp only [Act.put,zA,zB,zC]
 refine wpAnyH_done (by kernel_rfl) ?_ _
 clear hHeld hHeld2 hHeld3 hx2 hx3 hx12
 have hxw3:=hx1.trans hx13
 by_cases h0:r=0
 case neg=>
  have d0:(r == 0)=false:=by simpa using h0
  have H0:=Lib.hid h0
  clear h0
  go_wp2_with fail
  refine bodyPost_ret (papply_results _ _ _ _ _ rfl rfl ((Hold.set (HRB.out.ext hx13) 0 _).cell0 0)) rfl ?_
  exact ⟨hxw3.setCell (by show w.heap.size≤w.heap.size+1;omega) _,.inl ⟨r,HF.out,H0.out,rfl⟩⟩
 subst h0
 obtain ⟨⟨hV,_⟩,hl,hL,_,hA⟩:=HF.out.ok
 have HV:=Lib.hid hV
 have HL:=Lib.hid hL
 have HLN:=Lib.hid hl
 have hfr:=HFR.out w3 hxw3 hV
 have hn8:=hV.n8
 have hn1:=hV.n1
 have hmm:=@run_makeMap Tryz.prog
 clear hV hL hA hl
 go_upto_region 5 with (go_at_call 51;refine hfr.mono ?_;rintro e w4 ⟨hx4,vf,rfl,hqf⟩)
 obtain ⟨fa,fg,fo,fc,rfl,_,hfp,hfcell⟩:=Que.cells1 hqf
 have HFP:=Lib.hid hfp
 have HFC:=Lib.hid hfcell
 have hx14:=hx13.trans hx4
 have hxw4:=hx1.trans hx14
 clear hqf hfp hfcell hfr
 go_upto_region 6 with fail
 refine boxed1 (w:=(w4.alloc (.map #[] 0)).alloc (.map #[] 0)) (G:=fun x=>Code.wp _ _ _ _ x) ?_
 intro w7 hx7 hs7 ⟨l7,c7,_,_⟩
 have hs42:((w4.alloc (.map #[] 0)).alloc (.map #[] 0)).heap.size=w4.heap.size+1+1:=by simp
 rw [hs42] at l7 c7
 obtain ⟨b,hb⟩:∃ z,z=w4.heap.size:=⟨_,rfl⟩
 have HBE:=Lib.hid hb
 have hx47:Ext w4 w7:=((Ext.alloc w4 (.map #[] 0)).trans (Ext.alloc _ (.map #[] 0))).trans hx7
 have HX7:=Lib.hid hx7
 rw [←hb] at l7 c7 ⊢
 have hx17:=hx14.trans hx47
 have hxw7:=hx1.trans hx17
 have hnd:=HND.out w7 hxw7 HV.out HL.out HLN.out
 obtain ⟨nn,hnn⟩:∃ z,z=N.length:=⟨_,rfl⟩
 have HNL:=Lib.hid (show nn=N.length∧nn≤1000 from ⟨hnn,by rw [hnn,HNN.out];have h1:=ndL_len T.toTr D.l D.l.length;have:=HLN.out;omega⟩)
 obtain ⟨fn',hfn⟩:∃ z,z=F.length:=⟨_,rfl⟩
 have HFL:=Lib.hid (show fn'=F.length∧fn'≤200 from ⟨hfn,by rw [hfn,HFF.out];exact freeL_len _ _⟩)
 rw [←hnn] at hnd
 rw [←hfn]
 rw [←hfn] at HFP HFC
 clear hs7 hx7 hb hmm hnn hfn hs42
 have h77:Ext w7 w7:=Ext.refl _
 go_upto_region 7 with (go_at_call 50;refine hnd.mono ?_;rintro e w8 ⟨hx8,vn,rfl,hqn⟩;obtain ⟨na,nc,rfl⟩:=hqn.slice)
 have HI0:=Lib.hid (show ApI w4 w8 (bmF w4.heap.size) (fun _=>[]) (fun c z=>T.toTr.insG N F c z 0) w8 from (ApI.new (HX7.out.trans hx8)).like fun _ _=>rfl)
 have HQN:=Lib.hid hqn
 have hx48:=hx47.trans hx8
 have B0:=Lib.hid (And.intro (c7 w8 hx8 0) (And.intro (c7 w8 hx8 1) (l7 w8 hx8)))
 clear hqn hnd hx8 h77 hx17 hxw7
 rw [←HBE.out] at HI0
 go_loopg [36] nn (fun gg v36 wr=>∃ (j:Nat) (LM:Bool→List ((Int × Int) × Value)),j≤nn∧j≤fn'∧gg=nn - j∧v36=.int .i64 j∧ApI w4 w8 (bmF b) LM (fun c z=>T.toTr.insG N F c z j) wr)
 case atStart=>exact ⟨0,_,by omega,by omega,rfl,rfl,HI0.out⟩
 case round=>
  obtain ⟨j,LM,hj,hjf0,rfl,rfl,hI⟩:=hrel
  have hx4r:=hI.x
  have hx1r:=hx14.trans hx4r
  have hxwr:=hx1.trans hx1r
  have HI:=Lib.hid hI
  clear hI HI0
  by_cases hjn:j<nn
  case neg=>
   obtain rfl:j=nn:=by omega
   have HNF:=Lib.hid hjf0
   have HIF:=Lib.hid (show ApI w4 w8 (bmF b) LM (fun c z=>T.toTr.insG N F c z N.length) wr from HI.out.like (fun c z=>by rw [←HNL.out.1]))
   clear hjf0 hj
   go_upto_region 15 with fail
   refine boxed1 (w:=wr) (G:=fun x=>Code.wp _ _ _ _ x) ?_
   intro wE hxE hsE ⟨lE,cE,fE,kE⟩
   have hx1E:=hx1r.trans hxE
   have hxwE:=hx1.trans hx1E
   have HO0:=Lib.hid (AplO.start (T:=T.toTr) (N:=N) (F:=F) (show Hold wE wr.heap.size #[.slice none 0 0] from kE) (fun _=>default))
   obtain ⟨bo,hbo⟩:∃ z,z=wr.heap.size:=⟨_,rfl⟩
   rw [←hbo] at HO0 ⊢
   have HBO:=Lib.hid hbo
   have HXE:=Lib.hid hxE
   clear hsE lE cE fE kE hbo hxE
   go_wp2_with fail
   go_loopg [94] T.n (fun gg v94 wo=>∃ (k:Nat) (pa:Nat→PAd) (vo:Value),k≤T.n∧gg=T.n - k∧v94=.int .i64 k∧AplO T.toTr N F wE bo k pa vo wo∧∀ q,q<k→(T.toTr.apl N F q (T.en q)).length≤64)
   case atStart=>exact ⟨0,_,_,by omega,rfl,rfl,HO0.out,fun q h=>absurd h (Nat.not_lt_zero _)⟩
   case round=>
    rename World=>wo
    obtain ⟨k,pa,vo,hk,rfl,rfl,hO,hall⟩:=hrel
    have hxro:Ext wr wo:=Chg.ext HXE.out hO.c (fun g e=>by rw [e,HBO.out];exact Nat.le_refl _)
    have hx1o:=hx1r.trans hxro
    have hxwo:=hx1.trans hx1o
    have HO:=Lib.hid hO
    have HAL:=Lib.hid hall
    clear hO hall HO0
    by_cases hkn:k<T.n
    case neg=>
     obtain rfl:k=T.n:=by omega
     obtain ⟨oa,oc,rfl⟩:=HO.out.que.slice
     obtain ⟨lo,co,_,_⟩:=HO.out.box.box
     have hoo:Ext wo wo:=Ext.refl _
     go_wp2_with fail
     refine bodyPost_ret (papply_results _ _ _ _ _ rfl rfl ((Hold.set (HRB.out.ext hx1o) 0 _).cell0 0)) rfl ?_
     refine ⟨hxwo.setCell (by show w.heap.size≤w.heap.size+1;omega) _,.inr ⟨HF.out,.inr ⟨?_,?_⟩⟩⟩
     ·rintro (h1 | ⟨q,hq,h1⟩)
      ·have h2:=HNF.out
       rw [HNL.out.1,HFL.out.1] at h2
       omega
      ·have h2:=HAL.out q hq
       omega
     ·have hl:=HRB.out.lt
      have hle:=hx1E.le
      obtain ⟨U,h1,h2,h3⟩:=HO.out.fin (p:=⟨w.heap.size+1,0,none⟩) (v:=.slice oa T.n oc) hn HT.out.ok (by rw [HFF.out];exact insOk_of hn (HL.out.mono fun s hs=>ndL_sub (T:=T.toTr) (k:=D.l.length) (by rw [←HNN.out];exact hs)) 200 (by omega)) (by show w.heap.size+1<wE.heap.size;omega)
      exact ⟨U,h1,h2,by
       have h4:Value.agg #[.slice U.a U.n U.cap]=_:=h3
       rw [h4];rfl⟩
    have hkn':(k:Int)<(T.n:Int):=by omega
    obtain ⟨oa,oc,rfl⟩:=HO.out.que.slice
    have hen:=HV.out.en64 hkn
    have hvn:=(HV.out.pr k hkn).2.2.1
    obtain rfl:ta=some ⟨T.b,T.off,none⟩:=by rw [HTA.out];exact HT.out.P.pa (by omega)
    have pb:=HT.out.P.pb (by omega)
    obtain ⟨nm,hnm⟩:∃ z,z=T.name k:=⟨_,rfl⟩
    obtain ⟨vn,hvn0⟩:∃ z,z=T.vn k:=⟨_,rfl⟩
    obtain ⟨en,hen0⟩:∃ z,z=T.en k:=⟨_,rfl⟩
    obtain ⟨ea,hea0⟩:∃ z,z=T.ea k:=⟨_,rfl⟩
    have p0:∀ w',Ext w w'→w'.cell? ⟨T.b,T.off+k*3,none⟩=some (.string nm):=fun w' h=>by rw [hnm];exact HT.out.P.p0 w' h k hkn
    have p1:∀ w',Ext w w'→w'.cell? ⟨T.b,T.off+k*3+1,none⟩=some (.slice (T.va k) vn (T.vc k)):=fun w' h=>by rw [hvn0];exact HT.out.P.p1 w' h k hkn
    have p2:∀ w',Ext w w'→w'.cell? ⟨T.b,T.off+k*3+2,none⟩=some (.slice ea en (T.ec k)):=fun w' h=>by rw [hea0,hen0];exact HT.out.P.p2 w' h k hkn
    have HCV:=Lib.hid (fun W (x:Ext w W)=>cloneVar_any W (T.vS k) (T.varCs k) ((HT.out.vM hkn).ext x) (by show T.vn k≤1000;omega) (varCs_one _ _))
    have HKE:=Lib.hid (And.intro hnm (And.intro hvn0 (And.intro hen0 hea0)))
    simp only [TM.vS,←hvn0] at HCV
    rw [←hvn0] at hvn
    rw [←hen0] at hen
    clear hnm hvn0 hen0 hea0
    go_upto_region 18 with fail
    refine boxed1 (w:=wo) (G:=fun x=>Code.wp _ _ _ _ x) ?_
    intro w17 hx17 hs17 ⟨l17,c17,_,_⟩
    have hx1717:Ext w17 w17:=Ext.refl _
    have hx117:=hx1o.trans hx17
    have hxw17:=hxwo.trans hx17
    clear hs17 p0 p1 p2 pb
    go_cut [14] (fun s14 wx=>∃ (bn:Nat) (sv:SlD),s14=.pointer (some ⟨bn,0,none⟩)∧Hold wx bn #[.string nm,.slice sv.a vn sv.c,.slice none 0 0]∧RowM wx sv 2 (T.varCs k)∧sv.n=vn∧(0<sv.n→w17.heap.size≤sv.b∧sv.b≠bn)∧w17.heap.size≤bn∧Ext w17 wx)
    case first=>
     refine wp_region_T (t:=7) (S:=fun _=>True) (R:=fun w'=>Ext w17 w') (by kernel_rfl) trivial (Ext.refl w17).drew (fun hHeld=>?_)
     refine takeU 0 (v:=?_) rfl (by kernel_rfl) (by kernel_rfl) (by kernel_rfl) (by kernel_rfl) (by kernel_rfl) (fun _ _ _ h=>h) (by decide) (Or.inl ⟨by rfl,?_⟩) hHeld.1 hHeld.2 ?_
     rotate_left
     ·intro w' hSw
      have hSX:=hSw.2
      (try dsimp only at hSX)
      have hSS:=Ext.refl w'
      go_simp
      try with_reducible rfl
     try simp only [Act.put,zA,zB,zC]
     refine takeU 1 (v:=?_) rfl (by kernel_rfl) (by kernel_rfl) (by kernel_rfl) (by kernel_rfl) (by kernel_rfl) (fun _ _ _ h=>h) (by decide) (Or.inl ⟨by rfl,?_⟩) hHeld.1 hHeld.2 ?_
     rotate_left
     ·intro w' hSw
      have hSX:=hSw.2
      (try dsimp only at hSX)
      have hSS:=Ext.refl w'
      go_simp
      try with_reducible rfl
     try simp only [Act.put,zA,zB,zC]
     refine takeU 2 (v:=?_) rfl (by kernel_rfl) (by kernel_rfl) (by kernel_rfl) (by kernel_rfl) (by kernel_rfl) (fun _ _ _ h=>h) (by decide) (Or.inl ⟨by rfl,?_⟩) hHeld.1 hHeld.2 ?_
     rotate_left
     ·intro w' hSw
      have hSX:=hSw.2
      (try dsimp only at hSX)
      have hSS:=Ext.refl w'
      go_simp
      try with_reducible rfl
     try simp only [Act.put,zA,zB,zC]
     refine takeU 3 (v:=?_) rfl (by kernel_rfl) (by kernel_rfl) (by kernel_rfl) (by kernel_rfl) (by kernel_rfl) (fun _ _ _ h=>h) (by decide) (Or.inl ⟨by rfl,?_⟩) hHeld.1 hHeld.2 ?_
     rotate_left
     ·intro w' hSw
      have hSX:=hSw.2
      (try dsimp only at hSX)
      have hSS:=Ext.refl w'
      go_simp
      try with_reducible rfl
     try simp only [Act.put,zA,zB,zC]
     have hA0:Ext w17 w17.drew:=(Ext.refl w17).drew
     refine wpAnyT_ready (rs:=[4,6]) (by kernel_rfl) (by simp) ?_
     refine AllReadyT.cons rfl (fun K hK=>?_) (AllReadyT.cons rfl (fun K hK=>?_) AllReadyT.nil)
     ·go_simp
      go_at_call 53
      refine (HCV.out w17.drew hxw17.drew).mono ?_
      rintro e w18 ⟨v18,rfl,hq18,hx18⟩
      obtain ⟨⟨sva,svn,svc,svb,svo⟩,rfl,hsn,hsM,hsb⟩:=RowM.que hq18 (by omega)
      simp only at hsn hsb
      subst hsn
      have hx1718:Ext w17 w18:=hA0.trans hx18
      have HSM:=Lib.hid hsM
      have HSB:=Lib.hid (show 0<svn→w17.heap.size≤svb∧svb<w18.heap.size from fun h0=>⟨(hsb h0).1,hsM.hb h0⟩)
      clear hq18 hsM hsb hx18
      refine hK.out _ _ ⟨trivial,hx1718⟩ (fun hHeld2=>?_)
      clear hK K
      try simp only [Act.put,zA,zB,zC]
      clear hHeld
      have hHeld:=hHeld2
      refine takeU 5 (v:=?_) rfl (by kernel_rfl) (by kernel_rfl) (by kernel_rfl) (by kernel_rfl) (by kernel_rfl) (fun _ _ _ h=>h) (by decide) (Or.inl ⟨by rfl,?_⟩) hHeld.1 hHeld.2 ?_
      rotate_left
      ·intro w' hSw
       have hSX:=hSw.2
       (try dsimp only at hSX)
       have hSS:=Ext.refl w'
       go_simp
       try with_reducible rfl
      try simp only [Act.put,zA,zB,zC]
      refine wpAnyT_ready (rs:=[6]) (by kernel_rfl) (by simp) ?_
      refine AllReadyT.cons rfl (fun K hK=>?_) AllReadyT.nil
      go_simp
      refine hK.out _ _ ⟨trivial,hx1718.alloc' _⟩ (fun hHeld3=>?_)
      clear hK K
      try simp only [Act.put,zA,zB,zC]
      have hxW:=hx1718.alloc' (.cells #[.string ⟨#[]⟩,.slice none 0 0,.slice none 0 0] 62)
      have hNW:=Hold.new w18 #[.string ⟨#[]⟩,.slice none 0 0,.slice none 0 0] 62
      have hbn:w17.heap.size≤w18.heap.size:=hx1718.le
      have hSM:=HSM.out.ext (Ext.alloc w18 (.cells #[.string ⟨#[]⟩,.slice none 0 0,.slice none 0 0] 62))
      have hsbn:0<svn→svb≠w18.heap.size:=fun h0=>by have:=(HSB.out h0).2;omega
      clear hHeld hHeld2 hHeld3
      generalize (w18.alloc (.cells #[.string ⟨#[]⟩,.slice none 0 0,.slice none 0 0] 62))=W at hxW hNW hSM ⊢
      generalize w18.heap.size=bn at hNW hbn hsbn ⊢
      obtain ⟨ln,cn,fn,_⟩:=hNW.box
      have hWW:Ext W W:=Ext.refl _
      refine wpAnyT_ready (rs:=[7]) (by kernel_rfl) (by simp) ?_
      refine AllReadyT.late rfl (by decide) (fun K hK=>?_) AllReadyT.nil
      go_simp
      refine hK.out _ _ trivial (fun hHeld4=>?_)
      clear hK K
      clear ln cn fn hWW
      have hP:=put3 hNW hxW hbn (.string nm) (.slice sva svn svc) (.slice none 0 0)
      have HP:=Lib.hid hP
      have HSMF:=Lib.hid (hSM.same hP.2.2.2 fun h0=>hP.2.2.1 _ (hsbn h0))
      have HSBN:=Lib.hid hsbn
      have HBN:=Lib.hid hbn
      clear hP hSM hsbn hbn hNW hxW
      refine wpAnyT_done (by kernel_rfl) ?_ _
      go_wp2_with fail
      go_meet
      exact ⟨bn,⟨sva,svn,svc,svb,svo⟩,rfl,HP.out.1,HSMF.out,rfl,fun h0=>⟨(HSB.out h0).1,HSBN.out h0⟩,HBN.out,HP.out.2.1⟩
     ·go_simp
      refine hK.out _ _ ⟨trivial,hA0.alloc' _⟩ (fun hHeld2=>?_)
      clear hK K
      try simp only [Act.put,zA,zB,zC]
      have hxN:=(Ext.refl w17).alloc' (.cells #[.string ⟨#[]⟩,.slice none 0 0,.slice none 0 0] 62)
      have hNW:=Hold.new w17 #[.string ⟨#[]⟩,.slice none 0 0,.slice none 0 0] 62
      have hcv:=HCV.out _ (hxw17.trans (hA0.alloc' (.cells #[.string ⟨#[]⟩,.slice none 0 0,.slice none 0 0] 62)))
      refine wpAnyT_ready (rs:=[4]) (by kernel_rfl) (by simp) ?_
      refine AllReadyT.cons rfl (fun K hK=>?_) AllReadyT.nil
      go_simp
      go_at_call 53
      refine hcv.mono ?_
      rintro e w18 ⟨v18,rfl,hq18,hx18⟩
      obtain ⟨⟨sva,svn,svc,svb,svo⟩,rfl,hsn,hsM,hsb⟩:=RowM.que hq18 (by omega)
      simp only at hsn hsb
      subst hsn
      have hxW:Ext w17 w18:=(hA0.alloc' _).trans hx18
      have hSM:=hsM
      have hsbn:0<svn→svb≠w17.heap.size:=fun h0=>by
       have:=(hsb h0).1
       rw [World.size_alloc] at this
       have h2:w17.drew.heap.size=w17.heap.size:=rfl
       omega
      have HSB:=Lib.hid (show 0<svn→w17.heap.size≤svb∧True from fun h0=>⟨by
       have:=(hsb h0).1
       rw [World.size_alloc] at this
       have h2:w17.drew.heap.size=w17.heap.size:=rfl
       omega,trivial⟩)
      have hNW:Hold w18 w17.heap.size #[.string ⟨#[]⟩,.slice none 0 0,.slice none 0 0]:=Hold.ext (show Hold (w17.drew.alloc _) w17.heap.size _ from hNW) hx18
      have hbn:w17.heap.size≤w17.heap.size:=Nat.le_refl _
      clear hq18 hsM hsb hcv hx18
      refine hK.out _ _ ⟨trivial,hxW⟩ (fun hHeld3=>?_)
      clear hK K
      try simp only [Act.put,zA,zB,zC]
      clear hHeld
      have hHeld:=hHeld3
      refine takeU 5 (v:=?_) rfl (by kernel_rfl) (by kernel_rfl) (by kernel_rfl) (by kernel_rfl) (by kernel_rfl) (fun _ _ _ h=>h) (by decide) (Or.inl ⟨by rfl,?_⟩) hHeld.1 hHeld.2 ?_
      rotate_left
      ·intro w' hSw
       have hSX:=hSw.2
       (try dsimp only at hSX)
       have hSS:=Ext.refl w'
       go_simp
       try with_reducible rfl
      try simp only [Act.put,zA,zB,zC]
      clear hHeld hHeld2 hHeld3 hxN
      obtain ⟨W,hWW⟩:∃ W,W=w18:=⟨_,rfl⟩
      rw [←hWW] at hxW hNW hSM ⊢
      clear hWW
      obtain ⟨bn,hbn0⟩:∃ z,z=w17.heap.size:=⟨_,rfl⟩
      rw [←hbn0] at hNW hsbn ⊢
      have hbn:w17.heap.size≤bn:=by omega
      clear hbn0
      obtain ⟨ln,cn,fn,_⟩:=hNW.box
      have hWW:Ext W W:=Ext.refl _
      refine wpAnyT_ready (rs:=[7]) (by kernel_rfl) (by simp) ?_
      refine AllReadyT.late rfl (by decide) (fun K hK=>?_) AllReadyT.nil
      go_simp
      refine hK.out _ _ trivial (fun hHeld4=>?_)
      clear hK K
      clear ln cn fn hWW
      have hP:=put3 hNW hxW hbn (.string nm) (.slice sva svn svc) (.slice none 0 0)
      have HP:=Lib.hid hP
      have HSMF:=Lib.hid (hSM.same hP.2.2.2 fun h0=>hP.2.2.1 _ (hsbn h0))
      have HSBN:=Lib.hid hsbn
      have HBN:=Lib.hid hbn
      clear hP hSM hsbn hbn hNW hxW
      refine wpAnyT_done (by kernel_rfl) ?_ _
      go_wp2_with fail
      go_meet
      exact ⟨bn,⟨sva,svn,svc,svb,svo⟩,rfl,HP.out.1,HSMF.out,rfl,fun h0=>⟨(HSB.out h0).1,HSBN.out h0⟩,HBN.out,HP.out.2.1⟩
    case rest=>
     obtain ⟨bn,⟨sva,svn,svc,svb,svo⟩,rfl,hbN,hsM,hsn,hsb,hbn,hxc⟩:=hcut
     simp only at hsn hbN hsb
     subst hsn
     have hx1c:=hx117.trans hxc
     have hxwc:=hxw17.trans hxc
     have hxrc:Ext wr wc:=hxro.trans (hx17.trans hxc)
     have hcc:Ext wc wc:=Ext.refl _
     have HE0:=Lib.hid (AplE.start (T:=T.toTr) (N:=N) (F:=F) (k:=k) hbN (fun _=>default))
     have HSV:=Lib.hid (And.intro hsM (And.intro hsb hbn))
     have HX17:=Lib.hid hx17
     have HXC:=Lib.hid hxc
     have hbl:=hbN.lt
     have HBL:=Lib.hid hbl
     clear hsM hsb hbn hbN hx1717 hbl
     go_wp2_with fail
     go_loopg [108] en (fun gg v108 wi=>∃ (i:Nat) (ad:Nat→SlD) (vy:Value),i≤en∧gg=en - i∧v108=.int .i64 i∧AplE T.toTr N F wc bn k (.string nm) (.slice sva svn svc) i ad vy wi)
     case atStart=>exact ⟨0,_,_,by omega,rfl,rfl,HE0.out⟩
     case round=>
      rename World=>wi
      obtain ⟨i,ad,vy,hi,rfl,rfl,hE⟩:=hrel
      have hx17i:Ext w17 wi:=Chg.ext hxc hE.c (fun g e=>by rw [e];exact HSV.out.2.2)
      have hx1i:=hx117.trans hx17i
      have hxwi:=hxw17.trans hx17i
      obtain ⟨ya,yc,rfl⟩:=hE.que.slice
      obtain ⟨na,hna⟩:∃ z,z=(T.toTr.apl N F k i).length:=⟨_,rfl⟩
      have HNA:=Lib.hid hna
      have hna2:na≤200000:=by
       rw [hna]
       have h1:=apl_len_le T.toTr N F k i
       have h2:=HNL.out
       have h3:i*(2*N.length+1)≤64*2001:=Nat.mul_le_mul (by omega) (by omega)
       omega
      rw [←hna] at hE
      have HE:=Lib.hid hE
      clear hE hna HE0 hxc hcc
      by_cases hin:i<en
      case neg=>
       obtain rfl:i=en:=by omega
       have hEb:=HE.out.box
       obtain ⟨ly,cy,_,_⟩:=hEb.box
       have hii:Ext wi wi:=Ext.refl _
       clear hEb
       by_cases h64:64<na
       ·have b1:decide ((64:Int)<(na:Int))=true:=decide_eq_true (by omega)
        have b1':decide (64<na)=true:=decide_eq_true h64
        have HBG:=Lib.hid (show T.toTr.AplBig N F from .inr ⟨k,hkn,by rw [←HKE.out.2.2.1,←HNA.out];exact h64⟩)
        go_wp2_with fail
        refine bodyPost_ret (papply_results _ _ _ _ _ rfl rfl ((Hold.set (HRB.out.ext hx1i) 0 _).cell0 0)) rfl ?_
        exact ⟨hxwi.setCell (by show w.heap.size≤w.heap.size+1;omega) _,.inr ⟨HF.out,.inl ⟨HBG.out,rfl⟩⟩⟩
       have b1:decide ((64:Int)<(na:Int))=false:=decide_eq_false (by omega)
       have b1':decide (64<na)=false:=decide_eq_false h64
       have hxoc:Ext wo wc:=HX17.out.trans HXC.out
       have hwo1:=HX17.out.le
       have hwo2:=hxoc.le
       have hwo3:=HSV.out.2.2
       have hwo4:=HO.out.lt
       have hwo5:=HO.out.c.le
       have hbo0:Hold wi bo #[.slice oa k oc]:=(HO.out.box.ext hxoc).chg HE.out.c (by omega)
       have HBO2:=Lib.hid hbo0
       obtain ⟨lo,co,_,_⟩:=hbo0.box
       have hci:=HE.out.c.le
       have HQO:=Lib.hid (((HO.out.que.ext hxoc).chg HE.out.c (fun g e=>⟨by have:=(HO.out.own g e).2;omega,by have:=(HO.out.own g e).2;omega⟩)).ext (Ext.alloc wi (.cells #[.string nm,.slice sva svn svc,.slice ya na yc] 62)))
       have HSO:=Lib.hid ((RowM.new wi [.string nm,.slice sva svn svc,.slice ya na yc] 62 3 rfl).src (P:=Tryz.prog) Tryz.underlying22 (by intro u hu;simp at hu;rcases hu with rfl | rfl | rfl <;> rfl))
       have hsz2:(wi.alloc (.cells #[.string nm,.slice sva svn svc,.slice ya na yc] 62)).heap.size=wi.heap.size+1:=by simp
       have HAL2:=Lib.hid (show ∀ q,q<k+1→(T.toTr.apl N F q (T.en q)).length≤64 from fun q hq=>by
        by_cases e:q=k
        ·subst e;rw [←HKE.out.2.2.1,←HNA.out];omega
        ·exact HAL.out q (by omega))
       have hk8:k≤8:=by omega
       clear hbo0 h64
       go_wp2_with (at_builtin;refine wpList_append_que _ rfl _ _ 22 22 rfl (base:=wE.heap.size) (e:=62) (size:=3) pi (.agg #[.string ⟨#[]⟩,.slice none 0 0,.slice none 0 0]) 64 Tryz.underlying22 hpi hpz0 hpz1 hpz2 rfl (v:=.slice oa k oc) (n:=k) (xs:=T.toTr.prCs N F pa k) rfl HQO.out (by omega) (.slice (some ⟨wi.heap.size,0,none⟩) 1 1) 1 [.string nm,.slice sva svn svc,.slice ya na yc] rfl HSO.out (by unfold maxLen;omega) (by omega) ?_;rintro v28 w28 hq28 hg28 hat28;obtain ⟨x28,y28,rfl⟩:=hq28.slice;have hc28:Chg (fun g=>g=bo∨(Value.slice oa k oc).ownBlock=some g) wi w28:=((Ext.alloc wi (.cells #[.string nm,.slice sva svn svc,.slice ya na yc] 62)).chg _).grown hg28 (fun g e=>.inl (.inr e));have hbo28:Hold w28 bo #[.slice oa k oc]:=(by obtain ⟨t,ht⟩:=(HBO2.out.ext (Ext.alloc wi (.cells #[.string nm,.slice sva svn svc,.slice ya na yc] 62)));exact ⟨t,(hg28.block bo (by simp;omega) (fun e=>by have:=(HO.out.own bo e.symm).1;omega)).trans ht⟩);obtain ⟨l28,c28,f28,_⟩:=hbo28.box;have h2828:Ext w28 w28:=Ext.refl _;obtain ⟨⟨sea,sen,sec,seb,seo⟩,hse1,hse2,hse3,hse4⟩:=RowM.que HE.out.que (by rw [←HNA.out];omega);simp only [SlD.v,Value.slice.injEq] at hse1;obtain ⟨rfl,hse5,rfl⟩:=hse1;have HN28:=Lib.hid (show AplO T.toTr N F wE bo (k+1) (setS pa k ⟨⟨sva,svn,svc,svb,svo⟩,⟨ya,sen,yc,seb,seo⟩,ad⟩) (.slice x28 (k+1) y28) (w28.setCell ⟨bo,0,none⟩ (.slice x28 (k+1) y28)) from HO.out.next (hxoc.chg _) (by omega) (by rw [←HKE.out.2.2.1];exact HE.out) HSV.out.1 HKE.out.2.1 (fun h0=>⟨Nat.le_trans hwo1 (HSV.out.2.1 h0).1,(HSV.out.2.1 h0).2⟩) (by rw [←HKE.out.2.2.1];exact hse3) (by rw [←HKE.out.2.2.1];exact hse2) (fun h0=>(hse4 h0).2) (hc28.set ⟨bo,0,none⟩ (.slice x28 (k+1) y28) (.inl (.inl rfl))) (hbo28.set 0 (.slice x28 (k+1) y28)) (by rw [prCs_succ,←HKE.out.1,←HKE.out.2.1,←HKE.out.2.2.1,←HNA.out];exact hq28.same' (by simp) (fun g e=>Below.heap_setCell _ _ _ _ (fun e2=>by have h8:=hq28.block g e;have h7:g=bo:=e2;omega))) (fun g e=>hat28.elim (fun h=>.inl (h.symm.trans e)) (fun h=>.inr (by rw [h] at e;simp at e;omega))));clear hq28 hg28 hat28 hc28 hbo28 hse2 hse3 hse4 hse5)
       go_roundg (T.n - (k+1))
       case rel=>exact ⟨k+1,_,_,by omega,rfl,by go_num,HN28.out,HAL2.out⟩
       case measure=>omega
      have hin':(i:Int)<(en:Int):=by omega
      have hiT:i<T.en k:=by rw [←HKE.out.2.2.1];exact hin
      obtain rfl:ea=some ⟨T.eb k,T.eo k,none⟩:=by rw [HKE.out.2.2.2];exact HT.out.E.ea k hkn (by omega)
      have pb:=HT.out.E.eb k hkn (by omega)
      have e0:=fun w' (h:Ext w w')=>HT.out.E.e0 w' h k i hkn hiT
      have e1:=fun w' (h:Ext w w')=>HT.out.E.e1 w' h k i hkn hiT
      have e2:=fun w' (h:Ext w w')=>HT.out.E.e2 w' h k i hkn hiT
      have e3:=fun w' (h:Ext w w')=>HT.out.E.e3 w' h k i hkn hiT
      have e4:=fun w' (h:Ext w w')=>HT.out.E.e4 w' h k i hkn hiT
      have han:=(HV.out.ev k i hkn hiT).2.2.2.1
      have hw1:IntKind.i64.wrap ((i:Int)+1)=(i:Int)+1:=IntWalk.i64_in _ (by omega)
      have HCA:=Lib.hid (fun W (x:Ext w W)=>cloneAssign_any W (T.aS k i) (T.asgCs k i) ((HT.out.aM hkn hiT).ext x) (by show T.an k i≤1000;omega) (asgCs_one _ _ _))
      simp only [TM.aS] at HCA
      have HIT:=Lib.hid hiT
      clear hiT
      go_upto_region 23 with fail
      refine boxed2 (w:=wi) (G:=fun x=>Code.wp _ _ _ _ x) ?_
      intro w22 hx22 hs22 ⟨l16,c16,f16,k16⟩ ⟨l21,c21,_,k21⟩
      have hx2222:Ext w22 w22:=Ext.refl _
      have hxw22:=hxwi.trans hx22
      have HK16:=Lib.hid (show Hold w22 wi.heap.size _ from k16)
      have HK21:=Lib.hid (show Hold w22 (wi.heap.size+1) _ from k21)
      have HS22:=Lib.hid hs22
      clear hs22 k16 k21 e0 e1 e2 e3 e4 pb
      go_upto_region 24 with (go_at_call 54;refine (HCA.out _ hxw22).mono ?_;rintro e w23 ⟨v23,rfl,hq23,hx23⟩;obtain ⟨⟨sa,sn,sc,sb,so⟩,rfl,hsn,hsM,hsb⟩:=RowM.que hq23 (by omega);simp only at hsn hsb;subst hsn)
      have hiA:Ext wi (w23.setCell ⟨wi.heap.size,4,none⟩ (.slice sa (T.an k i) sc)):=(hx22.trans hx23).setCell (p:=⟨wi.heap.size,4,none⟩) (Nat.le_refl _) _
      have kA16:=(Hold.ext HK16.out hx23).set 4 (.slice sa (T.an k i) sc)
      have kA21:=(Hold.ext HK21.out hx23).other ⟨wi.heap.size,4,none⟩ (.slice sa (T.an k i) sc) (by show wi.heap.size+1≠wi.heap.size;omega)
      have hMA:RowM (w23.setCell ⟨wi.heap.size,4,none⟩ (.slice sa (T.an k i) sc)) ⟨sa,T.an k i,sc,sb,so⟩ 2 (T.asgCs k i):=hsM.same (by simp) (fun h0=>Below.heap_setCell _ _ _ _ (by have h1:=(hsb h0).1;have h2:=HS22.out;show sb≠wi.heap.size;omega))
      have hsbA:0<T.an k i→wi.heap.size≤sb∧sb<(w23.setCell ⟨wi.heap.size,4,none⟩ (.slice sa (T.an k i) sc)).heap.size:=fun h0=>⟨by have h1:=(hsb h0).1;have h2:=HS22.out;omega,by have h1:=hsM.hb h0;simp;exact h1⟩
      have hszA:wi.heap.size+2≤(w23.setCell ⟨wi.heap.size,4,none⟩ (.slice sa (T.an k i) sc)).heap.size:=by have h2:=HS22.out;have h3:=hx23.le;simp;omega
      clear hsM hsb hq23 l16 c16 f16 l21 c21 hx2222 hx22 hx23 hxw22
      generalize w23.setCell ⟨wi.heap.size,4,none⟩ (.slice sa (T.an k i) sc)=wA at hiA kA16 kA21 hMA hsbA hszA ⊢
      have kA16:Hold wA wi.heap.size #[.int .i64 (T.kind k i),.int .i64 (T.peer k i),.int .i64 (T.msg k i),.int .i64 (T.time k i),.slice sa (T.an k i) sc]:=kA16
      have kA21:Hold wA (wi.heap.size+1) #[.int .i64 (k:Nat),.int .i64 ((i:Nat)+1)]:=kA21
      have hxrA:Ext wr wA:=(hxro.trans (HX17.out.trans hx17i)).trans hiA
      have hx1A:=hx1i.trans hiA
      have hxwA:=hxwi.trans hiA
      obtain ⟨S,hS⟩:∃ S:Nat→Prop,S=fun g=>(Value.slice ya na yc).ownBlock=some g:=⟨_,rfl⟩
      have hSc:∀ g,S g→wc.heap.size≤g∧g<wi.heap.size:=fun g e=>by rw [hS] at e;exact HE.out.own g e
      have hle1:=hxrc.le
      have hle2:=HI.out.kx
      have hle3:=HBL.out
      have HSC:=Lib.hid hSc
      have HIA:=Lib.hid (HIF.out.ext hxrA)
      have hyb:=(HE.out.box.ext hiA).boxS (S:=S) (fun e=>by have:=(hSc _ e).1;omega)
      obtain ⟨ly,cy⟩:=hyb
      obtain ⟨l16,c16⟩:=kA16.boxS (S:=S) (fun e=>by have:=(hSc _ e).2;omega)
      obtain ⟨l21,c21⟩:=kA21.boxS (S:=S) (fun e=>by have:=(hSc _ e).2;omega)
      have hb8:=B0.out.2.2
      have hnS:∀ g,g<wr.heap.size→¬S g:=fun g h1 e=>by have:=(hSc g e).1;omega
      have HSB2:=(show ∀ c,b+1+1≠bmF b c from fun c e=>by
       cases c
       ·have h4:b+1+1=b:=e
        omega
       ·have h4:b+1+1=b+1:=e
        omega)
      have m0:∀ w',Chg S wA w'→w'.cell? ⟨b+1+1,0,none⟩=some (.map (some b)):=fun w' h=>h.cell (HIA.out.cell B0.out.1 B0.out.2.2 HSB2) (hnS _ (by show b+1+1<_;omega))
      have m1:∀ w',Chg S wA w'→w'.cell? ⟨b+1+1,1,none⟩=some (.map (some (b+1))):=fun w' h=>h.cell (HIA.out.cell B0.out.2.1 B0.out.2.2 HSB2) (hnS _ (by show b+1+1<_;omega))
      have mb:∀ w',Chg S wA w'→b+1+1<w'.heap.size:=fun w' h=>by have h1:=h.le;have h2:=hxrA.le;omega
      obtain ⟨ra0,rc0,hr0⟩:=(HIA.out.rows false (k,i)).slice
      obtain ⟨ra1,rc1,hr1⟩:=(HIA.out.rows true (k,i)).slice
      obtain ⟨rl0,hrl0⟩:∃ z,z=(T.toTr.insG N F false (k,i) N.length).length:=⟨_,rfl⟩
      obtain ⟨rl1,hrl1⟩:∃ z,z=(T.toTr.insG N F true (k,i) N.length).length:=⟨_,rfl⟩
      have hr0:nvI (LM false) (k,i)=.slice ra0 rl0 rc0:=by rw [hrl0];exact hr0
      have hr1:nvI (LM true) (k,i)=.slice ra1 rl1 rc1:=by rw [hrl1];exact hr1
      have hl0:rl0≤1000:=by rw [hrl0];have h1:=insG_len T.toTr N F false (k,i) N.length;have h2:=HNL.out;omega
      have hl1:rl1≤1000:=by rw [hrl1];have h1:=insG_len T.toTr N F true (k,i) N.length;have h2:=HNL.out;omega
      have hmB:∀ c,¬S (bmF b c):=fun c e=>by have h1:=(hSc _ e).1;have h2:=(HIA.out.hb c).2;omega
      have hk0:∀ w',Chg S wA w'→(Instr.lookup 88 (.map (some b)) (.agg #[.int .i64 (k:Nat),.int .i64 ((i:Nat)+1)]) false).run Tryz.prog w'=.ok (.slice ra0 rl0 rc0) w':=fun w' h=>by
       have h1:=((HIA.out.mp false).chg h (hmB false)).get (mt:=88) Tryz.underlying88 (zeroEvs w') (evI (k,i))
       rw [show (lookE (evI (k,i)) (LM false)).getD (.slice none 0 0)=.slice ra0 rl0 rc0 from hr0] at h1
       exact h1
      have hk1:∀ w',Chg S wA w'→(Instr.lookup 88 (.map (some (b+1))) (.agg #[.int .i64 (k:Nat),.int .i64 ((i:Nat)+1)]) false).run Tryz.prog w'=.ok (.slice ra1 rl1 rc1) w':=fun w' h=>by
       have h1:=((HIA.out.mp true).chg h (hmB true)).get (mt:=88) Tryz.underlying88 (zeroEvs w') (evI (k,i))
       rw [show (lookE (evI (k,i)) (LM true)).getD (.slice none 0 0)=.slice ra1 rl1 rc1 from hr1] at h1
       exact h1
      have hrow:∀ c g,(nvI (LM c) (k,i)).ownBlock=some g→g<wA.heap.size∧¬S g:=fun c g e=>⟨((HIA.out).own c (k,i) g e).2,hnS g (HI.out.own c (k,i) g e).2⟩
      have HR0:=Lib.hid (fun w' (h:Chg S wA w')=>(show Src Tryz.prog 5 60 (.slice ra0 rl0 rc0) rl0 (insCells (T.toTr.insG N F false (k,i) N.length)) w' from by
       have h1:=(HIA.out.rows false (k,i)).chg h (hrow false)
       have h2:=h1.src (P:=Tryz.prog) (tx:=60) Tryz.underlying60 (insCells_one _)
       rw [hr0] at h2
       rw [hrl0] at h2 ⊢;exact h2))
      have HR1:=Lib.hid (fun w' (h:Chg S wA w')=>(show Src Tryz.prog 5 60 (.slice ra1 rl1 rc1) rl1 (insCells (T.toTr.insG N F true (k,i) N.length)) w' from by
       have h1:=(HIA.out.rows true (k,i)).chg h (hrow true)
       have h2:=h1.src (P:=Tryz.prog) (tx:=60) Tryz.underlying60 (insCells_one _)
       rw [hr1] at h2
       rw [hrl1] at h2 ⊢;exact h2))
      have HQA:=Lib.hid (show Que wA wc.heap.size 5 (.slice ya na yc) na (T.toTr.aplCs N F k ad i) from by have h1:=HE.out.que.ext hiA;rw [←HNA.out] at h1;exact h1)
      have HYB:=Lib.hid (HE.out.box.ext hiA)
      have HRL:=Lib.hid (And.intro hrl0 hrl1)
      have HSS:=Lib.hid hS
      have HMA:=Lib.hid (And.intro hMA (And.intro hsbA hszA))
      have HNS:=Lib.hid (show ¬S bn from fun e=>by have:=(hSc _ e).1;omega)
      have hwcA:wc.heap.size≤wA.heap.size:=by have:=HE.out.c.le;omega
      have HIAX:=Lib.hid hiA
      clear hSc hnS HSB2 hr0 hr1 hrl0 hrl1 hmB hrow hS hMA hsbA kA16 kA21 hle1 hle2 hle3 hb8 hx17i hx1i hxwi hxro hxrc hxwc hx1c hiA
      refine wp_region_T (t:=15) (S:=fun _=>True) (R:=fun w'=>Chg S wA w') (by kernel_rfl) trivial (Chg.refl S wA).drew (fun hHeld=>?_)
      refine takeU 0 (v:=?_) rfl (by kernel_rfl) (by kernel_rfl) (by kernel_rfl) (by kernel_rfl) (by kernel_rfl) (fun _ _ _ h=>h) (by decide) (Or.inl ⟨by rfl,?_⟩) hHeld.1 hHeld.2 ?_
      rotate_left
      ·intro w' hSw
       have hSX:=hSw.2
       (try dsimp only at hSX)
       have hSS:=Ext.refl w'
       go_simp
       try with_reducible rfl
      try simp only [Act.put,zA,zB,zC]
      refine takeU 1 (v:=?_) rfl (by kernel_rfl) (by kernel_rfl) (by kernel_rfl) (by kernel_rfl) (by kernel_rfl) (fun _ _ _ h=>h) (by decide) (Or.inl ⟨by rfl,?_⟩) hHeld.1 hHeld.2 ?_
      rotate_left
      ·intro w' hSw
       have hSX:=hSw.2
       (try dsimp only at hSX)
       have hSS:=Ext.refl w'
       go_simp
       try with_reducible rfl
      try simp only [Act.put,zA,zB,zC]
      refine takeU 2 (v:=?_) rfl (by kernel_rfl) (by kernel_rfl) (by kernel_rfl) (by kernel_rfl) (by kernel_rfl) (fun _ _ _ h=>h) (by decide) (Or.inl ⟨by rfl,?_⟩) hHeld.1 hHeld.2 ?_
      rotate_left
      ·intro w' hSw
       have hSX:=hSw.2
       (try dsimp only at hSX)
       have hSS:=Ext.refl w'
       go_simp
       try with_reducible rfl
      try simp only [Act.put,zA,zB,zC]
      refine takeU 3 (v:=?_) rfl (by kernel_rfl) (by kernel_rfl) (by kernel_rfl) (by kernel_rfl) (by kernel_rfl) (fun _ _ _ h=>h) (by decide) (Or.inl ⟨by rfl,?_⟩) hHeld.1 hHeld.2 ?_
      rotate_left
      ·intro w' hSw
       have hSX:=hSw.2
       (try dsimp only at hSX)
       have hSS:=Ext.refl w'
       go_simp
       try with_reducible rfl
      try simp only [Act.put,zA,zB,zC]
      refine takeU 4 (v:=?_) rfl (by kernel_rfl) (by kernel_rfl) (by kernel_rfl) (by kernel_rfl) (by kernel_rfl) (fun _ _ _ h=>h) (by decide) (Or.inl ⟨by rfl,?_⟩) hHeld.1 hHeld.2 ?_
      rotate_left
      ·intro w' hSw
       have hSX:=hSw.2
       (try dsimp only at hSX)
       have hSS:=Ext.refl w'
       go_simp
       try with_reducible rfl
      try simp only [Act.put,zA,zB,zC]
      refine takeU 5 (v:=?_) rfl (by kernel_rfl) (by kernel_rfl) (by kernel_rfl) (by kernel_rfl) (by kernel_rfl) (fun _ _ _ h=>h) (by decide) (Or.inl ⟨by rfl,?_⟩) hHeld.1 hHeld.2 ?_
      rotate_left
      ·intro w' hSw
       have hSX:=hSw.2
       (try dsimp only at hSX)
       have hSS:=Ext.refl w'
       go_simp
       try with_reducible rfl
      try simp only [Act.put,zA,zB,zC]
      refine takeU 7 (v:=?_) rfl (by kernel_rfl) (by kernel_rfl) (by kernel_rfl) (by kernel_rfl) (by kernel_rfl) (fun _ _ _ h=>h) (by decide) (Or.inl ⟨by rfl,?_⟩) hHeld.1 hHeld.2 ?_
      rotate_left
      ·intro w' hSw
       have hSX:=hSw.2
       (try dsimp only at hSX)
       have hSS:=Ext.refl w'
       go_simp
       try with_reducible rfl
      try simp only [Act.put,zA,zB,zC]
      refine takeU 10 (v:=?_) rfl (by kernel_rfl) (by kernel_rfl) (by kernel_rfl) (by kernel_rfl) (by kernel_rfl) (fun _ _ _ h=>h) (by decide) (Or.inl ⟨by rfl,?_⟩) hHeld.1 hHeld.2 ?_
      rotate_left
      ·intro w' hSw
       have hSX:=hSw.2
       (try dsimp only at hSX)
       have hSS:=Ext.refl w'
       go_simp
       try with_reducible rfl
      try simp only [Act.put,zA,zB,zC]
      refine takeU 11 (v:=?_) rfl (by kernel_rfl) (by kernel_rfl) (by kernel_rfl) (by kernel_rfl) (by kernel_rfl) (fun _ _ _ h=>h) (by decide) (Or.inl ⟨by rfl,?_⟩) hHeld.1 hHeld.2 ?_
      rotate_left
      ·intro w' hSw
       have hSX:=hSw.2
       (try dsimp only at hSX)
       have hSS:=Ext.refl w'
       go_simp
       try with_reducible rfl
      try simp only [Act.put,zA,zB,zC]
      refine takeU 12 (v:=?_) rfl (by kernel_rfl) (by kernel_rfl) (by kernel_rfl) (by kernel_rfl) (by kernel_rfl) (fun _ _ _ h=>h) (by decide) (Or.inl ⟨by rfl,?_⟩) hHeld.1 hHeld.2 ?_
      rotate_left
      ·intro w' hSw
       have hSX:=hSw.2
       (try dsimp only at hSX)
       have hSS:=Ext.refl w'
       go_simp
       try with_reducible rfl
      try simp only [Act.put,zA,zB,zC]
      refine takeU 13 (v:=?_) rfl (by kernel_rfl) (by kernel_rfl) (by kernel_rfl) (by kernel_rfl) (by kernel_rfl) (fun _ _ _ h=>h) (by decide) (Or.inl ⟨by rfl,?_⟩) hHeld.1 hHeld.2 ?_
      rotate_left
      ·intro w' hSw
       have hSX:=hSw.2
       (try dsimp only at hSX)
       have hSS:=Ext.refl w'
       go_simp
       try with_reducible rfl
      try simp only [Act.put,zA,zB,zC]
      clear ly cy l16 c16 l21 c21 m0 m1 mb hk0 hk1
      have hA0:Chg S wA wA.drew:=(Chg.refl S wA).drew
      refine wpAnyT_ready (rs:=[6,8]) (by kernel_rfl) (by simp) ?_
      refine AllReadyT.cons rfl (fun K hK=>?_) (AllReadyT.cons rfl (fun K hK=>?_) AllReadyT.nil)
      ·refine step_append_que _ rfl _ _ 60 60 rfl (base:=wc.heap.size) (e:=65) (size:=5) ei (.agg #[.int .i64 0,.int .i64 0,.int .i64 0,.int .i64 0,.slice none 0 0]) 56 Tryz.underlying60 hei hez0 hez1 hez2 rfl (v:=.slice ya na yc) (n:=na) (xs:=T.toTr.aplCs N F k ad i) rfl (HQA.out.ext (Ext.refl wA).drew) hwcA (.slice ra0 rl0 rc0) rl0 (insCells (T.toTr.insG N F false (k,i) N.length)) rfl (HR0.out _ hA0) (by unfold maxLen;omega) (by omega) ?_
       intro v1 w1 hq1 hg1 hat1
       obtain ⟨x1,y1,rfl⟩:=hq1.slice
       have hc1:Chg S wA w1:=hA0.grown hg1 (fun g e=>.inl (by rw [HSS.out];exact e))
       refine hK.out _ _ ⟨trivial,hc1⟩ (fun hHeld2=>?_)
       clear hK K
       try simp only [Act.put]
       refine wpAnyT_ready (rs:=[8]) (by kernel_rfl) (by simp) ?_
       refine AllReadyT.cons rfl (fun K hK=>?_) AllReadyT.nil
       go_simp
       have hcT:=hc1.alloc (.cells #[.int .i64 (T.kind k i),.int .i64 (T.peer k i),.int .i64 (T.msg k i),.int .i64 (T.time k i),.slice sa (T.an k i) sc] 65)
       have hqT:=hq1.ext (Ext.alloc w1 (.cells #[.int .i64 (T.kind k i),.int .i64 (T.peer k i),.int .i64 (T.msg k i),.int .i64 (T.time k i),.slice sa (T.an k i) sc] 65))
       have hsT:=((RowM.new w1 [.int .i64 (T.kind k i),.int .i64 (T.peer k i),.int .i64 (T.msg k i),.int .i64 (T.time k i),.slice sa (T.an k i) sc] 65 5 rfl).src (P:=Tryz.prog) Tryz.underlying60 (by intro u hu;simp at hu;rcases hu with rfl | rfl | rfl | rfl | rfl <;> rfl))
       have haT:∀ g,(Value.slice x1 (na+rl0) y1).ownBlock=some g→S g∨wA.heap.size≤g:=fun g e=>by
        rw [HSS.out]
        rcases hat1 with h1 | h1
        ·exact .inl (h1.symm.trans e)
        ·right
         rw [h1] at e
         have h2:wA.drew.heap.size=g:=by simpa using e
         have h3:wA.drew.heap.size=wA.heap.size:=rfl
         omega
       refine hK.out _ _ ⟨trivial,hcT⟩ (fun hHeld3=>?_)
       clear hK K hq1 hg1 hat1 hHeld hHeld2 hHeld3 hc1
       try simp only [Act.put]
       generalize w1.alloc (.cells #[.int .i64 (T.kind k i),.int .i64 (T.peer k i),.int .i64 (T.msg k i),.int .i64 (T.time k i),.slice sa (T.an k i) sc] 65)=wT at hcT hqT hsT ⊢
       generalize w1.heap.size=sT at hsT ⊢
       have hzT:=hcT.le
       refine wpAnyT_ready (rs:=[9]) (by kernel_rfl) (by simp) ?_
       refine AllReadyT.cons rfl (fun K hK=>?_) AllReadyT.nil
       refine step_append_que _ rfl _ _ 60 60 rfl (base:=wc.heap.size) (e:=65) (size:=5) ei (.agg #[.int .i64 0,.int .i64 0,.int .i64 0,.int .i64 0,.slice none 0 0]) 56 Tryz.underlying60 hei hez0 hez1 hez2 rfl (v:=.slice x1 (na+rl0) y1) (n:=na+rl0) (xs:=T.toTr.aplCs N F k ad i++insCells (T.toTr.insG N F false (k,i) N.length)) rfl hqT (by omega) (.slice (some ⟨sT,0,none⟩) 1 1) 1 [.int .i64 (T.kind k i),.int .i64 (T.peer k i),.int .i64 (T.msg k i),.int .i64 (T.time k i),.slice sa (T.an k i) sc] rfl hsT (by unfold maxLen;omega) (by omega) ?_
       intro v2 w2 hq2 hg2 hat2
       obtain ⟨x2,y2,rfl⟩:=hq2.slice
       have hc2:Chg S wA w2:=hcT.grown hg2 haT
       have ha2:∀ g,(Value.slice x2 (na+rl0+1) y2).ownBlock=some g→S g∨wA.heap.size≤g:=fun g e=>by
        rcases hat2 with h1 | h1
        ·exact haT g (h1.symm.trans e)
        ·right
         rw [h1] at e
         have h2:wT.heap.size=g:=by simpa using e
         omega
       refine hK.out _ _ ⟨trivial,hc2⟩ (fun hHeld4=>?_)
       clear hK K
       try simp only [Act.put]
       have hz2:=hc2.le
       refine wpAnyT_ready (rs:=[14]) (by kernel_rfl) (by simp) ?_
       refine AllReadyT.cons rfl (fun K hK=>?_) AllReadyT.nil
       refine step_append_que _ rfl _ _ 60 60 rfl (base:=wc.heap.size) (e:=65) (size:=5) ei (.agg #[.int .i64 0,.int .i64 0,.int .i64 0,.int .i64 0,.slice none 0 0]) 56 Tryz.underlying60 hei hez0 hez1 hez2 rfl (v:=.slice x2 (na+rl0+1) y2) (n:=na+rl0+1) (xs:=T.toTr.aplCs N F k ad i++insCells (T.toTr.insG N F false (k,i) N.length)++[.int .i64 (T.kind k i),.int .i64 (T.peer k i),.int .i64 (T.msg k i),.int .i64 (T.time k i),.slice sa (T.an k i) sc]) rfl hq2 (by omega) (.slice ra1 rl1 rc1) rl1 (insCells (T.toTr.insG N F true (k,i) N.length)) rfl (HR1.out _ hc2) (by unfold maxLen;omega) (by omega) ?_
       intro v3 w3 hq3 hg3 hat3
       obtain ⟨x3,y3,rfl⟩:=hq3.slice
       have hc3:Chg S wA w3:=hc2.grown hg3 ha2
       have ha3:∀ g,(Value.slice x3 (na+rl0+1+rl1) y3).ownBlock=some g→S g∨wA.heap.size≤g:=fun g e=>by
        rcases hat3 with h1 | h1
        ·exact ha2 g (h1.symm.trans e)
        ·right
         rw [h1] at e
         have h2:w2.heap.size=g:=by simpa using e
         omega
       refine hK.out _ _ ⟨trivial,hc3⟩ (fun hHeld5=>?_)
       clear hK K
       try simp only [Act.put]
       have hbY:=Hold.chg HYB.out hc3 HNS.out
       obtain ⟨l9,c9,f9,_⟩:=hbY.box
       have h33:Ext w3 w3:=Ext.refl _
       refine wpAnyT_ready (rs:=[15]) (by kernel_rfl) (by simp) ?_
       refine AllReadyT.late rfl (by decide) (fun K hK=>?_) AllReadyT.nil
       go_simp
       refine hK.out _ _ trivial (fun hHeld6=>?_)
       clear hK K
       try simp only [Act.put]
       refine wpAnyT_ready (rs:=[16]) (by kernel_rfl) (by simp) ?_
       refine AllReadyT.late rfl (by decide) (fun K hK=>?_) AllReadyT.nil
       go_simp
       refine hK.out _ _ trivial (fun hHeld7=>?_)
       clear hK K
       have HNX:=Lib.hid (show AplE T.toTr N F wc bn k (.string nm) (.slice sva svn svc) (i+1) (setS ad i ⟨sa,T.an k i,sc,sb,so⟩) (.slice x3 (na+rl0+1+rl1) y3) (w3.setCell ⟨bn,2,none⟩ (.slice x3 (na+rl0+1+rl1) y3)) from by
        have hmA:=HMA.out
        have hcF:Chg (fun g=>g=bn∨(Value.slice ya na yc).ownBlock=some g) wA (w3.setCell ⟨bn,2,none⟩ (.slice x3 (na+rl0+1+rl1) y3)):=(hc3.mono fun g _ e=>.inr (by rw [HSS.out] at e;exact e)).set ⟨bn,2,none⟩ _ (.inl (.inl rfl))
        have hlb:=HBL.out
        have hEc:=HE.out.c.le
        refine HE.out.next (m:=wA.heap.size) HIAX.out.le ((HIAX.out.chg _).trans hcF) (hmA.1.same hcF.le fun h0=>hcF.2 _ (hmA.2.1 h0).2 fun e=>?_) rfl hmA.2.1 (hbY.set 2 _) ?_ (fun g e=>(ha3 g e).imp (fun h=>by rw [HSS.out] at h;exact h) id)
        ·have h1:=(hmA.2.1 h0).1
         rcases e with e | e
         ·have h2:sb=bn:=e
          omega
         ·have h2:=(HE.out.own _ e).2
          have h3:sb<wi.heap.size:=h2
          omega
        ·rw [apl_len_succ,aplCs_succ,←HNA.out,←HRL.out.1,←HRL.out.2]
         exact hq3.same' (by simp) fun g e=>Below.heap_setCell _ _ _ _ fun e2=>by
          have h8:=hq3.block g e
          have h7:g=bn:=e2
          omega)
       clear l9 c9 f9 h33 hbY hq2 hq3 hg2 hg3 hat2 hat3 ha2 ha3 haT hc2 hc3 hcT hqT hsT hHeld4 hHeld5 hHeld6 hHeld7
       refine wpAnyT_done (by kernel_rfl) ?_ _
       generalize w3.setCell ⟨bn,2,none⟩ (.slice x3 (na+rl0+1+rl1) y3)=w4' at HNX ⊢
       go_wp2_with fail
       go_roundg (en - (i+1))
       case rel=>exact ⟨i+1,_,_,by omega,rfl,by go_num,HNX.out⟩
       case measure=>omega
      ·go_simp
       have hsT0:=RowM.new wA [.int .i64 (T.kind k i),.int .i64 (T.peer k i),.int .i64 (T.msg k i),.int .i64 (T.time k i),.slice sa (T.an k i) sc] 65 5 rfl
       refine hK.out _ _ ⟨trivial,hA0.alloc (.cells #[.int .i64 (T.kind k i),.int .i64 (T.peer k i),.int .i64 (T.msg k i),.int .i64 (T.time k i),.slice sa (T.an k i) sc] 65)⟩ (fun hHeld2=>?_)
       clear hK K
       try simp only [Act.put]
       have hcB:Chg S wA (wA.alloc (.cells #[.int .i64 (T.kind k i),.int .i64 (T.peer k i),.int .i64 (T.msg k i),.int .i64 (T.time k i),.slice sa (T.an k i) sc] 65)).drew:=((Chg.refl S wA).alloc _).drew
       have hqB:Que (wA.alloc (.cells #[.int .i64 (T.kind k i),.int .i64 (T.peer k i),.int .i64 (T.msg k i),.int .i64 (T.time k i),.slice sa (T.an k i) sc] 65)).drew wc.heap.size 5 (.slice ya na yc) na (T.toTr.aplCs N F k ad i):=(HQA.out.ext (Ext.alloc wA (.cells #[.int .i64 (T.kind k i),.int .i64 (T.peer k i),.int .i64 (T.msg k i),.int .i64 (T.time k i),.slice sa (T.an k i) sc] 65))).ext (Ext.refl _).drew
       have hzB:wc.heap.size≤(wA.alloc (.cells #[.int .i64 (T.kind k i),.int .i64 (T.peer k i),.int .i64 (T.msg k i),.int .i64 (T.time k i),.slice sa (T.an k i) sc] 65)).drew.heap.size:=by have h1:=(Ext.alloc wA (.cells #[.int .i64 (T.kind k i),.int .i64 (T.peer k i),.int .i64 (T.msg k i),.int .i64 (T.time k i),.slice sa (T.an k i) sc] 65)).le;have h2:(wA.alloc (.cells #[.int .i64 (T.kind k i),.int .i64 (T.peer k i),.int .i64 (T.msg k i),.int .i64 (T.time k i),.slice sa (T.an k i) sc] 65)).drew.heap.size=(wA.alloc (.cells #[.int .i64 (T.kind k i),.int .i64 (T.peer k i),.int .i64 (T.msg k i),.int .i64 (T.time k i),.slice sa (T.an k i) sc] 65)).heap.size:=rfl;omega
       have hsB:=(show RowM (wA.alloc (.cells #[.int .i64 (T.kind k i),.int .i64 (T.peer k i),.int .i64 (T.msg k i),.int .i64 (T.time k i),.slice sa (T.an k i) sc] 65)).drew ⟨some ⟨wA.heap.size,0,none⟩,1,1,wA.heap.size,0⟩ 5 [.int .i64 (T.kind k i),.int .i64 (T.peer k i),.int .i64 (T.msg k i),.int .i64 (T.time k i),.slice sa (T.an k i) sc] from hsT0.ext (Ext.refl _).drew)
       have hszB:wA.heap.size<(wA.alloc (.cells #[.int .i64 (T.kind k i),.int .i64 (T.peer k i),.int .i64 (T.msg k i),.int .i64 (T.time k i),.slice sa (T.an k i) sc] 65)).drew.heap.size:=by show wA.heap.size<(wA.alloc _).heap.size;simp
       try rw [show (wA.drew.alloc (.cells #[.int .i64 (T.kind k i),.int .i64 (T.peer k i),.int .i64 (T.msg k i),.int .i64 (T.time k i),.slice sa (T.an k i) sc] 65))=(wA.alloc (.cells #[.int .i64 (T.kind k i),.int .i64 (T.peer k i),.int .i64 (T.msg k i),.int .i64 (T.time k i),.slice sa (T.an k i) sc] 65)).drew from rfl]
       generalize (wA.alloc (.cells #[.int .i64 (T.kind k i),.int .i64 (T.peer k i),.int .i64 (T.msg k i),.int .i64 (T.time k i),.slice sa (T.an k i) sc] 65)).drew=wB at hcB hqB hzB hsB hszB ⊢
       refine wpAnyT_ready (rs:=[6]) (by kernel_rfl) (by simp) ?_
       refine AllReadyT.cons rfl (fun K hK=>?_) AllReadyT.nil
       refine step_append_que _ rfl _ _ 60 60 rfl (base:=wc.heap.size) (e:=65) (size:=5) ei (.agg #[.int .i64 0,.int .i64 0,.int .i64 0,.int .i64 0,.slice none 0 0]) 56 Tryz.underlying60 hei hez0 hez1 hez2 rfl (v:=.slice ya na yc) (n:=na) (xs:=T.toTr.aplCs N F k ad i) rfl hqB hzB (.slice ra0 rl0 rc0) rl0 (insCells (T.toTr.insG N F false (k,i) N.length)) rfl (HR0.out _ hcB) (by unfold maxLen;omega) (by omega) ?_
       intro v1 wT hqT hg1 hat1
       obtain ⟨x1,y1,rfl⟩:=hqT.slice
       have hcT:Chg S wA wT:=hcB.grown hg1 (fun g e=>.inl (by rw [HSS.out];exact e))
       obtain ⟨sT,hsT9⟩:∃ z,z=wA.heap.size:=⟨_,rfl⟩
       have hsT:=((hsB.same (w':=wT) hg1.size (fun _=>hg1.block _ hszB (fun e=>by
        have h1:=(HSC.out wA.heap.size (by rw [HSS.out];exact e.symm)).2
        have h2:=HMA.out.2.2
        omega))).src (P:=Tryz.prog) (tx:=60) Tryz.underlying60 (by intro u hu;simp at hu;rcases hu with rfl | rfl | rfl | rfl | rfl <;> rfl))
       have haT:∀ g,(Value.slice x1 (na+rl0) y1).ownBlock=some g→S g∨wA.heap.size≤g:=fun g e=>by
        rw [HSS.out]
        rcases hat1 with h1 | h1
        ·exact .inl (h1.symm.trans e)
        ·right
         rw [h1] at e
         have h2:wB.heap.size=g:=by simpa using e
         omega
       refine hK.out _ _ ⟨trivial,hcT⟩ (fun hHeld3=>?_)
       clear hK K
       try simp only [Act.put]
       rw [←hsT9] at hsT ⊢
       clear hg1 hat1 hHeld hHeld2 hHeld3 hcB hqB hzB hsB hszB hsT0 hsT9
       have hzT:=hcT.le
       refine wpAnyT_ready (rs:=[9]) (by kernel_rfl) (by simp) ?_
       refine AllReadyT.cons rfl (fun K hK=>?_) AllReadyT.nil
       refine step_append_que _ rfl _ _ 60 60 rfl (base:=wc.heap.size) (e:=65) (size:=5) ei (.agg #[.int .i64 0,.int .i64 0,.int .i64 0,.int .i64 0,.slice none 0 0]) 56 Tryz.underlying60 hei hez0 hez1 hez2 rfl (v:=.slice x1 (na+rl0) y1) (n:=na+rl0) (xs:=T.toTr.aplCs N F k ad i++insCells (T.toTr.insG N F false (k,i) N.length)) rfl hqT (by omega) (.slice (some ⟨sT,0,none⟩) 1 1) 1 [.int .i64 (T.kind k i),.int .i64 (T.peer k i),.int .i64 (T.msg k i),.int .i64 (T.time k i),.slice sa (T.an k i) sc] rfl hsT (by unfold maxLen;omega) (by omega) ?_
       intro v2 w2 hq2 hg2 hat2
       obtain ⟨x2,y2,rfl⟩:=hq2.slice
       have hc2:Chg S wA w2:=hcT.grown hg2 haT
       have ha2:∀ g,(Value.slice x2 (na+rl0+1) y2).ownBlock=some g→S g∨wA.heap.size≤g:=fun g e=>by
        rcases hat2 with h1 | h1
        ·exact haT g (h1.symm.trans e)
        ·right
         rw [h1] at e
         have h2:wT.heap.size=g:=by simpa using e
         omega
       refine hK.out _ _ ⟨trivial,hc2⟩ (fun hHeld4=>?_)
       clear hK K
       try simp only [Act.put]
       have hz2:=hc2.le
       refine wpAnyT_ready (rs:=[14]) (by kernel_rfl) (by simp) ?_
       refine AllReadyT.cons rfl (fun K hK=>?_) AllReadyT.nil
       refine step_append_que _ rfl _ _ 60 60 rfl (base:=wc.heap.size) (e:=65) (size:=5) ei (.agg #[.int .i64 0,.int .i64 0,.int .i64 0,.int .i64 0,.slice none 0 0]) 56 Tryz.underlying60 hei hez0 hez1 hez2 rfl (v:=.slice x2 (na+rl0+1) y2) (n:=na+rl0+1) (xs:=T.toTr.aplCs N F k ad i++insCells (T.toTr.insG N F false (k,i) N.length)++[.int .i64 (T.kind k i),.int .i64 (T.peer k i),.int .i64 (T.msg k i),.int .i64 (T.time k i),.slice sa (T.an k i) sc]) rfl hq2 (by omega) (.slice ra1 rl1 rc1) rl1 (insCells (T.toTr.insG N F true (k,i) N.length)) rfl (HR1.out _ hc2) (by unfold maxLen;omega) (by omega) ?_
       intro v3 w3 hq3 hg3 hat3
       obtain ⟨x3,y3,rfl⟩:=hq3.slice
       have hc3:Chg S wA w3:=hc2.grown hg3 ha2
       have ha3:∀ g,(Value.slice x3 (na+rl0+1+rl1) y3).ownBlock=some g→S g∨wA.heap.size≤g:=fun g e=>by
        rcases hat3 with h1 | h1
        ·exact ha2 g (h1.symm.trans e)
        ·right
         rw [h1] at e
         have h2:w2.heap.size=g:=by simpa using e
         omega
       refine hK.out _ _ ⟨trivial,hc3⟩ (fun hHeld5=>?_)
       clear hK K
       try simp only [Act.put]
       have hbY:=Hold.chg HYB.out hc3 HNS.out
       obtain ⟨l9,c9,f9,_⟩:=hbY.box
       have h33:Ext w3 w3:=Ext.refl _
       refine wpAnyT_ready (rs:=[15]) (by kernel_rfl) (by simp) ?_
       refine AllReadyT.late rfl (by decide) (fun K hK=>?_) AllReadyT.nil
       go_simp
       refine hK.out _ _ trivial (fun hHeld6=>?_)
       clear hK K
       try simp only [Act.put]
       refine wpAnyT_ready (rs:=[16]) (by kernel_rfl) (by simp) ?_
       refine AllReadyT.late rfl (by decide) (fun K hK=>?_) AllReadyT.nil
       go_simp
       refine hK.out _ _ trivial (fun hHeld7=>?_)
       clear hK K
       have HNX:=Lib.hid (show AplE T.toTr N F wc bn k (.string nm) (.slice sva svn svc) (i+1) (setS ad i ⟨sa,T.an k i,sc,sb,so⟩) (.slice x3 (na+rl0+1+rl1) y3) (w3.setCell ⟨bn,2,none⟩ (.slice x3 (na+rl0+1+rl1) y3)) from by
        have hmA:=HMA.out
        have hcF:Chg (fun g=>g=bn∨(Value.slice ya na yc).ownBlock=some g) wA (w3.setCell ⟨bn,2,none⟩ (.slice x3 (na+rl0+1+rl1) y3)):=(hc3.mono fun g _ e=>.inr (by rw [HSS.out] at e;exact e)).set ⟨bn,2,none⟩ _ (.inl (.inl rfl))
        have hlb:=HBL.out
        have hEc:=HE.out.c.le
        refine HE.out.next (m:=wA.heap.size) HIAX.out.le ((HIAX.out.chg _).trans hcF) (hmA.1.same hcF.le fun h0=>hcF.2 _ (hmA.2.1 h0).2 fun e=>?_) rfl hmA.2.1 (hbY.set 2 _) ?_ (fun g e=>(ha3 g e).imp (fun h=>by rw [HSS.out] at h;exact h) id)
        ·have h1:=(hmA.2.1 h0).1
         rcases e with e | e
         ·have h2:sb=bn:=e
          omega
         ·have h2:=(HE.out.own _ e).2
          have h3:sb<wi.heap.size:=h2
          omega
        ·rw [apl_len_succ,aplCs_succ,←HNA.out,←HRL.out.1,←HRL.out.2]
         exact hq3.same' (by simp) fun g e=>Below.heap_setCell _ _ _ _ fun e2=>by
          have h8:=hq3.block g e
          have h7:g=bn:=e2
          omega)
       clear l9 c9 f9 h33 hbY hq2 hq3 hg2 hg3 hat2 hat3 ha2 ha3 haT hc2 hc3 hcT hqT hsT hHeld4 hHeld5 hHeld6 hHeld7
       refine wpAnyT_done (by kernel_rfl) ?_ _
       generalize w3.setCell ⟨bn,2,none⟩ (.slice x3 (na+rl0+1+rl1) y3)=w4' at HNX ⊢
       go_wp2_with fail
       go_roundg (en - (i+1))
       case rel=>exact ⟨i+1,_,_,by omega,rfl,by go_num,HNX.out⟩
       case measure=>omega
  have hjn':(j:Int)<(nn:Int):=by omega
  have hjN:j<N.length:=by rw [←HNL.out.1];exact hjn
  obtain ⟨ng,no,ncap,hnv,hng1,hng2,_,_,hncell,_⟩:∃ g off cap,Value.slice na nn nc=.slice (some ⟨g,off,none⟩) nn cap∧w7.heap.size≤g∧g<w8.heap.size∧nn≤cap∧cap≤maxLen∧(∀ j,j<nn*4→w8.cell? ⟨g,off+j,none⟩=(synCells N)[j]?)∧∀ j,j<cap*4→(w8.cell? ⟨g,off+j,none⟩).isSome=true∧w8.frozen? ⟨g,off+j,none⟩=false:=by
   rcases HQN.out.val with ⟨_,_,h0,_⟩ | h9
   ·omega
   ·exact h9
  simp only [Value.slice.injEq] at hnv
  obtain ⟨rfl,_,rfl⟩:=hnv
  obtain ⟨x,y,hxV,hyV,hxy⟩:=HL.out.nn (ndL_sub (T:=T.toTr) (k:=D.l.length) (by rw [←HNN.out];exact List.getElem_mem hjN))
  obtain ⟨xp,xi⟩:=x
  obtain ⟨yp,yi⟩:=y
  have hnb:∀ c,ng≠bmF b c:=fun c e=>by
   have h1:=HX7.out.le
   have h2:=HBE.out
   have h3:((w4.alloc (.map #[] 0)).alloc (.map #[] 0)).heap.size=w4.heap.size+1+1:=by simp
   cases c
   ·have h4:ng=b:=e
    omega
   ·have h4:ng=b+1:=e
    omega
  have hsc:=synCells_get hjN
  rw [hxy] at hsc
  have s0:∀ w',Ext wr w'→w'.cell? ⟨ng,no+j*4,none⟩=some (.int .i64 (xp:Int)):=fun w' h=>h.cell (HI.out.cell ((hncell (j*4) (by omega)).trans hsc.1) hng2 hnb)
  have s1:∀ w',Ext wr w'→w'.cell? ⟨ng,no+j*4+1,none⟩=some (.int .i64 ((xi:Int)+1)):=fun w' h=>h.cell (HI.out.cell ((hncell (j*4+1) (by omega)).trans hsc.2.1) hng2 hnb)
  have s2:∀ w',Ext wr w'→w'.cell? ⟨ng,no+j*4+2,none⟩=some (.int .i64 (yp:Int)):=fun w' h=>h.cell (HI.out.cell ((hncell (j*4+2) (by omega)).trans hsc.2.2.1) hng2 hnb)
  have s3:∀ w',Ext wr w'→w'.cell? ⟨ng,no+j*4+3,none⟩=some (.int .i64 ((yi:Int)+1)):=fun w' h=>h.cell (HI.out.cell ((hncell (j*4+3) (by omega)).trans hsc.2.2.2) hng2 hnb)
  have sb:∀ w',Ext wr w'→ng<w'.heap.size:=fun w' h=>Nat.lt_of_lt_of_le hng2 (Nat.le_trans HI.out.kx h.le)
  have HXY:=Lib.hid (And.intro hxV (And.intro hyV hxy))
  have hrr:Ext wr wr:=Ext.refl _
  clear hxV hyV hxy hsc hncell hng1 hng2 hnb
  go_upto_region 9 with fail
  refine boxed1 (w:=wr) (G:=fun x=>Code.wp _ _ _ _ x) ?_
  intro w10 hx10 hs10 ⟨l10,c10,_,k10⟩
  have HK10:=Lib.hid k10
  clear k10
  have hx410:=hx4r.trans hx10
  have hx110:=hx14.trans hx410
  have hxw10:=hx1.trans hx110
  clear hs10 s0 s1 s2 s3 sb
  by_cases hjf:j<fn'
  case neg=>
   have hjf':¬(j:Int)<(fn':Int):=by omega
   have hjf2:(fn':Int)≤(j:Int):=by omega
   have HBG:=Lib.hid (show T.toTr.AplBig N F from .inl (by rw [←HNL.out.1,←HFL.out.1];omega))
   go_wp2_with fail
   refine bodyPost_ret (papply_results _ _ _ _ _ rfl rfl ((Hold.set (HRB.out.ext hx110) 0 _).cell0 0)) rfl ?_
   exact ⟨hxw10.setCell (by show w.heap.size≤w.heap.size+1;omega) _,.inr ⟨HF.out,.inl ⟨HBG.out,rfl⟩⟩⟩
  have hjf':(j:Int)<(fn':Int):=by omega
  have hjF:j<F.length:=by rw [←HFL.out.1];exact hjf
  obtain ⟨rfl,hfg1,hfg2⟩:=HFP.out (by omega)
  obtain ⟨fj,hfj⟩:∃ z,z=F[j]:=⟨_,rfl⟩
  have HFJ:=Lib.hid hfj
  have HFJ2:=Lib.hid (show ((fj:Nat):Int)=((F.getD j 0:Nat):Int) from by rw [hfj,List.getD_eq_getElem?_getD,List.getElem?_eq_getElem hjF];rfl)
  have HFG:=Lib.hid hfg2
  have HSB2:=Lib.hid (show ∀ c,b+1+1≠bmF b c from fun c e=>by
   cases c
   ·have h4:b+1+1=b:=e
    omega
   ·have h4:b+1+1=b+1:=e
    omega)
  have HJ:=Lib.hid (HI.out.ext hx10)
  clear hfj hfg1 hfg2
  have n0:∀ w',Ext w10 w'→w'.cell? ⟨fg,fo+j,none⟩=some (.int .i64 (fj:Int)):=fun w' h=>by
   refine (hx410.trans h).cell ?_
   rw [HFC.out j (by omega),natInts_get (i:=j) (v:=fj) (by rw [HFJ.out];exact List.getElem?_eq_getElem hjF)]
  have nb:∀ w',Ext w10 w'→fg<w'.heap.size:=fun w' h=>Nat.lt_of_lt_of_le HFG.out (hx410.trans h).le
  have m0:∀ w',Ext w10 w'→w'.cell? ⟨b+1+1,0,none⟩=some (.map (some b)):=fun w' h=>h.cell (HJ.out.cell B0.out.1 B0.out.2.2 HSB2.out)
  have m1:∀ w',Ext w10 w'→w'.cell? ⟨b+1+1,1,none⟩=some (.map (some (b+1))):=fun w' h=>h.cell (HJ.out.cell B0.out.2.1 B0.out.2.2 HSB2.out)
  have mb:∀ w',Ext w10 w'→b+1+1<w'.heap.size:=fun w' h=>Nat.lt_of_lt_of_le B0.out.2.2 (Nat.le_trans HJ.out.kx h.le)
  have h1010:Ext w10 w10:=Ext.refl _
  have HNJ:=Lib.hid (show N[j]?=some (evI (xp,xi),evI (yp,yi)) from by rw [List.getElem?_eq_getElem hjN,HXY.out.2.2])
  go_upto_region 11 with fail
  have hfl:=fld_time
  have hcall:=HEV.out w10.drew hxw10.drew xp xi HXY.out.1.1 HXY.out.1.2
  simp only [TM.ev] at hcall
  obtain ⟨tt,htt⟩:∃ z,z=T.time xp xi:=⟨_,rfl⟩
  rw [←htt] at hcall
  have HTT:=Lib.hid htt
  clear htt
  refine wp_region_T (t:=18) (S:=fun _=>True) (R:=fun w'=>Ext w10 w') (by kernel_rfl) trivial (Ext.refl w10).drew (fun hHeld=>?_)
  refine takeU 0 (v:=?_) rfl (by kernel_rfl) (by kernel_rfl) (by kernel_rfl) (by kernel_rfl) (by kernel_rfl) (fun _ _ _ h=>h) (by decide) (Or.inl ⟨by rfl,?_⟩) hHeld.1 hHeld.2 ?_
  rotate_left
  ·intro w' hSw
   have hSX:=hSw.2
   (try dsimp only at hSX)
   have hS1:=hx110.trans hSX
   have hSS:=Ext.refl w'
   go_simp
   try with_reducible rfl
  try simp only [Act.put,zA,zB,zC]
  refine takeU 1 (v:=?_) rfl (by kernel_rfl) (by kernel_rfl) (by kernel_rfl) (by kernel_rfl) (by kernel_rfl) (fun _ _ _ h=>h) (by decide) (Or.inl ⟨by rfl,?_⟩) hHeld.1 hHeld.2 ?_
  rotate_left
  ·intro w' hSw
   have hSX:=hSw.2
   (try dsimp only at hSX)
   have hS1:=hx110.trans hSX
   have hSS:=Ext.refl w'
   go_simp
   try with_reducible rfl
  try simp only [Act.put,zA,zB,zC]
  refine takeU 2 (v:=?_) rfl (by kernel_rfl) (by kernel_rfl) (by kernel_rfl) (by kernel_rfl) (by kernel_rfl) (fun _ _ _ h=>h) (by decide) (Or.inl ⟨by rfl,?_⟩) hHeld.1 hHeld.2 ?_
  rotate_left
  ·intro w' hSw
   have hSX:=hSw.2
   (try dsimp only at hSX)
   have hS1:=hx110.trans hSX
   have hSS:=Ext.refl w'
   go_simp
   try with_reducible rfl
  try simp only [Act.put,zA,zB,zC]
  refine takeU 3 (v:=?_) rfl (by kernel_rfl) (by kernel_rfl) (by kernel_rfl) (by kernel_rfl) (by kernel_rfl) (fun _ _ _ h=>h) (by decide) (Or.inl ⟨by rfl,?_⟩) hHeld.1 hHeld.2 ?_
  rotate_left
  ·intro w' hSw
   have hSX:=hSw.2
   (try dsimp only at hSX)
   have hS1:=hx110.trans hSX
   have hSS:=Ext.refl w'
   go_simp
   try with_reducible rfl
  try simp only [Act.put,zA,zB,zC]
  refine takeU 4 (v:=?_) rfl (by kernel_rfl) (by kernel_rfl) (by kernel_rfl) (by kernel_rfl) (by kernel_rfl) (fun _ _ _ h=>h) (by decide) (Or.inl ⟨by rfl,?_⟩) hHeld.1 hHeld.2 ?_
  rotate_left
  ·intro w' hSw
   have hSX:=hSw.2
   (try dsimp only at hSX)
   have hS1:=hx110.trans hSX
   have hSS:=Ext.refl w'
   go_simp
   try with_reducible rfl
  try simp only [Act.put,zA,zB,zC]
  refine takeU 5 (v:=?_) rfl (by kernel_rfl) (by kernel_rfl) (by kernel_rfl) (by kernel_rfl) (by kernel_rfl) (fun _ _ _ h=>h) (by decide) (Or.inl ⟨by rfl,?_⟩) hHeld.1 hHeld.2 ?_
  rotate_left
  ·intro w' hSw
   have hSX:=hSw.2
   (try dsimp only at hSX)
   have hS1:=hx110.trans hSX
   have hSS:=Ext.refl w'
   go_simp
   try with_reducible rfl
  try simp only [Act.put,zA,zB,zC]
  refine takeU 6 (v:=?_) rfl (by kernel_rfl) (by kernel_rfl) (by kernel_rfl) (by kernel_rfl) (by kernel_rfl) (fun _ _ _ h=>h) (by decide) (Or.inl ⟨by rfl,?_⟩) hHeld.1 hHeld.2 ?_
  rotate_left
  ·intro w' hSw
   have hSX:=hSw.2
   (try dsimp only at hSX)
   have hS1:=hx110.trans hSX
   have hSS:=Ext.refl w'
   go_simp
   try with_reducible rfl
  try simp only [Act.put,zA,zB,zC]
  refine takeU 7 (v:=?_) rfl (by kernel_rfl) (by kernel_rfl) (by kernel_rfl) (by kernel_rfl) (by kernel_rfl) (fun _ _ _ h=>h) (by decide) (Or.inl ⟨by rfl,?_⟩) hHeld.1 hHeld.2 ?_
  rotate_left
  ·intro w' hSw
   have hSX:=hSw.2
   (try dsimp only at hSX)
   have hS1:=hx110.trans hSX
   have hSS:=Ext.refl w'
   go_simp
   try with_reducible rfl
  try simp only [Act.put,zA,zB,zC]
  refine takeU 8 (v:=?_) rfl (by kernel_rfl) (by kernel_rfl) (by kernel_rfl) (by kernel_rfl) (by kernel_rfl) (fun _ _ _ h=>h) (by decide) (Or.inl ⟨by rfl,?_⟩) hHeld.1 hHeld.2 ?_
  rotate_left
  ·intro w' hSw
   have hSX:=hSw.2
   (try dsimp only at hSX)
   have hS1:=hx110.trans hSX
   have hSS:=Ext.refl w'
   go_simp
   try with_reducible rfl
  try simp only [Act.put,zA,zB,zC]
  refine takeU 9 (v:=?_) rfl (by kernel_rfl) (by kernel_rfl) (by kernel_rfl) (by kernel_rfl) (by kernel_rfl) (fun _ _ _ h=>h) (by decide) (Or.inl ⟨by rfl,?_⟩) hHeld.1 hHeld.2 ?_
  rotate_left
  ·intro w' hSw
   have hSX:=hSw.2
   (try dsimp only at hSX)
   have hS1:=hx110.trans hSX
   have hSS:=Ext.refl w'
   go_simp
   try with_reducible rfl
  try simp only [Act.put,zA,zB,zC]
  refine takeU 10 (v:=?_) rfl (by kernel_rfl) (by kernel_rfl) (by kernel_rfl) (by kernel_rfl) (by kernel_rfl) (fun _ _ _ h=>h) (by decide) (Or.inl ⟨by rfl,?_⟩) hHeld.1 hHeld.2 ?_
  rotate_left
  ·intro w' hSw
   have hSX:=hSw.2
   (try dsimp only at hSX)
   have hS1:=hx110.trans hSX
   have hSS:=Ext.refl w'
   go_simp
   try with_reducible rfl
  try simp only [Act.put,zA,zB,zC]
  refine takeU 11 (v:=?_) rfl (by kernel_rfl) (by kernel_rfl) (by kernel_rfl) (by kernel_rfl) (by kernel_rfl) (fun _ _ _ h=>h) (by decide) (Or.inl ⟨by rfl,?_⟩) hHeld.1 hHeld.2 ?_
  rotate_left
  ·intro w' hSw
   have hSX:=hSw.2
   (try dsimp only at hSX)
   have hS1:=hx110.trans hSX
   have hSS:=Ext.refl w'
   go_simp
   try with_reducible rfl
  try simp only [Act.put,zA,zB,zC]
  refine takeU 12 (v:=?_) rfl (by kernel_rfl) (by kernel_rfl) (by kernel_rfl) (by kernel_rfl) (by kernel_rfl) (fun _ _ _ h=>h) (by decide) (Or.inl ⟨by rfl,?_⟩) hHeld.1 hHeld.2 ?_
  rotate_left
  ·intro w' hSw
   have hSX:=hSw.2
   (try dsimp only at hSX)
   have hS1:=hx110.trans hSX
   have hSS:=Ext.refl w'
   go_simp
   try with_reducible rfl
  try simp only [Act.put,zA,zB,zC]
  refine takeU 13 (v:=?_) rfl (by kernel_rfl) (by kernel_rfl) (by kernel_rfl) (by kernel_rfl) (by kernel_rfl) (fun _ _ _ h=>h) (by decide) (Or.inl ⟨by rfl,?_⟩) hHeld.1 hHeld.2 ?_
  rotate_left
  ·intro w' hSw
   have hSX:=hSw.2
   (try dsimp only at hSX)
   have hS1:=hx110.trans hSX
   have hSS:=Ext.refl w'
   go_simp
   try with_reducible rfl
  try simp only [Act.put,zA,zB,zC]
  refine wpAnyT_ready (rs:=[14]) (by kernel_rfl) (by simp) ?_
  refine AllReadyT.cons rfl (fun K hK=>?_) AllReadyT.nil
  go_simp
  go_at_call 52
  refine hcall.mono ?_
  rintro e w11 ⟨rfl,hx11⟩
  have hx1011:Ext w10 w11:=(Ext.refl w10).drew.trans hx11
  refine hK.out _ _ ⟨trivial,hx1011⟩ (fun hHeld2=>?_)
  clear hK K
  try simp only [Act.put,zA,zB,zC]
  clear hHeld
  have hHeld:=hHeld2
  clear hHeld2
  refine takeU 15 (v:=?_) rfl (by kernel_rfl) (by kernel_rfl) (by kernel_rfl) (by kernel_rfl) (by kernel_rfl) (fun _ _ _ h=>h) (by decide) (Or.inl ⟨by rfl,?_⟩) hHeld.1 hHeld.2 ?_
  rotate_left
  ·intro w' hSw
   have hSX:=hSw.2
   (try dsimp only at hSX)
   have hS1:=hx110.trans hSX
   have hSS:=Ext.refl w'
   go_simp
   try with_reducible rfl
  try simp only [Act.put,zA,zB,zC]
  refine takeU 16 (v:=?_) rfl (by kernel_rfl) (by kernel_rfl) (by kernel_rfl) (by kernel_rfl) (by kernel_rfl) (fun _ _ _ h=>h) (by decide) (Or.inl ⟨by rfl,?_⟩) hHeld.1 hHeld.2 ?_
  rotate_left
  ·intro w' hSw
   have hSX:=hSw.2
   (try dsimp only at hSX)
   have hS1:=hx110.trans hSX
   have hSS:=Ext.refl w'
   go_simp
   try with_reducible rfl
  try simp only [Act.put,zA,zB,zC]
  refine wpAnyT_ready (rs:=[17]) (by kernel_rfl) (by simp) ?_
  refine AllReadyT.cons rfl (fun K hK=>?_) AllReadyT.nil
  go_simp
  refine hK.out _ _ ⟨trivial,hx1011.alloc' _⟩ (fun hHeld3=>?_)
  clear hK K
  try simp only [Act.put,zA,zB,zC]
  clear hHeld
  have HIa:=Lib.hid (HJ.out.ext (hx1011.alloc' (.cells #[.int .i64 2,.int .i64 (yp:Nat),.int .i64 fj,.int .i64 tt,.slice none 0 0] 65)))
  obtain ⟨o,s,L',hent,hbk,hupd⟩:=(HIa.out.mp true).entryD (mt:=88) Tryz.underlying88 (zeroEvs _) (evI (xp,xi))
  obtain ⟨ra,rc,hrf⟩:=(HIa.out.rows true (xp,xi)).slice
  obtain ⟨rn,hrn⟩:∃ z,z=(T.toTr.insG N F true (xp,xi) j).length:=⟨_,rfl⟩
  have hrf:nvI (LM true) (xp,xi)=.slice ra rn rc:=by rw [hrn];exact hrf
  have hent:(Instr.mapEntry 88 (.map (some (b+1))) (.agg #[.int .i64 (xp:Nat),.int .i64 ((xi:Nat)+1)])).run Tryz.prog (w11.alloc (.cells #[.int .i64 2,.int .i64 (yp:Nat),.int .i64 fj,.int .i64 tt,.slice none 0 0] 65))=.ok (.tuple #[.slice ra rn rc,.int .i64 (s:Nat)]) ((w11.alloc (.cells #[.int .i64 2,.int .i64 (yp:Nat),.int .i64 fj,.int .i64 tt,.slice none 0 0] 65)).putObj (b+1) o):=by
   have h1:=hent
   rw [show (lookE (evI (xp,xi)) (LM true)).getD (.slice none 0 0)=.slice ra rn rc from hrf] at h1
   exact h1
  have hrn2:rn≤1000:=by
   rw [hrn]
   have h1:=insG_len T.toTr N F true (xp,xi) j
   have h2:=HNL.out.2
   show (T.toTr.insG N F true (xp,xi) j).length≤1000
   omega
  have HRO:=Lib.hid (show Que ((w11.alloc (.cells #[.int .i64 2,.int .i64 (yp:Nat),.int .i64 fj,.int .i64 tt,.slice none 0 0] 65)).putObj (b+1) o) w8.heap.size 5 (.slice ra rn rc) rn (insCells (T.toTr.insG N F true (xp,xi) j)) from by
   have h1:Que _ _ 5 _ (T.toTr.insG N F true (xp,xi) j).length (insCells (T.toTr.insG N F true (xp,xi) j)):=HIa.out.row true (xp,xi) o
   rw [hrf,←hrn] at h1
   exact h1)
  have hbm:=(HIa.out.hb true).2
  have hbk8:=HJ.out.kx
  have hle11:=hx1011.le
  have hbM:bmF b true=(b+1):=rfl
  rw [hbM] at hbm
  have HSR:=Lib.hid (((RowM.new w11 [.int .i64 2,.int .i64 (yp:Nat),.int .i64 fj,.int .i64 tt,.slice none 0 0] 65 5 rfl).same (w':=(w11.alloc (.cells #[.int .i64 2,.int .i64 (yp:Nat),.int .i64 fj,.int .i64 tt,.slice none 0 0] 65)).putObj (b+1) o) (by simp) (fun _=>World.putObj_heap_other (by show w11.heap.size≠(b+1);omega))).src (P:=Tryz.prog) Tryz.underlying60 (by intro u hu;simp at hu;rcases hu with rfl | rfl | rfl | rfl | rfl <;> rfl))
  have hsw:((w11.alloc (.cells #[.int .i64 2,.int .i64 (yp:Nat),.int .i64 fj,.int .i64 tt,.slice none 0 0] 65)).putObj (b+1) o).heap.size=w11.heap.size+1:=by simp
  have HRN:=Lib.hid hrn
  have HRF:=Lib.hid hrf
  clear hrn hrf
  refine wpAnyT_ready (rs:=[18]) (by kernel_rfl) (by simp) ?_
  refine AllReadyT.late rfl (by decide) (fun K hK=>?_) AllReadyT.nil
  go_simp
  refine hK.out _ _ trivial (fun hHeld4=>?_)
  clear hK K
  try simp only [Act.put,zA,zB,zC]
  refine wpAnyT_late (fun _=>True) (fun _ _=>trivial) 18 (by decide) _ _ _ _ (by kernel_rfl) ?_
  have hHeld:True∧True:=⟨trivial,trivial⟩
  refine takeS 19 (v:=?_) rfl (by kernel_rfl) (by kernel_rfl) (by kernel_rfl) (fun _ _ _ h=>h) (by decide) (Or.inl ⟨by rfl,?_⟩) hHeld.1 hHeld.2 ?_
  rotate_left
  ·intro w' hSw
   skip
   have hSS:=Ext.refl w'
   go_simp
   try with_reducible rfl
  try simp only [Act.put,zA,zB,zC]
  refine takeS 21 (v:=?_) rfl (by kernel_rfl) (by kernel_rfl) (by kernel_rfl) (fun _ _ _ h=>h) (by decide) (Or.inl ⟨by rfl,?_⟩) hHeld.1 hHeld.2 ?_
  rotate_left
  ·intro w' hSw
   skip
   have hSS:=Ext.refl w'
   go_simp
   try with_reducible rfl
  try simp only [Act.put,zA,zB,zC]
  refine wpAnyT_ready (rs:=[20]) (by kernel_rfl) (by simp) ?_
  refine AllReadyT.cons rfl (fun K hK=>?_) AllReadyT.nil
  refine step_append_que _ rfl _ _ 60 60 rfl (base:=w8.heap.size) (e:=65) (size:=5) ei (.agg #[.int .i64 0,.int .i64 0,.int .i64 0,.int .i64 0,.slice none 0 0]) 56 Tryz.underlying60 hei hez0 hez1 hez2 rfl (v:=.slice ra rn rc) (n:=rn) (xs:=insCells (T.toTr.insG N F true (xp,xi) j)) rfl HRO.out (by rw [hsw];omega) (.slice (some ⟨w11.heap.size,0,none⟩) 1 1) 1 [.int .i64 2,.int .i64 (yp:Nat),.int .i64 fj,.int .i64 tt,.slice none 0 0] rfl HSR.out (by unfold maxLen;omega) (by omega) ?_
  intro v12 w12 hq hg hat
  obtain ⟨o2,hst,hI2,hkp,hsz⟩:=HIa.out.done (mt:=88) (G':=(fun c z=>T.toTr.insG N F c z (bif c then j+1 else j))) true (xp,xi) hbk hupd hq (by rw [HRF.out];exact hg) (by rw [HRF.out];exact hat) (Nat.succ_pos _) (by
   show rn+1=(T.toTr.insG N F true (xp,xi) (j+1)).length
   rw [insG_t HNJ.out,List.length_append,HRN.out];rfl) (by
   show _=insCells (T.toTr.insG N F true (xp,xi) (j+1))
   rw [insG_t HNJ.out,insCells_snoc,←HFJ2.out,←HTT.out]) (fun d z hne=>by
   cases d
   ·rfl
   ·(exact insG_n HNJ.out true fun e=>hne (by rw [←e];rfl)))
  simp only [goInt] at hst
  have hst:(Instr.entryStore 88 (.map (some (b+1))) (.int .i64 (s:Nat)) v12).run Tryz.prog w12=.ok () (w12.putObj (b+1) o2):=hst
  have HI2:=Lib.hid (show ApI w4 w8 (bmF b) _ ((fun c z=>T.toTr.insG N F c z (bif c then j+1 else j))) (w12.putObj (b+1) o2) from hI2)
  have HKP:=Lib.hid (show ∀ g,g<(w11.alloc (.cells #[.int .i64 2,.int .i64 (yp:Nat),.int .i64 fj,.int .i64 tt,.slice none 0 0] 65)).heap.size→g≠(b+1)→(nvI (LM true) (xp,xi)).ownBlock≠some g→(w12.putObj (b+1) o2).heap[g]?=(w11.alloc (.cells #[.int .i64 2,.int .i64 (yp:Nat),.int .i64 fj,.int .i64 tt,.slice none 0 0] 65)).heap[g]? from hkp)
  have hsz13:(w11.alloc (.cells #[.int .i64 2,.int .i64 (yp:Nat),.int .i64 fj,.int .i64 tt,.slice none 0 0] 65)).heap.size≤(w12.putObj (b+1) o2).heap.size:=hsz
  have HX11:=Lib.hid (hx1011.alloc' (.cells #[.int .i64 2,.int .i64 (yp:Nat),.int .i64 fj,.int .i64 tt,.slice none 0 0] 65))
  clear hI2 hkp hsz hq hg hat hent hbk hupd
  refine hK.out _ _ ⟨trivial,trivial⟩ (fun hHeld6=>?_)
  clear hK K
  try simp only [Act.put]
  refine wpAnyT_ready (rs:=[22]) (by kernel_rfl) (by simp) ?_
  refine AllReadyT.cons rfl (fun K hK=>?_) AllReadyT.nil
  go_simp
  refine hK.out _ _ ⟨trivial,trivial⟩ (fun hHeld7=>?_)
  clear hK K
  refine wpAnyT_done (by kernel_rfl) ?_ _
  clear hst hHeld hHeld3 hHeld4 hHeld6 hHeld7 hcall hfl hx11
  try simp only [World.size_alloc] at hsz13
  generalize w12.putObj (b+1) o2=w13 at HI2 HKP hsz13 ⊢
  have HSB:=Lib.hid (show Hold w13 wr.heap.size #[.int .i64 (xp:Int),.int .i64 ((xi:Int)+1),.int .i64 (yp:Int),.int .i64 ((yi:Int)+1)] from by
   have h1:Hold (w11.alloc (.cells #[.int .i64 2,.int .i64 (yp:Nat),.int .i64 fj,.int .i64 tt,.slice none 0 0] 65)) wr.heap.size #[.int .i64 (xp:Int),.int .i64 ((xi:Int)+1),.int .i64 (yp:Int),.int .i64 ((yi:Int)+1)]:=Hold.ext HK10.out HX11.out
   obtain ⟨t,ht⟩:=h1
   refine ⟨t,(HKP.out _ (Array.getElem?_eq_some_iff.1 ht).1 (fun e=>?_) fun e=>?_).trans ht⟩
   ·have k1:=(HI.out.hb true).2
    have k2:=HI.out.kx
    have k3:bmF b true=b+1:=rfl
    omega
   ·have k1:=(HI.out.own true (xp,xi) _ e).2
    omega)
  clear HKP HX11 HJ HIa HRO HSR HRN HRF HTT hsz13 hrn2 hbm hbk8 hle11 hbM hsw hx1011
  clear l10 c10 n0 nb m0 m1 mb h1010 hxw10 hx110 hx410
  obtain ⟨LM2,hLM2⟩:∃ z,z=setB true (updE (evI (xp,xi)) v12 (LM true)) LM:=⟨_,rfl⟩
  rw [←hLM2] at HI2
  clear hLM2
  have hx410:Ext w4 w13:=HI2.out.x
  have hx110:=hx14.trans hx410
  have hxw10:=hx1.trans hx110
  obtain ⟨l10,c10,_,_⟩:=HSB.out.box
  have n0:∀ w',Ext w13 w'→w'.cell? ⟨fg,fo+j,none⟩=some (.int .i64 (fj:Int)):=fun w' h=>by
   refine (hx410.trans h).cell ?_
   rw [HFC.out j (by omega),natInts_get (i:=j) (v:=fj) (by rw [HFJ.out];exact List.getElem?_eq_getElem hjF)]
  have nb:∀ w',Ext w13 w'→fg<w'.heap.size:=fun w' h=>Nat.lt_of_lt_of_le HFG.out (hx410.trans h).le
  have m0:∀ w',Ext w13 w'→w'.cell? ⟨b+1+1,0,none⟩=some (.map (some b)):=fun w' h=>h.cell (HI2.out.cell B0.out.1 B0.out.2.2 HSB2.out)
  have m1:∀ w',Ext w13 w'→w'.cell? ⟨b+1+1,1,none⟩=some (.map (some (b+1))):=fun w' h=>h.cell (HI2.out.cell B0.out.2.1 B0.out.2.2 HSB2.out)
  have mb:∀ w',Ext w13 w'→b+1+1<w'.heap.size:=fun w' h=>Nat.lt_of_lt_of_le B0.out.2.2 (Nat.le_trans HI2.out.kx h.le)
  have h1010:Ext w13 w13:=Ext.refl _
  have HJ:=HI2
  clear HI2
  go_wp2_with fail
  go_upto_region 12 with fail
  have hfl:=fld_time
  have hcall:=HEV.out w13.drew hxw10.drew yp yi HXY.out.2.1.1 HXY.out.2.1.2
  simp only [TM.ev] at hcall
  obtain ⟨tt,htt⟩:∃ z,z=T.time yp yi:=⟨_,rfl⟩
  rw [←htt] at hcall
  have HTT:=Lib.hid htt
  clear htt
  refine wp_region_T (t:=18) (S:=fun _=>True) (R:=fun w'=>Ext w13 w') (by kernel_rfl) trivial (Ext.refl w13).drew (fun hHeld=>?_)
  refine takeU 0 (v:=?_) rfl (by kernel_rfl) (by kernel_rfl) (by kernel_rfl) (by kernel_rfl) (by kernel_rfl) (fun _ _ _ h=>h) (by decide) (Or.inl ⟨by rfl,?_⟩) hHeld.1 hHeld.2 ?_
  rotate_left
  ·intro w' hSw
   have hSX:=hSw.2
   (try dsimp only at hSX)
   have hS1:=hx110.trans hSX
   have hSS:=Ext.refl w'
   go_simp
   try with_reducible rfl
  try simp only [Act.put,zA,zB,zC]
  refine takeU 1 (v:=?_) rfl (by kernel_rfl) (by kernel_rfl) (by kernel_rfl) (by kernel_rfl) (by kernel_rfl) (fun _ _ _ h=>h) (by decide) (Or.inl ⟨by rfl,?_⟩) hHeld.1 hHeld.2 ?_
  rotate_left
  ·intro w' hSw
   have hSX:=hSw.2
   (try dsimp only at hSX)
   have hS1:=hx110.trans hSX
   have hSS:=Ext.refl w'
   go_simp
   try with_reducible rfl
  try simp only [Act.put,zA,zB,zC]
  refine takeU 2 (v:=?_) rfl (by kernel_rfl) (by kernel_rfl) (by kernel_rfl) (by kernel_rfl) (by kernel_rfl) (fun _ _ _ h=>h) (by decide) (Or.inl ⟨by rfl,?_⟩) hHeld.1 hHeld.2 ?_
  rotate_left
  ·intro w' hSw
   have hSX:=hSw.2
   (try dsimp only at hSX)
   have hS1:=hx110.trans hSX
   have hSS:=Ext.refl w'
   go_simp
   try with_reducible rfl
  try simp only [Act.put,zA,zB,zC]
  refine takeU 3 (v:=?_) rfl (by kernel_rfl) (by kernel_rfl) (by kernel_rfl) (by kernel_rfl) (by kernel_rfl) (fun _ _ _ h=>h) (by decide) (Or.inl ⟨by rfl,?_⟩) hHeld.1 hHeld.2 ?_
  rotate_left
  ·intro w' hSw
   have hSX:=hSw.2
   (try dsimp only at hSX)
   have hS1:=hx110.trans hSX
   have hSS:=Ext.refl w'
   go_simp
   try with_reducible rfl
  try simp only [Act.put,zA,zB,zC]
  refine takeU 4 (v:=?_) rfl (by kernel_rfl) (by kernel_rfl) (by kernel_rfl) (by kernel_rfl) (by kernel_rfl) (fun _ _ _ h=>h) (by decide) (Or.inl ⟨by rfl,?_⟩) hHeld.1 hHeld.2 ?_
  rotate_left
  ·intro w' hSw
   have hSX:=hSw.2
   (try dsimp only at hSX)
   have hS1:=hx110.trans hSX
   have hSS:=Ext.refl w'
   go_simp
   try with_reducible rfl
  try simp only [Act.put,zA,zB,zC]
  refine takeU 5 (v:=?_) rfl (by kernel_rfl) (by kernel_rfl) (by kernel_rfl) (by kernel_rfl) (by kernel_rfl) (fun _ _ _ h=>h) (by decide) (Or.inl ⟨by rfl,?_⟩) hHeld.1 hHeld.2 ?_
  rotate_left
  ·intro w' hSw
   have hSX:=hSw.2
   (try dsimp only at hSX)
   have hS1:=hx110.trans hSX
   have hSS:=Ext.refl w'
   go_simp
   try with_reducible rfl
  try simp only [Act.put,zA,zB,zC]
  refine takeU 6 (v:=?_) rfl (by kernel_rfl) (by kernel_rfl) (by kernel_rfl) (by kernel_rfl) (by kernel_rfl) (fun _ _ _ h=>h) (by decide) (Or.inl ⟨by rfl,?_⟩) hHeld.1 hHeld.2 ?_
  rotate_left
  ·intro w' hSw
   have hSX:=hSw.2
   (try dsimp only at hSX)
   have hS1:=hx110.trans hSX
   have hSS:=Ext.refl w'
   go_simp
   try with_reducible rfl
  try simp only [Act.put,zA,zB,zC]
  refine takeU 7 (v:=?_) rfl (by kernel_rfl) (by kernel_rfl) (by kernel_rfl) (by kernel_rfl) (by kernel_rfl) (fun _ _ _ h=>h) (by decide) (Or.inl ⟨by rfl,?_⟩) hHeld.1 hHeld.2 ?_
  rotate_left
  ·intro w' hSw
   have hSX:=hSw.2
   (try dsimp only at hSX)
   have hS1:=hx110.trans hSX
   have hSS:=Ext.refl w'
   go_simp
   try with_reducible rfl
  try simp only [Act.put,zA,zB,zC]
  refine takeU 8 (v:=?_) rfl (by kernel_rfl) (by kernel_rfl) (by kernel_rfl) (by kernel_rfl) (by kernel_rfl) (fun _ _ _ h=>h) (by decide) (Or.inl ⟨by rfl,?_⟩) hHeld.1 hHeld.2 ?_
  rotate_left
  ·intro w' hSw
   have hSX:=hSw.2
   (try dsimp only at hSX)
   have hS1:=hx110.trans hSX
   have hSS:=Ext.refl w'
   go_simp
   try with_reducible rfl
  try simp only [Act.put,zA,zB,zC]
  refine takeU 9 (v:=?_) rfl (by kernel_rfl) (by kernel_rfl) (by kernel_rfl) (by kernel_rfl) (by kernel_rfl) (fun _ _ _ h=>h) (by decide) (Or.inl ⟨by rfl,?_⟩) hHeld.1 hHeld.2 ?_
  rotate_left
  ·intro w' hSw
   have hSX:=hSw.2
   (try dsimp only at hSX)
   have hS1:=hx110.trans hSX
   have hSS:=Ext.refl w'
   go_simp
   try with_reducible rfl
  try simp only [Act.put,zA,zB,zC]
  refine takeU 10 (v:=?_) rfl (by kernel_rfl) (by kernel_rfl) (by kernel_rfl) (by kernel_rfl) (by kernel_rfl) (fun _ _ _ h=>h) (by decide) (Or.inl ⟨by rfl,?_⟩) hHeld.1 hHeld.2 ?_
  rotate_left
  ·intro w' hSw
   have hSX:=hSw.2
   (try dsimp only at hSX)
   have hS1:=hx110.trans hSX
   have hSS:=Ext.refl w'
   go_simp
   try with_reducible rfl
  try simp only [Act.put,zA,zB,zC]
  refine takeU 11 (v:=?_) rfl (by kernel_rfl) (by kernel_rfl) (by kernel_rfl) (by kernel_rfl) (by kernel_rfl) (fun _ _ _ h=>h) (by decide) (Or.inl ⟨by rfl,?_⟩) hHeld.1 hHeld.2 ?_
  rotate_left
  ·intro w' hSw
   have hSX:=hSw.2
   (try dsimp only at hSX)
   have hS1:=hx110.trans hSX
   have hSS:=Ext.refl w'
   go_simp
   try with_reducible rfl
  try simp only [Act.put,zA,zB,zC]
  refine takeU 12 (v:=?_) rfl (by kernel_rfl) (by kernel_rfl) (by kernel_rfl) (by kernel_rfl) (by kernel_rfl) (fun _ _ _ h=>h) (by decide) (Or.inl ⟨by rfl,?_⟩) hHeld.1 hHeld.2 ?_
  rotate_left
  ·intro w' hSw
   have hSX:=hSw.2
   (try dsimp only at hSX)
   have hS1:=hx110.trans hSX
   have hSS:=Ext.refl w'
   go_simp
   try with_reducible rfl
  try simp only [Act.put,zA,zB,zC]
  refine takeU 13 (v:=?_) rfl (by kernel_rfl) (by kernel_rfl) (by kernel_rfl) (by kernel_rfl) (by kernel_rfl) (fun _ _ _ h=>h) (by decide) (Or.inl ⟨by rfl,?_⟩) hHeld.1 hHeld.2 ?_
  rotate_left
  ·intro w' hSw
   have hSX:=hSw.2
   (try dsimp only at hSX)
   have hS1:=hx110.trans hSX
   have hSS:=Ext.refl w'
   go_simp
   try with_reducible rfl
  try simp only [Act.put,zA,zB,zC]
  refine wpAnyT_ready (rs:=[14]) (by kernel_rfl) (by simp) ?_
  refine AllReadyT.cons rfl (fun K hK=>?_) AllReadyT.nil
  go_simp
  go_at_call 52
  refine hcall.mono ?_
  rintro e w11 ⟨rfl,hx11⟩
  have hx1011:Ext w13 w11:=(Ext.refl w13).drew.trans hx11
  refine hK.out _ _ ⟨trivial,hx1011⟩ (fun hHeld2=>?_)
  clear hK K
  try simp only [Act.put,zA,zB,zC]
  clear hHeld
  have hHeld:=hHeld2
  clear hHeld2
  refine takeU 15 (v:=?_) rfl (by kernel_rfl) (by kernel_rfl) (by kernel_rfl) (by kernel_rfl) (by kernel_rfl) (fun _ _ _ h=>h) (by decide) (Or.inl ⟨by rfl,?_⟩) hHeld.1 hHeld.2 ?_
  rotate_left
  ·intro w' hSw
   have hSX:=hSw.2
   (try dsimp only at hSX)
   have hS1:=hx110.trans hSX
   have hSS:=Ext.refl w'
   go_simp
   try with_reducible rfl
  try simp only [Act.put,zA,zB,zC]
  refine takeU 16 (v:=?_) rfl (by kernel_rfl) (by kernel_rfl) (by kernel_rfl) (by kernel_rfl) (by kernel_rfl) (fun _ _ _ h=>h) (by decide) (Or.inl ⟨by rfl,?_⟩) hHeld.1 hHeld.2 ?_
  rotate_left
  ·intro w' hSw
   have hSX:=hSw.2
   (try dsimp only at hSX)
   have hS1:=hx110.trans hSX
   have hSS:=Ext.refl w'
   go_simp
   try with_reducible rfl
  try simp only [Act.put,zA,zB,zC]
  refine wpAnyT_ready (rs:=[17]) (by kernel_rfl) (by simp) ?_
  refine AllReadyT.cons rfl (fun K hK=>?_) AllReadyT.nil
  go_simp
  refine hK.out _ _ ⟨trivial,hx1011.alloc' _⟩ (fun hHeld3=>?_)
  clear hK K
  try simp only [Act.put,zA,zB,zC]
  clear hHeld
  have HIa:=Lib.hid (HJ.out.ext (hx1011.alloc' (.cells #[.int .i64 3,.int .i64 (xp:Nat),.int .i64 fj,.int .i64 tt,.slice none 0 0] 65)))
  obtain ⟨o,s,L',hent,hbk,hupd⟩:=(HIa.out.mp false).entryD (mt:=88) Tryz.underlying88 (zeroEvs _) (evI (yp,yi))
  obtain ⟨ra,rc,hrf⟩:=(HIa.out.rows false (yp,yi)).slice
  obtain ⟨rn,hrn⟩:∃ z,z=(T.toTr.insG N F false (yp,yi) j).length:=⟨_,rfl⟩
  have hrf:nvI (LM2 false) (yp,yi)=.slice ra rn rc:=by rw [hrn];exact hrf
  have hent:(Instr.mapEntry 88 (.map (some b)) (.agg #[.int .i64 (yp:Nat),.int .i64 ((yi:Nat)+1)])).run Tryz.prog (w11.alloc (.cells #[.int .i64 3,.int .i64 (xp:Nat),.int .i64 fj,.int .i64 tt,.slice none 0 0] 65))=.ok (.tuple #[.slice ra rn rc,.int .i64 (s:Nat)]) ((w11.alloc (.cells #[.int .i64 3,.int .i64 (xp:Nat),.int .i64 fj,.int .i64 tt,.slice none 0 0] 65)).putObj b o):=by
   have h1:=hent
   rw [show (lookE (evI (yp,yi)) (LM2 false)).getD (.slice none 0 0)=.slice ra rn rc from hrf] at h1
   exact h1
  have hrn2:rn≤1000:=by
   rw [hrn]
   have h1:=insG_len T.toTr N F false (yp,yi) j
   have h2:=HNL.out.2
   show (T.toTr.insG N F false (yp,yi) j).length≤1000
   omega
  have HRO:=Lib.hid (show Que ((w11.alloc (.cells #[.int .i64 3,.int .i64 (xp:Nat),.int .i64 fj,.int .i64 tt,.slice none 0 0] 65)).putObj b o) w8.heap.size 5 (.slice ra rn rc) rn (insCells (T.toTr.insG N F false (yp,yi) j)) from by
   have h1:Que _ _ 5 _ (T.toTr.insG N F false (yp,yi) j).length (insCells (T.toTr.insG N F false (yp,yi) j)):=HIa.out.row false (yp,yi) o
   rw [hrf,←hrn] at h1
   exact h1)
  have hbm:=(HIa.out.hb false).2
  have hbk8:=HJ.out.kx
  have hle11:=hx1011.le
  have hbM:bmF b false=b:=rfl
  rw [hbM] at hbm
  have HSR:=Lib.hid (((RowM.new w11 [.int .i64 3,.int .i64 (xp:Nat),.int .i64 fj,.int .i64 tt,.slice none 0 0] 65 5 rfl).same (w':=(w11.alloc (.cells #[.int .i64 3,.int .i64 (xp:Nat),.int .i64 fj,.int .i64 tt,.slice none 0 0] 65)).putObj b o) (by simp) (fun _=>World.putObj_heap_other (by show w11.heap.size≠b;omega))).src (P:=Tryz.prog) Tryz.underlying60 (by intro u hu;simp at hu;rcases hu with rfl | rfl | rfl | rfl | rfl <;> rfl))
  have hsw:((w11.alloc (.cells #[.int .i64 3,.int .i64 (xp:Nat),.int .i64 fj,.int .i64 tt,.slice none 0 0] 65)).putObj b o).heap.size=w11.heap.size+1:=by simp
  have HRN:=Lib.hid hrn
  have HRF:=Lib.hid hrf
  clear hrn hrf
  refine wpAnyT_ready (rs:=[18]) (by kernel_rfl) (by simp) ?_
  refine AllReadyT.late rfl (by decide) (fun K hK=>?_) AllReadyT.nil
  go_simp
  refine hK.out _ _ trivial (fun hHeld4=>?_)
  clear hK K
  try simp only [Act.put,zA,zB,zC]
  refine wpAnyT_late (fun _=>True) (fun _ _=>trivial) 18 (by decide) _ _ _ _ (by kernel_rfl) ?_
  have hHeld:True∧True:=⟨trivial,trivial⟩
  refine takeS 19 (v:=?_) rfl (by kernel_rfl) (by kernel_rfl) (by kernel_rfl) (fun _ _ _ h=>h) (by decide) (Or.inl ⟨by rfl,?_⟩) hHeld.1 hHeld.2 ?_
  rotate_left
  ·intro w' hSw
   skip
   have hSS:=Ext.refl w'
   go_simp
   try with_reducible rfl
  try simp only [Act.put,zA,zB,zC]
  refine takeS 21 (v:=?_) rfl (by kernel_rfl) (by kernel_rfl) (by kernel_rfl) (fun _ _ _ h=>h) (by decide) (Or.inl ⟨by rfl,?_⟩) hHeld.1 hHeld.2 ?_
  rotate_left
  ·intro w' hSw
   skip
   have hSS:=Ext.refl w'
   go_simp
   try with_reducible rfl
  try simp only [Act.put,zA,zB,zC]
  refine wpAnyT_ready (rs:=[20]) (by kernel_rfl) (by simp) ?_
  refine AllReadyT.cons rfl (fun K hK=>?_) AllReadyT.nil
  refine step_append_que _ rfl _ _ 60 60 rfl (base:=w8.heap.size) (e:=65) (size:=5) ei (.agg #[.int .i64 0,.int .i64 0,.int .i64 0,.int .i64 0,.slice none 0 0]) 56 Tryz.underlying60 hei hez0 hez1 hez2 rfl (v:=.slice ra rn rc) (n:=rn) (xs:=insCells (T.toTr.insG N F false (yp,yi) j)) rfl HRO.out (by rw [hsw];omega) (.slice (some ⟨w11.heap.size,0,none⟩) 1 1) 1 [.int .i64 3,.int .i64 (xp:Nat),.int .i64 fj,.int .i64 tt,.slice none 0 0] rfl HSR.out (by unfold maxLen;omega) (by omega) ?_
  intro v12 w12 hq hg hat
  obtain ⟨o2,hst,hI2,hkp,hsz⟩:=HIa.out.done (mt:=88) (G':=(fun c z=>T.toTr.insG N F c z (j+1))) false (yp,yi) hbk hupd hq (by rw [HRF.out];exact hg) (by rw [HRF.out];exact hat) (Nat.succ_pos _) (by
   show rn+1=(T.toTr.insG N F false (yp,yi) (j+1)).length
   rw [insG_f HNJ.out,List.length_append,HRN.out];rfl) (by
   show _=insCells (T.toTr.insG N F false (yp,yi) (j+1))
   rw [insG_f HNJ.out,insCells_snoc,←HFJ2.out,←HTT.out]) (fun d z hne=>by
   cases d
   ·(exact insG_n HNJ.out false fun e=>hne (by rw [←e];rfl))
   ·rfl)
  simp only [goInt] at hst
  have hst:(Instr.entryStore 88 (.map (some b)) (.int .i64 (s:Nat)) v12).run Tryz.prog w12=.ok () (w12.putObj b o2):=hst
  have HI2:=Lib.hid (show ApI w4 w8 (bmF b) _ ((fun c z=>T.toTr.insG N F c z (j+1))) (w12.putObj b o2) from hI2)
  have HKP:=Lib.hid (show ∀ g,g<(w11.alloc (.cells #[.int .i64 3,.int .i64 (xp:Nat),.int .i64 fj,.int .i64 tt,.slice none 0 0] 65)).heap.size→g≠b→(nvI (LM2 false) (yp,yi)).ownBlock≠some g→(w12.putObj b o2).heap[g]?=(w11.alloc (.cells #[.int .i64 3,.int .i64 (xp:Nat),.int .i64 fj,.int .i64 tt,.slice none 0 0] 65)).heap[g]? from hkp)
  have hsz13:(w11.alloc (.cells #[.int .i64 3,.int .i64 (xp:Nat),.int .i64 fj,.int .i64 tt,.slice none 0 0] 65)).heap.size≤(w12.putObj b o2).heap.size:=hsz
  have HX11:=Lib.hid (hx1011.alloc' (.cells #[.int .i64 3,.int .i64 (xp:Nat),.int .i64 fj,.int .i64 tt,.slice none 0 0] 65))
  clear hI2 hkp hsz hq hg hat hent hbk hupd
  refine hK.out _ _ ⟨trivial,trivial⟩ (fun hHeld6=>?_)
  clear hK K
  try simp only [Act.put]
  refine wpAnyT_ready (rs:=[22]) (by kernel_rfl) (by simp) ?_
  refine AllReadyT.cons rfl (fun K hK=>?_) AllReadyT.nil
  go_simp
  refine hK.out _ _ ⟨trivial,trivial⟩ (fun hHeld7=>?_)
  clear hK K
  refine wpAnyT_done (by kernel_rfl) ?_ _
  clear hst hHeld hHeld3 hHeld4 hHeld6 hHeld7 hcall hfl hx11
  try simp only [World.size_alloc] at hsz13
  generalize w12.putObj b o2=w14 at HI2 HKP hsz13 ⊢
  obtain ⟨LM3,hLM3⟩:∃ z,z=setB false (updE (evI (yp,yi)) v12 (LM2 false)) LM2:=⟨_,rfl⟩
  rw [←hLM3] at HI2
  have hnn1:=HNL.out.2
  go_wp2_with fail
  go_roundg (nn - (j+1))
  case rel=>exact ⟨j+1,LM3,by omega,by omega,rfl,by go_num,HI2.out⟩
  case measure=>omega
end Go.Proofs.YtkhgpockmaghjaaGreat
