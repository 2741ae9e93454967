/- Contracts and laws in plain Lean for RApp: group W79. -/
import Derived.Test.YtkhgpockmaghjaaGreatW78
import Derived.Test.YtkhgpockmaghjaaGreatW72
import Derived.Test.YtkhgpockmaghjaaGreatW54
import Derived.Test.YtkhgpockmaghjaaGreatW69
namespace Go.Proofs.YtkhgpockmaghjaaGreat
open Go.RowKit Go.Shelf
attribute [local go_sem] Oper.semAt_some
theorem queSyD {w : World} {base n : Nat} {v : Value} {N : List Syn} (h : Que w base 4 v n (synCells N)) (hn : n = N.length) (hl : n ≤ 1000) (ho : ∀ s, s ∈ N → okI s.1.1 ∧ okI s.1.2 ∧ okI s.2.1 ∧ okI s.2.2) :
    ∃ D:SyD,v=.slice D.s.a D.s.n D.s.c∧D.At w∧D.l=N:=by
 obtain ⟨s,rfl,e,hM,_⟩:=RowM.que h (by omega)
 have hN:∀ i (hi:i<s.n),∃ h:i<N.length,N.getD i ((0,0),(0,0))=N[i]:=fun i hi=>⟨by omega,by rw [List.getD_eq_getElem?_getD,List.getElem?_eq_getElem (by omega)];rfl⟩
 have hM':RowM w s 4 (N.flatMap fun s=>[.int .i64 s.1.1,.int .i64 s.1.2,.int .i64 s.2.1,.int .i64 s.2.2]):=hM
 have get:∀ i,i<s.n→N[i]?=some (N.getD i ((0,0),(0,0))):=fun i hi=>by
  obtain ⟨h1,h2⟩:=hN i hi
  rw [h2,List.getElem?_eq_getElem h1]
 refine ⟨⟨s,fun i=>(N.getD i ((0,0),(0,0))).1,fun i=>(N.getD i ((0,0),(0,0))).2⟩,rfl,⟨hM.hn,hM.ha,hM.hb,fun i hi=>?_,fun i hi=>?_,fun i hi=>?_,fun i hi=>?_,fun i hi=>?_,hM.hc⟩,?_⟩
 ·exact hM'.flat (r:=0) (fun _=>rfl) (get i hi) rfl
 ·exact hM'.flat (r:=1) (fun _=>rfl) (get i hi) rfl
 ·exact hM'.flat (r:=2) (fun _=>rfl) (get i hi) rfl
 ·exact hM'.flat (r:=3) (fun _=>rfl) (get i hi) rfl
 ·obtain ⟨h1,h2⟩:=hN i hi
  have h3:=ho _ (List.getElem_mem h1)
  have h4:okI (N.getD i ((0,0),(0,0))).1.1∧okI (N.getD i ((0,0),(0,0))).1.2∧okI (N.getD i ((0,0),(0,0))).2.1∧okI (N.getD i ((0,0),(0,0))).2.2:=by rw [h2];exact h3
  exact h4
 ·refine List.ext_getElem (by rw [SyD.len];show s.n=_;omega) fun i h1 h2=>?_
  have hi:i<s.n:=by rw [SyD.len] at h1;exact h1
  obtain ⟨h3,h4⟩:=hN i hi
  have h5:=SyD.get (⟨s,fun i=>(N.getD i ((0,0),(0,0))).1,fun i=>(N.getD i ((0,0),(0,0))).2⟩:SyD) hi
  rw [List.getElem?_eq_getElem h1] at h5
  rw [Option.some.inj h5]
  show ((N.getD i ((0,0),(0,0))).1,(N.getD i ((0,0),(0,0))).2)=_
  rw [h4]
theorem synOkI {T:Tr} (hn:T.n≤1000) (he:∀ p,p<T.n→T.en p≤1000) {L:List Syn} (h:SynOk T L):∀ s,s∈L→okI s.1.1∧okI s.1.2∧okI s.2.1∧okI s.2.2:=fun s hs=>by
 obtain ⟨⟨h1,h2,h3,h4⟩,⟨h5,h6,h7,h8⟩⟩:=h s hs
 have e1:=he s.1.1.toNat (by omega)
 have e2:=he s.2.1.toNat (by omega)
 exact ⟨⟨by omega,by omega⟩,⟨by omega,by omega⟩,⟨by omega,by omega⟩,⟨by omega,by omega⟩⟩
theorem pathN_trans {G:NN→List NN} {y z:NN} (h2:Path G y z):∀ {n:Nat} {x:NN},PathN G n x y→Path G x z
 | 0,_,h => Path.cons h h2
 | _+1,_,⟨_,hu,h⟩ => Path.cons hu (pathN_trans h2 h)
theorem nref_iff {T : Tr} {L : List Syn} (hV : T.Valid) (hL : SynOk T L) (hA : T.NoCyc L) {k : Nat} {x y : NN} (hx : T.V x) (hy : T.V y) (hk : L[k]? = some (evI x, evI y)) :
    T.Ndd L k↔(evI x,evI y)∉T.ndL L k∧y∉T.fw x∧¬ ∃ z,T.V z∧Path (T.gr L) x z∧Path (T.gr L) z y:=by
 have key:(¬Rch (T.gr L) ((T.gr L x).filter fun z=>!decide (z=y)) y)↔¬ ∃ z,T.V z∧Path (T.gr L) x z∧Path (T.gr L) z y:=by
  refine not_congr ⟨?_,?_⟩
  ·rintro ⟨u,hu,h⟩
   rw [List.mem_filter] at hu
   have hne:u≠y:=by simpa using hu.2
   exact ⟨u,gr_V hV hL hx hu.1,Path.one hu.1,h.resolve_left hne⟩
  ·rintro ⟨z,hz,⟨n,h1⟩,h2⟩
   have huy:∃ u,u∈T.gr L x∧Path (T.gr L) u y:=by
    cases n with
    | zero => exact ⟨z,h1,h2⟩
    | succ n => obtain ⟨u,hu,h1⟩:=h1;exact ⟨u,hu,pathN_trans h2 h1⟩
   obtain ⟨u,hu,hp⟩:=huy
   have hne:u≠y:=fun e=>hA y hy (by rw [e] at hp;exact hp)
   exact ⟨u,List.mem_filter.2 ⟨hu,by simpa using hne⟩,.inr hp⟩
 rw [ndd_iff hk,key]
 constructor
 ·rintro ⟨h1,h2,h3⟩
  refine ⟨fun h=>h3 ?_,h1,h2⟩
  obtain ⟨j,h4,_,h5⟩:=mem_ndL.1 h
  obtain ⟨hj,e⟩:=List.getElem?_eq_some_iff.1 h5
  exact List.mem_take_iff_getElem.2 ⟨j,by omega,e⟩
 ·rintro ⟨h1,h2,h3⟩
  refine ⟨h2,h3,fun h=>h1 ?_⟩
  have first:∀ (j:Nat),j≤k→(evI x,evI y)∈L.take j→∃ i,i<j∧L[i]?=some (evI x,evI y)∧(evI x,evI y)∉L.take i:=by
   intro j
   induction j with
   | zero => intro _ h;simp at h
   | succ j ih =>
    intro hj h
    by_cases e:(evI x,evI y)∈L.take j
    ·obtain ⟨i,h4,h5⟩:=ih (by omega) e;exact ⟨i,by omega,h5⟩
    ·obtain ⟨i,hi,e2⟩:=List.mem_take_iff_getElem.1 h
     have hij:i=j:=Classical.byContradiction fun hne=>e (List.mem_take_iff_getElem.2 ⟨i,by omega,e2⟩)
     subst hij
     exact ⟨i,Nat.lt_succ_self _,List.getElem?_eq_some_iff.2 ⟨by omega,e2⟩,e⟩
  obtain ⟨i,h4,h5,h6⟩:=first k (Nat.le_refl _) h
  exact mem_ndL.2 ⟨i,h4,(ndd_iff h5).2 ⟨h2,key.2 h3,h6⟩,h5⟩
set_option maxRecDepth 100000 in
set_option maxHeartbeats 4000000 in
theorem rneeded_any (w : World) (T : TM) (hT : T.At w) (hV : T.toTr.Valid) (D : SyD) (hD : D.At w) (hL : SynOk T.toTr D.l) (hDn : D.s.n ≤ 1000) (hA : T.toTr.NoCyc D.l) :
    Calls Tryz.prog 17 #[T.val,.slice D.s.a D.s.n D.s.c] w fun e w'=>Ext w w'∧∃ v,e=.returned v∧Que w' w.heap.size 4 v (T.toTr.ndL D.l D.s.n).length (synCells (T.toTr.ndL D.l D.s.n)):=by
 obtain ⟨j0,hj0,hy0,hy1,hy2⟩:=info_parts infoSyn
 have hn8:=hV.n8
 have HTB:=Lib.hid (fun W (h:Ext w W)=>rtable_any W T (hT.ext h) hV D (hD.ext h) hL)
 have HDI:=Lib.hid (fun W (h:Ext w W) xp xi yp yi hx hy=>rdirect13_any W T (hT.ext h) xp xi yp yi hx hy)
 have HNU:=Lib.hid (fun W (h:Ext w W) p i (hx:T.toTr.V (p,i))=>rnumber13_any W T (hT.ext h) (by omega) (fun k hk=>by have:=hV.en64 hk;omega) p i hx)
 have HV:=Lib.hid hV
 have HD:=Lib.hid hD
 have HL:=Lib.hid hL
 have HA:=Lib.hid hA
 have hdc:=hD.hc
 obtain ⟨ta,hta⟩:∃ z,z=T.a:=⟨_,rfl⟩
 obtain ⟨da,hda⟩:∃ z,z=D.s.a:=⟨_,rfl⟩
 obtain ⟨dn,hdn⟩:∃ z,z=D.s.n:=⟨_,rfl⟩
 obtain ⟨dc,hdc2⟩:∃ z,z=D.s.c:=⟨_,rfl⟩
 simp only [TM.val,←hta] at HTB HDI HNU ⊢
 rw [←hda,←hdn,←hdc2] at HTB
 rw [←hda,←hdn,←hdc2]
 rw [←hdn] at hDn hdc
 rw [←hdc2] at hdc
 have HDA:=Lib.hid (And.intro hda (And.intro hdn hdc2))
 clear hT hV hD hL hA hta hda hdn hdc2
 go_enter Tryz.func17,Tryz.ntmps17
 go_upto_region 1 with fail
 refine boxed1 (w:=w) (G:=fun x=>Code.wp _ _ _ _ x) ?_
 intro w1 hx1 hs1 ⟨l0,c0,_,_⟩
 have hx11:Ext w1 w1:=Ext.refl _
 clear hs1
 go_wp2_with fail
 go_at_call 56
 refine (HTB.out w1 hx1).mono ?_
 rintro e w2 ⟨hx2,g,rb,f,rfl,hB,hf⟩
 obtain ⟨n,hn⟩:∃ z,z=tot T.en T.n:=⟨_,rfl⟩
 rw [←hn] at hB hf
 rw [←hn]
 have HN:=Lib.hid hn
 have HB:=Lib.hid hB
 have HF:=Lib.hid hf
 have hxw2:=hx1.trans hx2
 clear hB hf hn
 have hnl:n≤512:=by
  rw [HN.out]
  have htl:∀ q,q≤T.n→tot T.en q≤64*q:=fun q=>by
   induction q with
   | zero => intro _;exact Nat.le_refl _
   | succ q ih =>
    intro h
    have:=ih (by omega)
    have:=HV.out.en64 (show q<T.n by omega)
    rw [totR_succ];omega
  have:=htl T.n (Nat.le_refl _)
  omega
 have HI0:=Lib.hid (show NdI T.toTr D.l w2 0 (.slice none 0 0) w2 from ⟨Ext.refl _,Que.nil _ _ _⟩)
 go_wp2_with fail
 go_loopg [6,7] dn (fun gg v6 v7 wr=>∃ k:Nat,k≤dn∧gg=dn - k∧v7=.int .i64 k∧NdI T.toTr D.l w2 k v6 wr)
 case atStart=>exact ⟨0,by omega,rfl,rfl,HI0.out⟩
 case round=>
  obtain ⟨k,hk,rfl,rfl,hI⟩:=hrel
  have hx2r:=hI.x
  have hx1r:=hx2.trans hx2r
  have hxwr:=hx1.trans hx1r
  have hkk:(T.toTr.ndL D.l k).length≤1000:=by have:=ndL_len T.toTr D.l k;omega
  obtain ⟨O,rfl,hO,hOl⟩:=queSyD hI.q rfl hkk (fun s hs=>synOkI (by omega) (fun p hp=>by have:=HV.out.en64 hp;omega) HL.out s (ndL_sub hs))
  have hOn:O.s.n=(T.toTr.ndL D.l k).length:=by rw [←SyD.len,hOl]
  have HO:=Lib.hid hO
  have HON:=Lib.hid (And.intro hOn hOl)
  obtain ⟨oa,hoa⟩:∃ z,z=O.s.a:=⟨_,rfl⟩
  obtain ⟨on,hon⟩:∃ z,z=O.s.n:=⟨_,rfl⟩
  obtain ⟨oc,hoc⟩:∃ z,z=O.s.c:=⟨_,rfl⟩
  have HOA:=Lib.hid (And.intro hoa (And.intro hon hoc))
  rw [←hoa,←hon,←hoc] at hI ⊢
  have hon1:on≤1000:=by rw [hon,hOn];exact hkk
  have HI:=Lib.hid hI
  clear hI HI0 hO hOl hOn hkk hoa hon hoc
  by_cases hlt:k<dn
  case neg=>
   obtain rfl:k=dn:=by omega
   go_wp2_with fail
   go_ret
   exact ⟨hxwr,_,rfl,HI.out.q.mono hxw2.le⟩
  have hlt':(k:Int)<(dn:Int):=by omega
  have hltD:k<D.s.n:=by rw [←HDA.out.2.1];exact hlt
  obtain rfl:da=some ⟨D.s.b,D.s.o,none⟩:=by rw [HDA.out.1];exact HD.out.ha (by omega)
  have pb:∀ w',Ext w w'→D.s.b<w'.heap.size:=fun w' y=>Nat.lt_of_lt_of_le (HD.out.hb (by omega)) y.le
  have hgk:=D.get hltD
  obtain ⟨x,y,hxV,hyV,hxy⟩:=HL.out.nn (List.mem_of_getElem? hgk)
  have hDX:D.x k=evI x∧D.y k=evI y:=by
   have h1:(D.x k,D.y k)=(evI x,evI y):=hxy
   exact Prod.mk.inj h1
  obtain ⟨xp,xi⟩:=x
  obtain ⟨yp,yi⟩:=y
  have s0:∀ w',Ext w w'→w'.cell? ⟨D.s.b,D.s.o+k*4,none⟩=some (.int .i64 (xp:Int)):=fun w' h=>by rw [h.cell (HD.out.c0 k hltD),hDX.1]
  have s1:∀ w',Ext w w'→w'.cell? ⟨D.s.b,D.s.o+k*4+1,none⟩=some (.int .i64 ((xi:Int)+1)):=fun w' h=>by rw [h.cell (HD.out.c1 k hltD),hDX.1]
  have s2:∀ w',Ext w w'→w'.cell? ⟨D.s.b,D.s.o+k*4+2,none⟩=some (.int .i64 (yp:Int)):=fun w' h=>by rw [h.cell (HD.out.c2 k hltD),hDX.2]
  have s3:∀ w',Ext w w'→w'.cell? ⟨D.s.b,D.s.o+k*4+3,none⟩=some (.int .i64 ((yi:Int)+1)):=fun w' h=>by rw [h.cell (HD.out.c3 k hltD),hDX.2]
  have hGG:D.l[k]?=some (evI (xp,xi),evI (yp,yi)):=by rw [hgk];exact congrArg some hxy
  have HG:=Lib.hid hGG
  have HNR:=Lib.hid (nref_iff HV.out HL.out HA.out hxV hyV hGG)
  obtain ⟨bh,hbh⟩:=exists_bool ((evI (xp,xi),evI (yp,yi))∈O.l)
  obtain ⟨bd,hbd⟩:=exists_bool (DirP T.toTr (xp,xi) (yp,yi))
  have hHS:=fun W (h:Ext wr W)=>(show Calls Tryz.prog 58 #[.slice oa on oc,.agg #[.int .i64 (xp:Nat),.int .i64 ((xi:Nat)+1),.int .i64 (yp:Nat),.int .i64 ((yi:Nat)+1)]] W (fun e w'=>e=.returned (.bool bh)∧Ext W w') from by
   have h1:=rhas_any W O (HO.out.ext h) (evI (xp,xi),evI (yp,yi))
   rw [←HOA.out.1,←HOA.out.2.1,←HOA.out.2.2] at h1
   exact bool_fix h1 hbh)
  have hDI:=fun W (h:Ext w W)=>bool_fix (HDI.out W h xp xi yp yi hxV hyV) hbd
  have hN1:=fun W (h:Ext w W)=>HNU.out W h xp xi hxV
  have hN2:=fun W (h:Ext w W)=>HNU.out W h yp yi hyV
  have HBH:=Lib.hid (show bh=true↔(evI (xp,xi),evI (yp,yi))∈T.toTr.ndL D.l k from by rw [hbh,HON.out.2])
  have HBD:=Lib.hid (show bd=true↔(yp,yi)∈T.toTr.fw (xp,xi) from by rw [hbd,dirP_fw HV.out hxV hyV])
  have HXV:=Lib.hid (And.intro hxV hyV)
  have hg0:∀ d os,Ext w (Sort.grow (redrawn wr d) os):=fun d os=>hxwr.trans (below_regrown wr d os)
  have hg1:∀ d os,Ext w1 (Sort.grow (redrawn wr d) os):=fun d os=>hx1r.trans (below_regrown wr d os)
  have hgr:∀ d os,Ext wr (Sort.grow (redrawn wr d) os):=fun d os=>below_regrown wr d os
  clear hgk hDX hxy hxV hyV hGG hbh hbd
  cases bh with
  | true =>
   have HNN:=Lib.hid (show ¬T.toTr.Ndd D.l k from fun h=>(HNR.out.1 h).1 (HBH.out.1 rfl))
   go_upto_region 6 with fail
   refine wp_region_quiet_below (by kernel_rfl) (by kernel_rfl) ?_
   repeat (go_big_quiet_step (fail))
   go_big_quiet_step (exact Calls.regrown_of (hHS _ (hgr _ _)))
   repeat (go_big_quiet_step (fail))
   refine wpQuiet_nil ?_
   intro _ hw'
   obtain ⟨⟨dq,osq⟩,hw''⟩:=hw'
   subst hw''
   have hxr5:=hgr dq osq
   have hxw5:=hg0 dq osq
   have hx15:=hg1 dq osq
   clear hg0 hgr hg1
   generalize Sort.grow (redrawn wr dq) osq=w5 at hxr5 hxw5 hx15 ⊢
   have HSK:=Lib.hid ((HI.out.ext hxr5).skip HNN.out)
   go_wp2_with fail
   go_roundg (dn - (k+1))
   case rel=>exact ⟨k+1,by omega,rfl,by go_num,HSK.out⟩
   case measure=>omega
  | false =>
  cases bd with
  | true =>
   have HNN:=Lib.hid (show ¬T.toTr.Ndd D.l k from fun h=>(HNR.out.1 h).2.1 (HBD.out.1 rfl))
   go_upto_region 6 with fail
   refine wp_region_quiet_below (by kernel_rfl) (by kernel_rfl) ?_
   repeat (go_big_quiet_step (fail))
   go_big_quiet_step (exact Calls.regrown_of (hHS _ (hgr _ _)))
   repeat (go_big_quiet_step (fail))
   go_big_quiet_step (exact Calls.regrown_of (hDI _ (hg0 _ _)))
   repeat (go_big_quiet_step (fail))
   refine wpQuiet_nil ?_
   intro _ hw'
   obtain ⟨⟨dq,osq⟩,hw''⟩:=hw'
   subst hw''
   have hxr5:=hgr dq osq
   have hxw5:=hg0 dq osq
   have hx15:=hg1 dq osq
   clear hg0 hgr hg1
   generalize Sort.grow (redrawn wr dq) osq=w5 at hxr5 hxw5 hx15 ⊢
   have HSK:=Lib.hid ((HI.out.ext hxr5).skip HNN.out)
   go_wp2_with fail
   go_roundg (dn - (k+1))
   case rel=>exact ⟨k+1,by omega,rfl,by go_num,HSK.out⟩
   case measure=>omega
  | false =>
  go_upto_region 6 with fail
  refine wp_region_quiet_below (by kernel_rfl) (by kernel_rfl) ?_
  repeat (go_big_quiet_step (fail))
  go_big_quiet_step (exact Calls.regrown_of (hHS _ (hgr _ _)))
  repeat (go_big_quiet_step (fail))
  go_big_quiet_step (exact Calls.regrown_of (hDI _ (hg0 _ _)))
  repeat (go_big_quiet_step (fail))
  refine wpQuiet_nil ?_
  intro _ hw'
  obtain ⟨⟨dq,osq⟩,hw''⟩:=hw'
  subst hw''
  have hxr5:=hgr dq osq
  have hxw5:=hg0 dq osq
  have hx15:=hg1 dq osq
  clear hg0 hgr hg1
  generalize Sort.grow (redrawn wr dq) osq=w5 at hxr5 hxw5 hx15 ⊢
  have HYN:=Lib.hid (And.intro (show (evI (xp,xi),evI (yp,yi))∉T.toTr.ndL D.l k from fun h=>absurd (HBH.out.2 h) (by decide)) (show (yp,yi)∉T.toTr.fw (xp,xi) from fun h=>absurd (HBD.out.2 h) (by decide)))
  obtain ⟨ka,hka⟩:∃ z,z=numE T.toTr (xp,xi):=⟨_,rfl⟩
  obtain ⟨kc,hkc⟩:∃ z,z=numE T.toTr (yp,yi):=⟨_,rfl⟩
  rw [←hka] at hN1
  rw [←hkc] at hN2
  have hkan:ka<n:=by rw [hka,HN.out];exact numE_lt HXV.out.1
  have hkcn:kc<n:=by rw [hkc,HN.out];exact numE_lt HXV.out.2
  have HWY:=Lib.hid (show (∃ z,z<n∧f ka z=true∧f z kc=true)↔∃ z,T.toTr.V z∧Path (T.toTr.gr D.l) (xp,xi) z∧Path (T.toTr.gr D.l) z (yp,yi) from by
   have hw:∀ x y,T.toTr.V x→T.toTr.V y→(f (numE T.toTr x) (numE T.toTr y)=true↔Path (T.toTr.gr D.l) x y):=fun x y hx hy=>by
    rw [HF.out _ _ (by rw [HN.out];exact numE_lt hx) (by rw [HN.out];exact numE_lt hy),warS_iff (D:=T.toTr.DN D.l) (n:=n) (fun a c h=>by rw [HN.out];exact dn_lt h),way_iff HV.out HL.out hx hy]
   rw [hka,hkc]
   constructor
   ·rintro ⟨z,hz,h1,h2⟩
    obtain ⟨u,hu,e⟩:=numE_ex (T:=T.toTr) (k:=z) (Nat.le_refl _) (by rw [←HN.out];exact hz)
    rw [←e] at h1 h2
    exact ⟨u,hu,(hw _ _ HXV.out.1 hu).1 h1,(hw _ _ hu HXV.out.2).1 h2⟩
   ·rintro ⟨u,hu,h1,h2⟩
    exact ⟨numE T.toTr u,by rw [HN.out];exact numE_lt hu,(hw _ _ HXV.out.1 hu).2 h1,(hw _ _ hu HXV.out.2).2 h2⟩)
  have hg0:∀ d os,Ext w (Sort.grow (redrawn w5 d) os):=fun d os=>hxw5.trans (below_regrown w5 d os)
  have hg1:∀ d os,Ext w1 (Sort.grow (redrawn w5 d) os):=fun d os=>hx15.trans (below_regrown w5 d os)
  have hgr:∀ d os,Ext wr (Sort.grow (redrawn w5 d) os):=fun d os=>hxr5.trans (below_regrown w5 d os)
  clear hka hkc hHS hDI
  go_upto_region 7 with fail
  refine wp_region_quiet_below (by kernel_rfl) (by kernel_rfl) ?_
  repeat (go_big_quiet_step (fail))
  go_big_quiet_step (exact Calls.regrown_of (hN1 _ (hg0 _ _)))
  repeat (go_big_quiet_step (fail))
  go_big_quiet_step (exact Calls.regrown_of (hN2 _ (hg0 _ _)))
  repeat (go_big_quiet_step (fail))
  refine wpQuiet_nil ?_
  intro _ hw'
  obtain ⟨⟨dq,osq⟩,hw''⟩:=hw'
  subst hw''
  have hxr6:=hgr dq osq
  have hxw6:=hg0 dq osq
  have hx16:=hg1 dq osq
  clear hg0 hgr hg1 hxr5 hxw5 hx15 hN1 hN2
  generalize Sort.grow (redrawn w5 dq) osq=w6 at hxr6 hxw6 hx16 ⊢
  go_wp2_with fail
  go_loopg [10,11] n (fun gg v10 v11 wq=>∃ (q:Nat) (b:Bool),q≤n∧gg=n - q∧v11=.int .i64 q∧v10=.bool b∧Ext wr wq∧(b=true↔∃ z,z<q∧f ka z=true∧f z kc=true))
  case atStart=>exact ⟨0,false,by omega,rfl,rfl,rfl,hxr6,⟨fun h=>(by cases h),fun ⟨z,h,_⟩=>absurd h (Nat.not_lt_zero _)⟩⟩
  case round=>
   clear hxr6 hxw6 hx16
   rename World=>wq
   obtain ⟨q,b,hq,rfl,rfl,rfl,hxrq,hbq⟩:=hrel
   have HBQ:=Lib.hid hbq
   have hxwq:=hxwr.trans hxrq
   have hx1q:=hx1r.trans hxrq
   clear hbq
   by_cases hlq:q<n
   case neg=>
    obtain rfl:n=q:=by omega
    cases b with
    | true =>
     have HNN:=Lib.hid (show ¬T.toTr.Ndd D.l k from fun h=>(HNR.out.1 h).2.2 (HWY.out.1 (HBQ.out.1 rfl)))
     have HSK:=Lib.hid ((HI.out.ext hxrq).skip HNN.out)
     go_wp2_with fail
     go_roundg (dn - (k+1))
     case rel=>exact ⟨k+1,by omega,rfl,by go_num,HSK.out⟩
     case measure=>omega
    | false =>
     have HNY:=Lib.hid (show T.toTr.Ndd D.l k from HNR.out.2 ⟨HYN.out.1,HYN.out.2,fun h=>absurd (HBQ.out.2 (HWY.out.2 h)) (by decide)⟩)
     have HST:=Lib.hid (ndL_yes HNY.out HG.out)
     have HI9:=Lib.hid (HI.out.ext hxrq)
     have HLN:=Lib.hid (show on=(T.toTr.ndL D.l k).length from by rw [HOA.out.2.1,HON.out.1])
     have hqq:Ext wq wq:=Ext.refl _
     go_upto_region 5 with (at_builtin;refine wpList_append_que _ rfl _ _ 25 25 rfl (base:=w2.heap.size) (e:=81) (size:=4) j0 (.agg #[.int .i64 0,.int .i64 0,.int .i64 0,.int .i64 0]) 32 Tryz.underlying25 hj0 hy0 hy1 hy2 rfl rfl (v:=.slice oa on oc) (n:=on) (xs:=synCells (T.toTr.ndL D.l k)) (by have h1:=(HI9.out.ext (Ext.alloc wq (.cells #[.int .i64 (xp:Int),.int .i64 ((xi:Int)+1),.int .i64 (yp:Int),.int .i64 ((yi:Int)+1)] 81))).q;rw [←HLN.out] at h1;exact h1) (by rw [World.size_alloc];have:=HI9.out.x.le;omega) (.slice (some ⟨wq.heap.size,0,none⟩) 1 1) 1 [.int .i64 (xp:Int),.int .i64 ((xi:Int)+1),.int .i64 (yp:Int),.int .i64 ((yi:Int)+1)] rfl (by exact Src.ofSlice _ Tryz.underlying25 ⟨wq.heap.size,0,none⟩ 1 1 _ rfl (news_ok wq _ _) (by intro u hu;simp at hu;rcases hu with rfl | rfl | rfl | rfl <;> rfl)) (by unfold maxLen;omega) (by omega) ?_;rintro v10 w10 hq10 hg10 -;have H10:=Lib.hid (show NdI T.toTr D.l w2 (k+1) v10 w10 from ⟨Below.grown ((HI9.out.x).trans (Ext.alloc wq (.cells #[.int .i64 (xp:Int),.int .i64 ((xi:Int)+1),.int .i64 (yp:Int),.int .i64 ((yi:Int)+1)] 81))) hg10 (by rw [World.size_alloc];have:=HI9.out.x.le;omega) (fun g e=>by have h1:=HI9.out.q.block g e;omega),by rw [HST.out,synCells_snoc,List.length_append,←HLN.out];exact hq10⟩);clear hq10 hg10)
     go_wp2_with fail
     go_roundg (dn - (k+1))
     case rel=>exact ⟨k+1,by omega,rfl,by go_num,H10.out⟩
     case measure=>omega
   have hlq':(q:Int)<(n:Int):=by omega
   have hBq:=HB.out.ext (hx2r.trans hxrq)
   have hRa:=hBq.row ka hkan
   have hRq:=hBq.row q hlq
   obtain ⟨b1,hb1⟩:∃ z,z=f ka q:=⟨_,rfl⟩
   obtain ⟨b2,hb2⟩:∃ z,z=f q kc:=⟨_,rfl⟩
   have HB12:=Lib.hid (And.intro hb1 hb2)
   have hkan':(ka:Int)<(n:Int):=by omega
   have hkcn':(kc:Int)<(n:Int):=by omega
   have cg:∀ w',Ext wq w'→g<w'.heap.size:=fun w' x=>Nat.lt_of_lt_of_le hBq.lt x.le
   have ca:∀ w',Ext wq w'→w'.cell? ⟨g,ka,none⟩=some (.slice (some ⟨rb ka,0,none⟩) n n):=fun w' x=>x.cell (hBq.h1 ka hkan)
   have cq:∀ w',Ext wq w'→w'.cell? ⟨g,q,none⟩=some (.slice (some ⟨rb q,0,none⟩) n n):=fun w' x=>x.cell (hBq.h1 q hlq)
   have ra:∀ w',Ext wq w'→w'.cell? ⟨rb ka,q,none⟩=some (.bool b1):=fun w' x=>by rw [hb1];exact x.cell (hRa.c q hlq)
   have rq:∀ w',Ext wq w'→w'.cell? ⟨rb q,kc,none⟩=some (.bool b2):=fun w' x=>by rw [hb2];exact x.cell (hRq.c kc hkcn)
   have la:∀ w',Ext wq w'→rb ka<w'.heap.size:=fun w' x=>Nat.lt_of_lt_of_le hRa.lt x.le
   have lq:∀ w',Ext wq w'→rb q<w'.heap.size:=fun w' x=>Nat.lt_of_lt_of_le hRq.lt x.le
   have hqq:Ext wq wq:=Ext.refl _
   have HBN:=Lib.hid (show (b || (b1 && b2))=true↔∃ z,z<q+1∧f ka z=true∧f z kc=true from by
    rw [Bool.or_eq_true,Bool.and_eq_true,HBQ.out]
    constructor
    ·rintro (⟨z,hz,h⟩ | ⟨h1,h2⟩)
     ·exact ⟨z,by omega,h⟩
     ·exact ⟨q,by omega,by rw [←hb1];exact h1,by rw [←hb2];exact h2⟩
    ·rintro ⟨z,hz,h1,h2⟩
     by_cases e:z=q
     ·subst e;exact .inr ⟨by rw [hb1];exact h1,by rw [hb2];exact h2⟩
     ·exact .inl ⟨z,by omega,h1,h2⟩)
   clear hBq hRa hRq hb1 hb2
   cases b with
   | true =>
    go_wp2_with fail
    go_roundg (n - (q+1))
    case rel=>exact ⟨q+1,_,by omega,rfl,by go_num,rfl,hxrq,HBN.out⟩
    case measure=>omega
   | false =>
   cases b1 with
   | false =>
    go_wp2_with fail
    go_roundg (n - (q+1))
    case rel=>exact ⟨q+1,_,by omega,rfl,by go_num,rfl,hxrq,HBN.out⟩
    case measure=>omega
   | true =>
   cases b2 with
   | false =>
    go_wp2_with fail
    go_roundg (n - (q+1))
    case rel=>exact ⟨q+1,_,by omega,rfl,by go_num,rfl,hxrq,HBN.out⟩
    case measure=>omega
   | true =>
    go_wp2_with fail
    go_roundg (n - (q+1))
    case rel=>exact ⟨q+1,_,by omega,rfl,by go_num,rfl,hxrq,HBN.out⟩
    case measure=>omega
end Go.Proofs.YtkhgpockmaghjaaGreat
