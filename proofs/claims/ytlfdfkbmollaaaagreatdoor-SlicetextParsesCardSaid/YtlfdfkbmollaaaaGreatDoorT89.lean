/- Contracts and laws in plain Lean for RApp: group T89. -/
import Derived.Test.YtlfdfkbmollaaaaGreatDoorT88
import Derived.Test.YtlfdfkbmollaaaaGreatDoorT83
import Derived.Test.YtlfdfkbmollaaaaGreatDoorT86
import Derived.Test.YtlfdfkbmollaaaaGreatDoorT73
import Derived.Test.YtlfdfkbmollaaaaGreatDoorT71
namespace Go.Proofs.YtlfdfkbmollaaaaGreatDoor
open Go.RowKit Go.Shelf
attribute [local go_sem] Oper.semAt_some
def colAt (ws:List (List UInt8)) (k:Nat):Int:=(colsL 1 ws).getD k 0
theorem colsL_get:∀ (ws:List (List UInt8)) (c:Int) (k:Nat),k+1<ws.length→(colsL c ws).getD (k+1) 0=(colsL c ws).getD k 0+(((ws.getD k []).length:Int)+1)
 | [],_,_,h => by simp at h
 | [_],_,_,h => by simp at h
 | w :: v :: ws,c,0,_ => by simp [colsL]
 | w :: v :: ws,c,k+1,h => by
  have ih:=colsL_get (v :: ws) (c+((w.length:Int)+1)) k (by simpa using h)
  rw [colsL,List.getD_cons_succ,List.getD_cons_succ,ih,List.getD_cons_succ]
theorem colAt_succ {ws:List (List UInt8)} {k:Nat} (h:k+1<ws.length):colAt ws (k+1)=colAt ws k+(((ws.getD k []).length:Int)+1):=colsL_get ws 1 k h
theorem Two.cells {w : World} {base : Nat} {va vb : Value} {d : List (List UInt8)} {cd : List Int} (h : Two w base va vb d cd) (hn : 0 < d.length) (hc : cd.length = d.length) :
    ∃ ga oa ca gb ob cb,va=.slice (some ⟨ga,oa,none⟩) d.length ca∧vb=.slice (some ⟨gb,ob,none⟩) d.length cb∧ga<w.heap.size∧gb<w.heap.size∧
     (∀ k,k<d.length→w.cell? ⟨ga,oa+k,none⟩=some (.string (bts (d.getD k []))))∧∀ k,k<d.length→w.cell? ⟨gb,ob+k,none⟩=some (.int .i64 (cd.getD k 0)):=by
 rcases h.a.val with ⟨_,_,h0,_⟩ | ⟨ga,oa,ca,e1,_,l1,_,_,k1,_⟩
 ·omega
 rcases h.b.val with ⟨_,_,h0,_⟩ | ⟨gb,ob,cb,e2,_,l2,_,_,k2,_⟩
 ·omega
 refine ⟨ga,oa,ca,gb,ob,cb,e1,by rw [e2,hc],l1,l2,fun k hk=>?_,fun k hk=>?_⟩
 ·rw [k1 k (by omega)]
  unfold strV
  rw [List.getElem?_map,List.getD_eq_getElem?_getD,List.getElem?_eq_getElem hk];rfl
 ·rw [k2 k (by omega)]
  unfold intCells
  rw [List.getElem?_map,List.getD_eq_getElem?_getD,List.getElem?_eq_getElem (by omega:k<cd.length)];rfl
theorem counts_eq (r : Rdr) (line : List UInt8) (ws : List (List UInt8)) (n : Nat) (first : List UInt8 → Int) {G : List Int × Rdr × Bool} (hG : wordsGo n first ws 0 1 [] r = G) :
    r.counts line ws n first=if G.2.2=true then ([],G.2.1) else (G.1,if G.1.length<n then G.2.1.fail (line.length+1) 3 else G.2.1):=by rw [←hG];rfl
theorem counts_bad {r:Rdr} {line:List UInt8} {ws:List (List UInt8)} {n:Nat} {first:List UInt8→Int} (h:(wordsGo n first ws 0 1 [] r).2.1.e≠0):(r.counts line ws n first).2=(wordsGo n first ws 0 1 [] r).2.1:=by
 rw [counts_eq r line ws n first rfl]
 split
 ·rfl
 ·dsimp only
  split
  ·exact fail_no h
  ·rfl
def LinePost (W:World) (C:List Int × Rdr) (r:Rdr) (n:Nat) (e:Ending) (w':World):Prop:=
 Ext W w'∧∃ (v:Value) (col ec:Int),e=.returned (.tuple #[v,.int .i64 col,.int .i64 ec])∧
  ((ec≠0∧C.2=r.fail col ec)∨(ec=0∧C.2=r∧C.1.length=n∧Nat50 C.1∧Que w' W.heap.size 1 v n (intCells C.1)))
structure LnI (ws:List (List UInt8)) (n:Nat) (first:List UInt8→Int) (r:Rdr) (G:List Int × Rdr × Bool) (k:Nat) (c:List Int):Prop where
 g:∃ col,wordsGo n first (ws.drop k) k col c r=G∧(k<ws.length→col=colAt ws k)
 k1:1≤k
 l:c.length+1=k
 n:c.length≤n
 o:Nat50 c
theorem LnI.start {ws:List (List UInt8)} {n:Nat} {first:List UInt8→Int} {r:Rdr} (h0:r.e=0) (hw:0<ws.length) (hf:first (ws.getD 0 [])=0):LnI ws n first r (wordsGo n first ws 0 1 [] r) 1 []:=by
 refine ⟨⟨1+(((ws.getD 0 []).length:Int)+1),?_,fun h=>?_⟩,Nat.le_refl _,rfl,Nat.zero_le _,Nat50.nil⟩
 ·conv=>rhs;rw [show ws=ws.getD 0 [] :: ws.drop 1 from by have:=drop_getD (ws:=ws) (k:=0) hw;rwa [List.drop_zero] at this]
  rw [wordsGo,if_neg (by simp [h0]),if_pos rfl,if_neg (fun k=>k hf)]
 ·rw [colAt_succ (k:=0) h]
  congr 1
  cases ws with
  | nil => simp at hw
  | cons w ws => rfl
theorem LnI.full {ws:List (List UInt8)} {n k:Nat} {first:List UInt8→Int} {r:Rdr} {G:List Int × Rdr × Bool} {c:List Int} (h:LnI ws n first r G k c) (h0:r.e=0) (hk:k<ws.length) (hn:c.length=n):G.2.1=r.fail (colAt ws k) 3∧G.2.1.e≠0:=by
 obtain ⟨col,h1,h2⟩:=h.g
 have h3:=h.k1
 have h4:=h.l
 rw [drop_getD hk,wordsGo,if_neg (by simp [h0]),if_neg (by omega),if_pos (by omega)] at h1
 rw [←h1,wordsGo_err (by rw [failq_e h0];decide),failq_e h0,h2 hk]
 exact ⟨rfl,by decide⟩
theorem LnI.bad {ws:List (List UInt8)} {n k:Nat} {first:List UInt8→Int} {r:Rdr} {G:List Int × Rdr × Bool} {c:List Int} (h:LnI ws n first r G k c) (h0:r.e=0) (hk:k<ws.length) (hn:c.length≠n) (hd:(decI (ws.getD k [])).2≠0):G.2.1=r.fail (colAt ws k) (decI (ws.getD k [])).2∧G.2.1.e≠0:=by
 obtain ⟨col,h1,h2⟩:=h.g
 have h3:=h.k1
 have h4:=h.l
 have h5:=h.n
 rw [drop_getD hk,wordsGo,if_neg (by simp [h0]),if_neg (by omega),if_neg (by omega),if_pos hd] at h1
 rw [←h1,wordsGo_err (by rw [failq_e h0];exact hd),failq_e h0,h2 hk]
 exact ⟨rfl,hd⟩
theorem LnI.step {ws:List (List UInt8)} {n k:Nat} {first:List UInt8→Int} {r:Rdr} {G:List Int × Rdr × Bool} {c:List Int} (h:LnI ws n first r G k c) (h0:r.e=0) (hk:k<ws.length) (hn:c.length≠n) (hd:(decI (ws.getD k [])).2=0):LnI ws n first r G (k+1) (c++[(decI (ws.getD k [])).1]):=by
 obtain ⟨col,h1,h2⟩:=h.g
 have h3:=h.k1
 have h4:=h.l
 have h5:=h.n
 rw [drop_getD hk,wordsGo,if_neg (by simp [h0]),if_neg (by omega),if_neg (by omega),if_neg (fun k=>k hd)] at h1
 refine ⟨⟨_,h1,fun hk1=>by rw [colAt_succ hk1,h2 hk]⟩,by omega,by rw [List.length_append];simp;omega,by rw [List.length_append];simp;omega,fun x hx=>?_⟩
 rcases List.mem_append.1 hx with hx | hx
 ·exact h.o x hx
 ·rw [List.mem_singleton.1 hx]
  have:=decI_inv hd
  exact ⟨this.1,this.2.1⟩
theorem LnI.fin {ws:List (List UInt8)} {n:Nat} {first:List UInt8→Int} {r:Rdr} {G:List Int × Rdr × Bool} {c:List Int} (h:LnI ws n first r G ws.length c):G=(c,r,false):=by
 obtain ⟨col,h1,_⟩:=h.g
 rw [List.drop_length,wordsGo] at h1
 exact h1.symm
set_option maxRecDepth 100000 in
set_option maxHeartbeats 4000000 in
theorem rline_any (W : World) (T : TM) (hT : T.At W) (l : List UInt8) (hl : l.length ≤ 100000) (fst : List UInt8) (p : Nat) (x : Int) (first : List UInt8 → Int)
    (hF:(fst≠[]∧first=wordE fst)∨(fst=[]∧p<T.n∧(T.name p).size≤1000∧0≤x∧x≤1000∧first=fun w=>titleE w (evN T.toTr ((p:Int),x)))) (r:Rdr) (hr:r.e=0) :
    Calls Tryz.prog 41 #[T.val,.string (bts l),.string (bts fst),.agg #[.int .i64 (p:Int),.int .i64 x]] W (LinePost W (r.counts l (Lib.split l [32]) T.n first) r T.n):=by
 have hTP:=hT.P
 have htn:=hTP.hn
 have HWD:=Lib.hid (fun w=>rwords_any w (bts l) (by rw [bts_size];omega))
 have HNA:=Lib.hid (fun (h:p<T.n∧(T.name p).size≤1000∧0≤x∧x≤1000) w (x':Ext W w) s (hs:ByteArray.size s≤1000000)=>named_any w T (hT.ext x') s hs p x h.1 h.2.1 h.2.2.1 h.2.2.2)
 rw [split_eq]
 obtain ⟨ws,hws⟩:∃ ws,ws=splitC 32 l:=⟨_,rfl⟩
 have HWD2:=Lib.hid (fun w=>show Calls Tryz.prog 96 #[.string (bts l)] w (WordsPost w ws) from by rw [hws];exact HWD.out w)
 have hwl:0<ws.length:=by rw [hws];exact List.length_pos_iff.2 (splitC_ne l)
 have hwin:∀ w∈ws,w.length≤l.length:=fun w hw=>by rw [hws,←split_eq] at hw;exact split_in hw
 have hwm:ws.length≤l.length+1:=by rw [hws,←split_eq];exact split_len 32 l
 rw [←hws]
 unfold LinePost
 obtain ⟨C,hC⟩:∃ C,C=r.counts l ws T.n first:=⟨_,rfl⟩
 obtain ⟨G,hG⟩:∃ G,G=wordsGo T.n first ws 0 1 [] r:=⟨_,rfl⟩
 have HBAD:=Lib.hid (show G.2.1.e≠0→C.2=G.2.1 from fun h=>by rw [hC,hG];rw [hG] at h;exact counts_bad h)
 have HEND:=Lib.hid (show ∀ c,G=(c,r,false)→C=(c,if c.length<T.n then r.fail (l.length+1) 3 else r) from fun c h=>by rw [hC,counts_eq r l ws T.n first hG.symm,h];rfl)
 have HFST:=Lib.hid (show first (ws.getD 0 [])≠0→C.2=r.fail 1 (first (ws.getD 0 [])) from fun h=>by
  have e:G.2.1=r.fail 1 (first (ws.getD 0 [])):=by
   rw [hG]
   conv=>lhs;rw [show ws=ws.getD 0 [] :: ws.drop 1 from by have:=drop_getD (ws:=ws) (k:=0) hwl;rwa [List.drop_zero] at this]
   rw [wordsGo,if_neg (by simp [hr]),if_pos rfl,if_pos h,wordsGo_err (by rw [failq_e hr];exact h)]
  rw [←e]
  exact HBAD.out (by rw [e,failq_e hr];exact h))
 have HST:=Lib.hid (show first (ws.getD 0 [])=0→LnI ws T.n first r G 1 [] from fun h=>by rw [hG];exact LnI.start hr hwl h)
 rw [←hC]
 obtain ⟨w0,hw0⟩:∃ w0,w0=ws.getD 0 []:=⟨_,rfl⟩
 have hw0l:w0.length≤100000:=by
  have:ws.getD 0 []∈ws:=by rw [getD_lt hwl];exact List.getElem_mem _
  rw [hw0];have:=hwin _ this;omega
 rw [←hw0] at HFST HST
 have HR:=Lib.hid hr
 have HWIN:=Lib.hid (show ∀ k,k<ws.length→(ws.getD k []).length≤100000 from fun k hk=>by
  have:ws.getD k []∈ws:=by rw [getD_lt hk];exact List.getElem_mem _
  have:=hwin _ this;omega)
 obtain ⟨i0,hi0,hz0,hz1,hz2⟩:=info_parts infoInt
 have HW0:=Lib.hid hw0
 have HFF:=Lib.hid hF
 simp only [TM.val] at HNA ⊢
 have hzl:=bts_size l
 clear hT hTP hws hC hG hwin hr hw0 hF HWD
 obtain ⟨fe,hfe0⟩:∃ z,(bts fst).toList.isEmpty=z:=⟨_,rfl⟩
 go_enter Tryz.func41,Tryz.ntmps41
 go_upto_region 1 with fail
 refine boxed2 (w:=W) (G:=fun x=>Code.wp _ _ _ _ x) ?_
 intro w1 hx1 hs1 ⟨l0,c0,_,_⟩ ⟨l1,c1,_,_⟩
 have hx11:Ext w1 w1:=Ext.refl _
 clear hs1
 go_upto_region 2 with (go_at_call 96;refine (HWD2.out w1).mono ?_;rintro e w2 ⟨va,vb,rfl,htw,hx12⟩;obtain ⟨ga,oa,ca,gb,ob,cb,rfl,rfl,hga,hgb,hca,hcb⟩:=htw.cells hwl (colsL_len _ _);clear htw)
 have hxw2:=hx1.trans hx12
 have h22:Ext w2 w2:=Ext.refl _
 have HCA:=Lib.hid hca
 have HCB:=Lib.hid hcb
 have gA:∀ w',Ext w2 w'→ga<w'.heap.size:=fun w' e=>Nat.lt_of_lt_of_le hga e.le
 have gB:∀ w',Ext w2 w'→gb<w'.heap.size:=fun w' e=>Nat.lt_of_lt_of_le hgb e.le
 have a0:∀ w',Ext w2 w'→w'.cell? ⟨ga,oa,none⟩=some (.string (bts w0)):=fun w' e=>by rw [HW0.out];exact e.cell (hca 0 hwl)
 obtain ⟨m,hm⟩:∃ m,m=ws.length:=⟨_,rfl⟩
 rw [←hm] at hwl hwm ⊢
 have HM:=Lib.hid hm
 have hmm:m≤100001:=by omega
 have hlw:IntKind.i64.wrap ((l.length:Int)+1)=(l.length:Int)+1:=IntWalk.i64_in _ (by omega)
 clear hca hcb hm hga hgb HWD2 hwm
 go_upto_if 24 with fail
 go_cut [] (fun wx=>Ext w2 wx∧first w0=0)
 case first=>
  rcases HFF.out with ⟨hne,hfe⟩ | ⟨he,hp,hN,h0,h1,hfe⟩
  ·obtain rfl:fe=false:=by rw [←hfe0,bts_isE];cases hff:fst with | nil=>exact absurd hff hne | cons x y=>rfl
   by_cases hw:w0=fst
   ·have d1:((bts w0).toList != (bts fst).toList)=false:=by rw [bts_bne];simp [hw]
    have d2:((bts w0).toList == (bts fst).toList)=true:=by simpa using d1
    have HFE:=Lib.hid (show first w0=0 from by rw [hfe,hw];unfold wordE;rw [if_neg (by simp)])
    clear hw hfe hne
    go_wp2_with fail
    go_meet
    case rel=>exact ⟨Ext.refl _,HFE.out⟩
   ·have d1:((bts w0).toList != (bts fst).toList)=true:=by rw [bts_bne];simp [hw]
    have d2:((bts w0).toList == (bts fst).toList)=false:=by simpa using d1
    have HFE:=Lib.hid (show C.2=r.fail 1 3 from by
     have e:first w0=3:=by rw [hfe];unfold wordE;rw [if_pos hw]
     have h:=HFST.out (by rw [e];decide)
     rwa [e] at h)
    clear hw hfe hne
    go_wp2_with fail
    go_ret3
    exact ⟨hxw2,_,1,3,rfl,.inl ⟨by decide,HFE.out⟩⟩
  ·obtain rfl:fe=true:=by rw [←hfe0,bts_isE,he];rfl
   obtain ⟨ev,hev⟩:∃ ev,ev=first w0:=⟨_,rfl⟩
   have HNC:=Lib.hid (show ∀ w,Ext W w→Calls Tryz.prog 97 #[.agg #[.slice T.a T.n T.cap],.string (bts w0),.agg #[.int .i64 (p:Int),.int .i64 x]] w (fun e w'=>e=.returned (.int .i64 ev)∧Ext w w') from fun w x'=>by
    have h:=HNA.out ⟨hp,hN,h0,h1⟩ w x' (bts w0) (by rw [bts_size];omega)
    rw [show (bts w0).data.toList=w0 from rfl] at h
    rw [hev,hfe]
    exact h)
   have HEV:=Lib.hid hev
   have hgw:∀ d os,Ext W (Sort.grow (redrawn w2 d) os):=fun d os=>hxw2.trans (below_regrown w2 d os)
   have hg1:∀ d os,Ext w1 (Sort.grow (redrawn w2 d) os):=fun d os=>hx12.trans (below_regrown w2 d os)
   have hg2:∀ d os,Ext w2 (Sort.grow (redrawn w2 d) os):=fun d os=>below_regrown w2 d os
   clear hev hfe hp hN h0 h1 he
   go_upto_region 5 with fail
   refine wp_region_quiet_below (by kernel_rfl) (by kernel_rfl) ?_
   repeat (go_big_quiet_step (exact Calls.regrown_of (HNC.out _ (hgw _ _))))
   refine wpQuiet_nil ?_
   intro _ hw'
   obtain ⟨⟨dq,osq⟩,hw''⟩:=hw'
   subst hw''
   have hx29:=hg2 dq osq
   generalize Sort.grow (redrawn w2 dq) osq=w9 at hx29 ⊢
   clear hgw hg1 hg2
   have hxw9:=hxw2.trans hx29
   by_cases hz:ev=0
   ·have d1:(ev != 0)=false:=by simp [hz]
    have HZ:=Lib.hid hz
    clear hz
    go_wp2_with fail
    go_meet
    case rel=>exact ⟨hx29,by rw [←HEV.out];exact HZ.out⟩
   ·have d1:(ev != 0)=true:=by simpa using hz
    have HFE:=Lib.hid (show C.2=r.fail 1 ev from by rw [HEV.out];exact HFST.out (by rw [←HEV.out];exact hz))
    have HZ:=Lib.hid hz
    clear hz
    go_wp2_with fail
    go_ret3
    exact ⟨hxw9,_,1,ev,rfl,.inl ⟨HZ.out,HFE.out⟩⟩
 case rest=>
  obtain ⟨hx2x,hf0⟩:=hcut
  have hxwx:=hxw2.trans hx2x
  have hx1x:=hx12.trans hx2x
  have hxx:Ext wc wc:=Ext.refl _
  have HS1:=Lib.hid (HST.out hf0)
  clear hf0 HFST HST HFF HNA a0
  go_wp2_with fail
  go_loopg [14,15] m (fun gg v14 v15 wr=>∃ (k:Nat) (c:List Int),k≤m∧gg=m+1 - k∧v15=.int .i64 k∧LnI ws T.n first r G k c∧Que wr wc.heap.size 1 v14 c.length (intCells c)∧Ext wc wr)
  case atStart=>exact ⟨1,[],by omega,by omega,rfl,HS1.out,Que.nil _ _ _,Ext.refl _⟩
  case round=>
   clear HS1
   obtain ⟨k,c,hk,rfl,rfl,hi,hq,hxr⟩:=hrel
   obtain ⟨a4,c4,rfl⟩:=hq.slice
   obtain ⟨cn,hcn⟩:∃ z,z=c.length:=⟨_,rfl⟩
   rw [←hcn] at hq ⊢
   have HI:=Lib.hid hi
   have HQ:=Lib.hid hq
   have HCN:=Lib.hid hcn
   have hx2r:=hx2x.trans hxr
   have hx1r:=hx1x.trans hxr
   have hxwr:=hxwx.trans hxr
   have hrr:Ext wr wr:=Ext.refl _
   have hcT:cn≤T.n:=by rw [hcn];exact hi.n
   clear hi hq hcn
   by_cases hlt:k<m
   ·have hkw:k<ws.length:=by rw [←HM.out];exact hlt
    have hlt':(k:Int)<(m:Int):=by omega
    obtain ⟨x,hx⟩:∃ x,x=ws.getD k []:=⟨_,rfl⟩
    have hxl:x.length≤100000:=by rw [hx];exact HWIN.out k hkw
    obtain ⟨col,hcol⟩:∃ z,z=colAt ws k:=⟨_,rfl⟩
    have pA:∀ w',Ext wr w'→w'.cell? ⟨ga,oa+k,none⟩=some (.string (bts x)):=fun w' e=>by rw [hx];exact (hx2r.trans e).cell (HCA.out k hkw)
    have pB:∀ w',Ext wr w'→w'.cell? ⟨gb,ob+k,none⟩=some (.int .i64 col):=fun w' e=>by rw [hcol];exact (hx2r.trans e).cell (HCB.out k hkw)
    have qA:∀ w',Ext wr w'→ga<w'.heap.size:=fun w' e=>gA _ (hx2r.trans e)
    have qB:∀ w',Ext wr w'→gb<w'.heap.size:=fun w' e=>gB _ (hx2r.trans e)
    by_cases hn:cn=T.n
    ·have d1:((cn:Int) == (T.n:Int))=true:=by simp [hn]
     have HE:=Lib.hid (show C.2=r.fail col 3 from by
      have h:=HI.out.full HR.out hkw (by rw [←HCN.out];exact hn)
      rw [HBAD.out h.2,h.1,hcol])
     clear hn hx hcol
     go_upto_region 13 with fail
     go_quiet (fail)
     go_wp2_with fail
     go_ret3
     exact ⟨by first | exact hxwr | exact hxwr.drewN _,_,col,3,rfl,.inl ⟨by decide,HE.out⟩⟩
    ·have d1:((cn:Int) == (T.n:Int))=false:=by simpa using fun h:((cn:Nat):Int)=(T.n:Int)=>hn (by omega)
     have HNU:=Lib.hid (number_any wr (bts x) (by rw [bts_size];omega))
     rw [show (bts x).data.toList=x from rfl] at HNU
     obtain ⟨de,hde⟩:∃ de,de=(decI x).2:=⟨_,rfl⟩
     obtain ⟨dv,hdv⟩:∃ dv,dv=(decI x).1:=⟨_,rfl⟩
     rw [←hde,←hdv] at HNU
     by_cases hd:de=0
     case neg=>
      have d2:(de != 0)=true:=by simpa using hd
      have HD:=Lib.hid hd
      have HE:=Lib.hid (show C.2=r.fail col de from by
       have h:=HI.out.bad HR.out hkw (by rw [←HCN.out];exact hn) (by rw [←hx,←hde];exact hd)
       rw [HBAD.out h.2,h.1,hcol,hde,hx])
      clear hn hd hx hcol hde hdv
      go_upto_region 16 with (go_at_call 98;refine HNU.out.mono ?_;rintro e w3 ⟨rfl,rfl⟩)
      go_quiet (fail)
      go_wp2_with fail
      go_ret3
      exact ⟨by first | exact hxwr | exact hxwr.drewN _,_,col,de,rfl,.inl ⟨HD.out,HE.out⟩⟩
     have d2:(de != 0)=false:=by simp [hd]
     have HN:=Lib.hid (show LnI ws T.n first r G (k+1) (c++[dv]) from by
      rw [hdv,hx]
      exact HI.out.step HR.out hkw (by rw [←HCN.out];exact hn) (by rw [←hx,←hde];exact hd))
     have hw1:IntKind.i64.wrap ((k:Int)+1)=(k:Int)+1:=IntWalk.i64_in _ (by omega)
     have hcm:cn≤100001:=by have h1:=HI.out.l;have h2:=HCN.out;omega
     clear hn hd hx hcol hde hdv
     go_upto_region 15 with (go_at_call 98;refine HNU.out.mono ?_;rintro e w3 ⟨rfl,rfl⟩)
     go_upto_region 11 with (at_builtin;refine wpList_append_que _ rfl _ _ 27 27 rfl (base:=wc.heap.size) (e:=3) (size:=1) i0 (.int .i64 0) 8 Tryz.underlying27 hi0 hz0 hz1 hz2 rfl rfl (v:=.slice a4 cn c4) (n:=cn) (xs:=intCells c) (by exact HQ.out.ext (Ext.alloc wr (.cells #[.int .i64 dv] 3))) (by rw [World.size_alloc];have:=hxr.le;omega) (.slice (some ⟨wr.heap.size,0,none⟩) 1 1) 1 [.int .i64 dv] rfl (by exact Src.ofSlice (size:=1) _ Tryz.underlying27 ⟨wr.heap.size,0,none⟩ 1 1 _ rfl (news_ok wr _ _) (one_int _)) (by unfold maxLen;omega) (by omega) ?_;rintro v7 w7 hq7 hg7 -;have HQ7:=Lib.hid (show Que w7 wc.heap.size 1 v7 (c++[dv]).length (intCells (c++[dv])) from by rw [List.length_append,←HCN.out];unfold intCells at hq7 ⊢;rw [List.map_append];exact hq7);have hx7:Ext wc w7:=grown_ext hxr hg7 (fun g e=>HQ.out.block g e);clear hq7 hg7)
     go_wp2_with fail
     go_roundg (m+1 - (k+1))
     case rel=>exact ⟨k+1,c++[dv],by omega,rfl,by go_num,HN.out,HQ7.out,hx7⟩
     case measure=>omega
   ·have hlt':decide (k<m)=false:=decide_eq_false hlt
    have hlt'':decide ((k:Int)<(m:Int))=false:=decide_eq_false (by omega)
    obtain rfl:k=m:=by omega
    have HG:=Lib.hid (HEND.out c (by have h:=HI.out;rw [HM.out] at h;exact h.fin))
    by_cases hs:cn<T.n
    ·have d1:decide (cn<T.n)=true:=decide_eq_true hs
     have d1':decide ((cn:Int)<(T.n:Int))=true:=decide_eq_true (by omega)
     have HE:=Lib.hid (show C.2=r.fail ((l.length:Int)+1) 3 from by rw [HG.out,if_pos (by rw [←HCN.out];exact hs)])
     clear hs
     go_wp2_with fail
     go_ret3
     exact ⟨hxwr,_,_,3,rfl,.inl ⟨by decide,HE.out⟩⟩
    ·have d1:decide (cn<T.n)=false:=decide_eq_false hs
     have d1':decide ((cn:Int)<(T.n:Int))=false:=decide_eq_false (by omega)
     have HE:=Lib.hid (show C=(c,r) from by rw [HG.out,if_neg (by rw [←HCN.out];exact hs)])
     have hcT':cn=T.n:=by omega
     clear hs
     go_wp2_with fail
     go_ret3
     refine ⟨hxwr,_,0,0,rfl,.inr ⟨rfl,by rw [HE.out],by rw [HE.out];show c.length=T.n;rw [←HCN.out];exact hcT',by rw [HE.out];exact HI.out.o,?_⟩⟩
     rw [HE.out]
     show Que wr W.heap.size 1 (.slice a4 cn c4) T.n (intCells c)
     rw [←hcT']
     exact HQ.out.mono hxwx.le
end Go.Proofs.YtlfdfkbmollaaaaGreatDoor

namespace Go.Proofs.YtlfdfkbmollaaaaGreatDoor
open Go.ChangeShapes Go.WideShapes Go.RowKit Go.Shelf Go.Deep
attribute [local go_sem] Oper.semAt_some
abbrev nilS:Value:=.slice none 0 0
structure Lol (w:World) (base:Nat) (v:Value) (EV:List Value) (XS:List (List Value)):Prop where
 q:Que w base 1 v EV.length EV
 n:XS.length=EV.length
 e:∀ j,j<EV.length→Que w base 1 (EV.getD j nilS) (XS.getD j []).length (XS.getD j [])∧∀ g,(EV.getD j nilS).ownBlock=some g→g<w.heap.size∧v.ownBlock≠some g
 lt:∀ g,v.ownBlock=some g→g<w.heap.size
theorem Lol.nil (w:World) (base:Nat):Lol w base nilS [] []:=⟨Que.nil _ _ _,rfl,fun j h=>absurd h (by simp),fun g h=>(by cases h)⟩
theorem Lol.ext {w w':World} {base:Nat} {v:Value} {EV:List Value} {XS:List (List Value)} (h:Lol w base v EV XS) (x:Ext w w'):Lol w' base v EV XS:=
 ⟨h.q.ext x,h.n,fun j hj=>⟨(h.e j hj).1.ext x,fun g e=>⟨Nat.lt_of_lt_of_le ((h.e j hj).2 g e).1 x.le,((h.e j hj).2 g e).2⟩⟩,fun g e=>Nat.lt_of_lt_of_le (h.lt g e) x.le⟩
theorem Lol.keepB {w w':World} {base b:Nat} {v:Value} {EV:List Value} {XS:List (List Value)} (h:Lol w base v EV XS) (x:Cg (· = b) w w') (hb:b<base):Lol w' base v EV XS:=
 ⟨h.q.keepB x hb,h.n,fun j hj=>⟨(h.e j hj).1.keepB x hb,fun g e=>⟨Nat.lt_of_lt_of_le ((h.e j hj).2 g e).1 x.le,((h.e j hj).2 g e).2⟩⟩,fun g e=>Nat.lt_of_lt_of_le (h.lt g e) x.le⟩
theorem Lol.lower {w:World} {base base':Nat} {v:Value} {EV:List Value} {XS:List (List Value)} (h:Lol w base v EV XS) (hb:base'≤base):Lol w base' v EV XS:=
 ⟨h.q.mono hb,h.n,fun j hj=>⟨(h.e j hj).1.mono hb,(h.e j hj).2⟩,h.lt⟩
theorem Lol.push {w w' : World} {base : Nat} {v v' x : Value} {EV ys : List Value} {XS : List (List Value)} {o : Obj} (h : Lol w base v EV XS) (hx : Que w base 1 x ys.length ys) (hx2 : ∀ g, x.ownBlock = some g → g < w.heap.size ∧ v.ownBlock ≠ some g)
    (hq:Que w' base 1 v' (EV.length+1) (EV++[x])) (hg:(w.alloc o).grownBy w' v.ownBlock) (ho:v'.ownBlock=v.ownBlock∨v'.ownBlock=some (w.alloc o).heap.size):Lol w' base v' (EV++[x]) (XS++[ys]):=by
 have hs:w.heap.size≤w'.heap.size:=Nat.le_trans (by rw [World.size_alloc];omega) hg.size
 have hne:∀ g,g<w.heap.size→v.ownBlock≠some g→v'.ownBlock≠some g:=fun g h1 h2 h3=>by
  rcases ho with k | k
  ·exact h2 (k.symm.trans h3)
  ·rw [k] at h3;cases h3
   rw [World.size_alloc] at h1;omega
 have hn:=h.n
 refine ⟨by rw [List.length_append];exact hq,by rw [List.length_append,List.length_append,hn];rfl,fun j hj=>?_,hq.ownLt (by omega)⟩
 rw [List.length_append,List.length_cons,List.length_nil] at hj
 by_cases hjl:j<EV.length
 ·have e1:(EV++[x]).getD j nilS=EV.getD j nilS:=by rw [List.getD_eq_getElem?_getD,List.getElem?_append_left hjl,←List.getD_eq_getElem?_getD]
  have e2:(XS++[ys]).getD j []=XS.getD j []:=by rw [List.getD_eq_getElem?_getD,List.getElem?_append_left (by omega),←List.getD_eq_getElem?_getD]
  rw [e1,e2]
  have hj2:=(h.e j hjl).2
  exact ⟨(h.e j hjl).1.same' hs fun g e=>grown_keep hg (hj2 g e).1 fun k=>(hj2 g e).2 k.symm,fun g e=>⟨Nat.lt_of_lt_of_le (hj2 g e).1 hs,hne g (hj2 g e).1 (hj2 g e).2⟩⟩
 ·obtain rfl:j=EV.length:=by omega
  have e1:(EV++[x]).getD EV.length nilS=x:=by rw [List.getD_eq_getElem?_getD,List.getElem?_append_right (Nat.le_refl _),Nat.sub_self];rfl
  have e2:(XS++[ys]).getD EV.length []=ys:=by rw [List.getD_eq_getElem?_getD,List.getElem?_append_right (by omega),←hn,Nat.sub_self];rfl
  rw [e1,e2]
  exact ⟨hx.same' hs fun g e=>grown_keep hg (hx2 g e).1 fun k=>(hx2 g e).2 k.symm,fun g e=>⟨Nat.lt_of_lt_of_le (hx2 g e).1 hs,hne g (hx2 g e).1 (hx2 g e).2⟩⟩
theorem mm_of {B : Nat} {L : List (List Int)} {v : Value} {EV : Nat → Value} {w : World} (hr : Que w B 1 v L.length ((List.range L.length).map EV)) (he : ∀ i, i < L.length → Que w B 1 (EV i) (L.getD i []).length (intCells (L.getD i []))) (hl : L.length ≤ 1000000) (hl2 : ∀ i, i < L.length → (L.getD i []).length ≤ 1000000) (ok : ∀ i q, okI (gi (L.getD i []) q)) :
    ∃ m:MM,v=m.v∧MmOk m w∧m.n=L.length∧(∀ i,i<L.length→m.rn i=(L.getD i []).length)∧∀ i q,m.val i q=gi (L.getD i []) q:=by
 obtain ⟨s,hs⟩:=choose_lt (p:=fun i (s:SlD)=>EV i=s.v∧s.n=(L.getD i []).length∧s.At w∧∀ q,q<(L.getD i []).length→w.cell? ⟨s.b,s.o+q,none⟩=(intCells (L.getD i []))[q]?) fun i hi=>(he i hi).sld (hl2 i hi)
 obtain ⟨r,r1,r2,r3,r4⟩:=hr.sld hl
 refine ⟨⟨⟨r.n,fun i=>(s i).n,fun i q=>gi (L.getD i []) q⟩,r.a,r.b,r.o,r.c,fun i=>(s i).a,fun i=>(s i).b,fun i=>(s i).o,fun i=>(s i).c⟩,r1,⟨⟨r3.hn,r3.ha,fun h0 w' x=>Nat.lt_of_lt_of_le (r3.hb h0) x.le,fun w' x k hk=>?_,fun k hk=>(hs k (by rw [←r2];exact hk)).2.2.1.hn,fun k hk h0=>(hs k (by rw [←r2];exact hk)).2.2.1.ha h0,fun k hk h0 w' x=>Nat.lt_of_lt_of_le ((hs k (by rw [←r2];exact hk)).2.2.1.hb h0) x.le,fun w' x k i hk hi=>?_⟩,fun k i _ _=>ok k i,r3.hc,fun k hk=>(hs k (by rw [←r2];exact hk)).2.2.1.hc⟩,r2,fun i hi=>(hs i hi).2.1,fun i q=>rfl⟩
 ·have hk':k<L.length:=by rw [←r2];exact hk
  have h1:=r4 k hk'
  rw [List.getElem?_map,List.getElem?_range hk'] at h1
  exact (x.cell h1).trans (congrArg some (hs k hk').1)
 ·have hk':k<L.length:=by rw [←r2];exact hk
  have hi':i<(s k).n:=hi
  rw [(hs k hk').2.1] at hi'
  exact x.cell (((hs k hk').2.2.2 i hi').trans (intCells_gi hi'))
theorem slc_ofL {B : Nat} {F L : List Int} {J : List (List (List Int))} {vf vl vj : Value} {VR : List Value} {EV : Nat → Nat → Value} {w : World} (hf : Que w B 1 vf F.length (intCells F)) (hL : Que w B 1 vl L.length (intCells L)) (hj : Lol w B vj VR ((List.range J.length).map fun p => (List.range (J.getD p []).length).map (EV p)))
    (he:∀ p i,p<J.length→i<(J.getD p []).length→Que w B 1 (EV p i) ((J.getD p []).getD i []).length (intCells ((J.getD p []).getD i [])))
    (nf:F.length≤1000000) (nl:L.length≤1000000) (nj:J.length≤1000000) (hl:∀ p,p<J.length→(J.getD p []).length≤1000000) (hl2:∀ p i,p<J.length→i<(J.getD p []).length→((J.getD p []).getD i []).length≤1000000) (okf:∀ i,i<F.length→okI (gi F i)) (okl:∀ i,i<L.length→okI (gi L i)) (ok:∀ p i q,okI (gi ((J.getD p []).getD i []) q)) :
    ∃ S:SlcD,Value.agg #[.bool false,vf,vl,vj]=S.val∧S.Is ⟨false,F,L,J⟩∧S.At w:=by
 have hVR:VR.length=J.length:=by rw [←hj.n];simp
 obtain ⟨df,f1,f2,f3,f4⟩:=hf.intd nf okf
 obtain ⟨dl,l1,l2,l3,l4⟩:=hL.intd nl okl
 obtain ⟨s,s1,s2,s3,s4⟩:=hj.q.sld (by omega)
 obtain ⟨m,hm⟩:=choose_lt (p:=fun p (m:MM)=>VR.getD p nilS=m.v∧MmOk m w∧m.n=(J.getD p []).length∧(∀ i,i<(J.getD p []).length→m.rn i=((J.getD p []).getD i []).length)∧∀ i q,m.val i q=gi ((J.getD p []).getD i []) q) (n:=J.length) fun p hp=>by
  have h1:=(hj.e p (by omega)).1
  have e:((List.range J.length).map fun p=>(List.range (J.getD p []).length).map (EV p)).getD p []=(List.range (J.getD p []).length).map (EV p):=by
   rw [getD_lt (by simpa using hp)];simp
  rw [e,List.length_map,List.length_range] at h1
  exact mm_of h1 (fun i hi=>he p i hp hi) (hl p hp) (fun i hi=>hl2 p i hp hi) (ok p)
 refine ⟨⟨false,df,dl,⟨s,m⟩⟩,by rw [f1,l1,s1],⟨rfl,f2,fun i _=>by rw [f3],l2,fun i _=>by rw [l3],s2.trans hVR,fun p hp=>(hm p hp).2.2.1,fun p i hp hi=>(hm p hp).2.2.2.1 i hi,fun p i q hp _ _=>(hm p hp).2.2.2.2 i q⟩,f4,l4,s3,fun i hi=>?_⟩
 have hi':i<J.length:=hVR▸(s2▸hi)
 refine ⟨?_,(hm i hi').2.1⟩
 rw [s4 i (by omega),List.getElem?_eq_getElem (by omega),←getD_lt (d:=nilS) (by omega)]
 exact congrArg some (hm i hi').1
/-! reading,step by step -/
theorem next_no {r:Rdr} (h:r.e=0) (hc:(Lib.cut r.rest [10]).2.2=false):r.next.2=⟨r.rest,r.line+1,r.line+1,((Lib.cut r.rest [10]).1.length:Int)+1,4⟩:=by
 unfold Rdr.next
 rw [if_neg (by simp [h])]
 by_cases h1:r.rest=[]
 ·rw [if_pos h1,h1];rfl
 ·rw [if_neg h1,if_pos hc]
theorem next_yes {r:Rdr} (h:r.e=0) (hc:(Lib.cut r.rest [10]).2.2=true):r.next=((Lib.cut r.rest [10]).1,⟨(Lib.cut r.rest [10]).2.1,r.line+1,r.al,r.ac,r.e⟩):=by
 unfold Rdr.next
 rw [if_neg (by simp [h]),if_neg (by intro e;rw [e] at hc;exact absurd hc (by decide)),if_neg (by rw [hc];decide)]
theorem restE_bad {r:Rdr} (h:r.e≠0):restE r=r:=if_neg fun k=>h k.1
noncomputable def readQ (T:Tr) (f:List Int) (r:Rdr):SL × Rdr:=if r.next.2.e≠0 then (⟨false,f,[],[]⟩,r.next.2) else readL T f r.next
section
variable {T:Tr} {text l rest:List UInt8}
theorem rd_no (h:(Lib.cut text [10]).2.2=false):(readP T text).2=⟨text,1,1,((Lib.cut text [10]).1.length:Int)+1,4⟩:=by
 have hn:=next_no (r:=⟨text,0,0,0,0⟩) rfl h
 unfold readP
 dsimp only
 rw [if_neg (fun k=>by rw [hn] at k;exact absurd k.1 (show ¬(4:Int)=0 by decide)),if_pos (by rw [hn];exact (show (4:Int)≠0 by decide)),hn]
 rfl
theorem rd_em (h:Lib.cut text [10]=([101,109,112,116,121],rest,true)):readP T text=(⟨true,[],[],[]⟩,⟨rest,1,0,0,0⟩):=by
 have hn:=next_yes (r:=⟨text,0,0,0,0⟩) rfl (by show (Lib.cut text [10]).2.2=true;rw [h])
 unfold readP
 dsimp only
 rw [hn]
 show (if _∧(Lib.cut text [10]).1=_ then _ else _)=_
 rw [if_pos ⟨rfl,by rw [h]⟩]
 show (_,(⟨(Lib.cut text [10]).2.1,_,_,_,_⟩:Rdr))=_
 rw [h]
 rfl
theorem rd_go (h : Lib.cut text [10] = (l, rest, true)) (hne : l ≠ [101, 109, 112, 116, 121]) :
    readP T text=if (cutE T ((Rdr.mk rest 1 0 0 0).counts l (Lib.split l [32]) T.n (wordE [102,105,114,115,116]))).next.2.e≠0 then (⟨false,((Rdr.mk rest 1 0 0 0).counts l (Lib.split l [32]) T.n (wordE [102,105,114,115,116])).1,[],[]⟩,(cutE T ((Rdr.mk rest 1 0 0 0).counts l (Lib.split l [32]) T.n (wordE [102,105,114,115,116]))).next.2)
     else readL T ((Rdr.mk rest 1 0 0 0).counts l (Lib.split l [32]) T.n (wordE [102,105,114,115,116])).1 (cutE T ((Rdr.mk rest 1 0 0 0).counts l (Lib.split l [32]) T.n (wordE [102,105,114,115,116]))).next:=by
 have hn:(Rdr.mk text 0 0 0 0).next=(l,⟨rest,1,0,0,0⟩):=by
  rw [next_yes (r:=⟨text,0,0,0,0⟩) rfl (by show (Lib.cut text [10]).2.2=true;rw [h])]
  show ((Lib.cut text [10]).1,(⟨(Lib.cut text [10]).2.1,_,_,_,_⟩:Rdr))=_
  rw [h];rfl
 conv=>lhs;unfold readP
 dsimp only
 rw [hn]
 dsimp only
 rw [if_neg (fun k=>hne k.2),if_neg (fun k=>k rfl)]
theorem rd_bad1 (h:Lib.cut text [10]=(l,rest,true)) (hne:l≠[101,109,112,116,121]) {col ec:Int} (hec:ec≠0) (hc:((Rdr.mk rest 1 0 0 0).counts l (Lib.split l [32]) T.n (wordE [102,105,114,115,116])).2=(Rdr.mk rest 1 0 0 0).fail col ec):(readP T text).2=⟨rest,1,1,col,ec⟩:=by
 have e0:((Rdr.mk rest 1 0 0 0).counts l (Lib.split l [32]) T.n (wordE [102,105,114,115,116])).2=⟨rest,1,1,col,ec⟩:=by rw [hc];exact if_pos rfl
 have e1:cutE T ((Rdr.mk rest 1 0 0 0).counts l (Lib.split l [32]) T.n (wordE [102,105,114,115,116]))=⟨rest,1,1,col,ec⟩:=by
  unfold cutE
  rw [if_neg (fun k=>hec (by have:=k.1;rw [e0] at this;exact this)),e0]
 rw [rd_go h hne,e1,next_err (r:=⟨rest,1,1,col,ec⟩) hec,if_pos hec]
theorem rd_cut1 (h:Lib.cut text [10]=(l,rest,true)) (hne:l≠[101,109,112,116,121]) {c:List Int × Rdr} (hc:(Rdr.mk rest 1 0 0 0).counts l (Lib.split l [32]) T.n (wordE [102,105,114,115,116])=c) (h2:c.2=⟨rest,1,0,0,0⟩) (hk:¬T.IsCut c.1.length (gi c.1)):(readP T text).2=⟨rest,1,1,1,18⟩:=by
 have e1:cutE T c=⟨rest,1,1,1,18⟩:=by
  unfold cutE
  rw [if_pos ⟨by rw [h2],hk⟩,h2];exact if_pos rfl
 rw [rd_go h hne,hc,e1,next_err (r:=⟨rest,1,1,1,18⟩) (show (18:Int)≠0 by decide),if_pos (show (18:Int)≠0 by decide)]
theorem rd_ok1 (h:Lib.cut text [10]=(l,rest,true)) (hne:l≠[101,109,112,116,121]) {c:List Int × Rdr} (hc:(Rdr.mk rest 1 0 0 0).counts l (Lib.split l [32]) T.n (wordE [102,105,114,115,116])=c) (h2:c.2=⟨rest,1,0,0,0⟩) (hk:T.IsCut c.1.length (gi c.1)):readP T text=readQ T c.1 ⟨rest,1,0,0,0⟩:=by
 have e1:cutE T c=⟨rest,1,0,0,0⟩:=by
  unfold cutE
  rw [if_neg (fun k=>k.2 hk),h2]
 rw [rd_go h hne,hc,e1];rfl
variable {tx:List UInt8} {f:List Int}
theorem rq_no (h:(Lib.cut tx [10]).2.2=false):(readQ T f ⟨tx,1,0,0,0⟩).2=⟨tx,2,2,((Lib.cut tx [10]).1.length:Int)+1,4⟩:=by
 have hn:=next_no (r:=⟨tx,1,0,0,0⟩) rfl h
 unfold readQ
 rw [if_pos (by rw [hn];exact (show (4:Int)≠0 by decide)),hn]
 rfl
theorem rq_go (h:Lib.cut tx [10]=(l,rest,true)):readQ T f ⟨tx,1,0,0,0⟩=readL T f (l,⟨rest,2,0,0,0⟩):=by
 have hn:(Rdr.mk tx 1 0 0 0).next=(l,⟨rest,2,0,0,0⟩):=by
  rw [next_yes (r:=⟨tx,1,0,0,0⟩) rfl (by show (Lib.cut tx [10]).2.2=true;rw [h])]
  show ((Lib.cut tx [10]).1,(⟨(Lib.cut tx [10]).2.1,_,_,_,_⟩:Rdr))=_
  rw [h];rfl
 unfold readQ
 rw [hn,if_neg (fun k=>k rfl)]
theorem rq_bad (h:Lib.cut tx [10]=(l,rest,true)) {col ec:Int} (hec:ec≠0) (hc:((Rdr.mk rest 2 0 0 0).counts l (Lib.split l [32]) T.n (wordE [108,97,115,116])).2=(Rdr.mk rest 2 0 0 0).fail col ec):(readQ T f ⟨tx,1,0,0,0⟩).2=⟨rest,2,2,col,ec⟩:=by
 have e0:((Rdr.mk rest 2 0 0 0).counts l (Lib.split l [32]) T.n (wordE [108,97,115,116])).2=⟨rest,2,2,col,ec⟩:=by rw [hc];exact if_pos rfl
 have e1:cutE2 T f ((Rdr.mk rest 2 0 0 0).counts l (Lib.split l [32]) T.n (wordE [108,97,115,116]))=⟨rest,2,2,col,ec⟩:=by
  unfold cutE2
  rw [if_neg (fun k=>hec (by have:=k.1;rw [e0] at this;exact this)),e0]
 rw [rq_go h]
 unfold readL
 dsimp only
 rw [e1,if_pos hec]
theorem rq_cut (h:Lib.cut tx [10]=(l,rest,true)) {c:List Int × Rdr} (hc:(Rdr.mk rest 2 0 0 0).counts l (Lib.split l [32]) T.n (wordE [108,97,115,116])=c) (h2:c.2=⟨rest,2,0,0,0⟩) (hk:¬T.IsCut c.1.length (gi c.1)∨¬LeqL f.length c.1.length (gi f) (gi c.1)):(readQ T f ⟨tx,1,0,0,0⟩).2=⟨rest,2,2,1,18⟩:=by
 have e1:cutE2 T f c=⟨rest,2,2,1,18⟩:=by
  unfold cutE2
  rw [if_pos ⟨by rw [h2],hk⟩,h2];exact if_pos rfl
 rw [rq_go h]
 unfold readL
 dsimp only
 rw [hc,e1,if_pos (show (18:Int)≠0 by decide)]
theorem rq_ok (h : Lib.cut tx [10] = (l, rest, true)) {c : List Int × Rdr} (hc : (Rdr.mk rest 2 0 0 0).counts l (Lib.split l [32]) T.n (wordE [108, 97, 115, 116]) = c) (h2 : c.2 = ⟨rest, 2, 0, 0, 0⟩) (hk : T.IsCut c.1.length (gi c.1)) (hl : LeqL f.length c.1.length (gi f) (gi c.1)) :
    readQ T f ⟨tx,1,0,0,0⟩=(⟨false,f,c.1,(evsGo T (ownL (gi f) (gi c.1) T.n) (J0 T f) ⟨rest,2,0,0,0⟩).1⟩,(evsGo T (ownL (gi f) (gi c.1) T.n) (J0 T f) ⟨rest,2,0,0,0⟩).2):=by
 have e1:cutE2 T f c=⟨rest,2,0,0,0⟩:=by
  unfold cutE2
  rw [if_neg (fun k=>k.2.elim (fun k=>k hk) (fun k=>k hl)),h2]
 rw [rq_go h]
 unfold readL
 dsimp only
 rw [hc,e1,if_neg (fun k=>k rfl)]
theorem evsGo_errq {xs:List EvE} {J:List (List (List Int))} {q:Rdr} (hq:q.e≠0):(evsGo T xs J q).2=q:=by
 cases xs with
 | nil => rfl
 | cons y ys =>
  rw [evsGo,if_pos (by rw [next_err hq];exact hq)]
  exact next_err hq
theorem ev_no {xs:List EvE} {k:Nat} {J:List (List (List Int))} {at':Int} (hk:k<xs.length) (h:(Lib.cut tx [10]).2.2=false):(evsGo T (xs.drop k) J ⟨tx,at',0,0,0⟩).2=⟨tx,at'+1,at'+1,((Lib.cut tx [10]).1.length:Int)+1,4⟩:=by
 have hn:=next_no (r:=⟨tx,at',0,0,0⟩) rfl h
 rw [evsGo_stop hk (by rw [hn];exact (show (4:Int)≠0 by decide)),hn]
theorem ev_bad {xs : List EvE} {k : Nat} {J : List (List (List Int))} {at' : Int} (hk : k < xs.length) (h : Lib.cut tx [10] = (l, rest, true)) {p i : Nat} (hx : xs[k] = ((p : Int), (i : Int) + 1)) {col ec : Int} (hec : ec ≠ 0)
    (hc:((Rdr.mk rest (at'+1) 0 0 0).counts l (Lib.split l [32]) T.n (fun w=>titleE w (evN T ((p:Int),(i:Int)+1)))).2=(Rdr.mk rest (at'+1) 0 0 0).fail col ec):(evsGo T (xs.drop k) J ⟨tx,at',0,0,0⟩).2=⟨rest,at'+1,at'+1,col,ec⟩:=by
 have hn:(Rdr.mk tx at' 0 0 0).next=(l,⟨rest,at'+1,0,0,0⟩):=by
  rw [next_yes (r:=⟨tx,at',0,0,0⟩) rfl (by show (Lib.cut tx [10]).2.2=true;rw [h])]
  show ((Lib.cut tx [10]).1,(⟨(Lib.cut tx [10]).2.1,_,_,_,_⟩:Rdr))=_
  rw [h]
 have e0:(Rdr.mk rest (at'+1) 0 0 0).fail col ec=⟨rest,at'+1,at'+1,col,ec⟩:=if_pos rfl
 rw [evsGo_step hk (by rw [hn]) hx,hn]
 dsimp only
 rw [hc,e0,evsGo_errq (q:=⟨rest,at'+1,at'+1,col,ec⟩) hec]
theorem ev_ok {xs : List EvE} {k : Nat} {J : List (List (List Int))} {at' : Int} (hk : k < xs.length) (h : Lib.cut tx [10] = (l, rest, true)) {p i : Nat} (hx : xs[k] = ((p : Int), (i : Int) + 1)) {c : List Int × Rdr}
    (hc:(Rdr.mk rest (at'+1) 0 0 0).counts l (Lib.split l [32]) T.n (fun w=>titleE w (evN T ((p:Int),(i:Int)+1)))=c) (h2:c.2=⟨rest,at'+1,0,0,0⟩) :
    evsGo T (xs.drop k) J ⟨tx,at',0,0,0⟩=evsGo T (xs.drop (k+1)) (setJ J xs[k] c.1) ⟨rest,at'+1,0,0,0⟩:=by
 have hn:(Rdr.mk tx at' 0 0 0).next=(l,⟨rest,at'+1,0,0,0⟩):=by
  rw [next_yes (r:=⟨tx,at',0,0,0⟩) rfl (by show (Lib.cut tx [10]).2.2=true;rw [h])]
  show ((Lib.cut tx [10]).1,(⟨(Lib.cut tx [10]).2.1,_,_,_,_⟩:Rdr))=_
  rw [h]
 rw [evsGo_step hk (by rw [hn]) hx,hn]
 dsimp only
 rw [hc,h2,hx,setJ_ev]
end
theorem putJ_snoc:∀ (xs:List EvE) (vs:List (List Int)) (x:EvE) (v:List Int) (J:List (List (List Int))),xs.length=vs.length→putJ (xs++[x]) (vs++[v]) J=setJ (putJ xs vs J) x v
 | [],[],x,v,J,_ => rfl
 | [],_ :: _,_,_,_,h => by simp at h
 | _ :: _,[],_,_,_,h => by simp at h
 | y :: ys,u :: us,x,v,J,h => by
  rw [List.cons_append,List.cons_append,putJ,putJ,putJ_snoc ys us x v _ (by simpa using h)]
theorem ownL_get {u v:Nat→Int} {p j:Nat}:∀ {n:Nat},p<n→j<(v p - u p).toNat→(ownL u v n)[(ownL u v p).length+j]?=some ((p:Int),u p+1+(j:Int))
 | 0,h,_ => absurd h (Nat.not_lt_zero _)
 | n+1,h,hj => by
  rw [ownL]
  by_cases hp:p=n
  ·subst hp
   rw [List.getElem?_append_right (by omega),Nat.add_sub_cancel_left]
   unfold ownP
   rw [List.getElem?_map,List.getElem?_range hj];rfl
  ·have ih:=ownL_get (n:=n) (by omega) hj
   rw [List.getElem?_append_left (List.getElem?_eq_some_iff.1 ih).1,ih]
end Go.Proofs.YtlfdfkbmollaaaaGreatDoor

namespace Go.Proofs.YtlfdfkbmollaaaaGreatDoor
open Go.ChangeShapes Go.WideShapes Go.RowKit Go.Shelf Go.Deep
theorem Que.keepS {S:Nat→Prop} {w w':World} {base size n:Nat} {v:Value} {xs:List Value} (h:Que w base size v n xs) (x:Cg S w w') (hb:∀ g,S g→g<base):Que w' base size v n xs:=
 h.same x.le fun g h1 h2=>x.2 g h2 fun e=>by have:=hb g e;omega
theorem Lol.keepS {S:Nat→Prop} {w w':World} {base:Nat} {v:Value} {EV:List Value} {XS:List (List Value)} (h:Lol w base v EV XS) (x:Cg S w w') (hb:∀ g,S g→g<base):Lol w' base v EV XS:=
 ⟨h.q.keepS x hb,h.n,fun j hj=>⟨(h.e j hj).1.keepS x hb,fun g e=>⟨Nat.lt_of_lt_of_le ((h.e j hj).2 g e).1 x.le,((h.e j hj).2 g e).2⟩⟩,fun g e=>Nat.lt_of_lt_of_le (h.lt g e) x.le⟩
theorem NumAt.keepB {w w':World} {n b g o:Nat} {a:Option Addr} {v:Nat→Int} (h:NumAt w n a g o v) (x:Cg (· = b) w w') (hb:0<n→g≠b):NumAt w' n a g o v:=
 ⟨h.hn,h.pa,fun h0=>Nat.lt_of_lt_of_le (h.pb h0) x.le,fun k hk=>(World.cell?_of_block (w:=w) (a:=⟨g,o+k,none⟩) (x.2 g (h.pb (by omega)) (hb (by omega)))).trans (h.c k hk)⟩
def ERv (f l:List Int) (EV:List Value) (vf:Value) (p i:Nat):Value:=
 if (i:Int)+1≤gi f p then vf else if (i:Int)+1≤gi l p then EV.getD ((ownL (gi f) (gi l) p).length+((i:Int) - gi f p).toNat) nilS else nilS
def cntO (f l:List Int) (p i:Nat):Nat:=(min (i:Int) (gi l p) - gi f p).toNat
section
variable {T:Tr} {f l:List Int} {vs:List (List Int)}
theorem putJ_facts (cf : T.IsCut f.length (gi f)) (cl : T.IsCut l.length (gi l)) (hn : (ownL (gi f) (gi l) T.n).length = vs.length) :
    (putJ (ownL (gi f) (gi l) T.n) vs (J0 T f)).length=T.n∧(∀ p,p<T.n→((putJ (ownL (gi f) (gi l) T.n) vs (J0 T f)).getD p []).length=T.en p)∧
    (∀ p i,p<T.n→i<T.en p→gJ (putJ (ownL (gi f) (gi l) T.n) vs (J0 T f)) p i=if (i:Int)+1≤gi f p then f else if (i:Int)+1≤gi l p then vs.getD ((ownL (gi f) (gi l) p).length+((i:Int) - gi f p).toNat) [] else []):=by
 have f0:∀ p,p<T.n→0≤gi f p:=fun p hp=>(cf.2.1 p hp).1
 have l9:∀ p,p<T.n→gi l p≤T.en p:=fun p hp=>(cl.2.1 p hp).2
 obtain ⟨V,hV⟩:=vals_fn _ _ (ownL_nodup (gi f) (gi l) T.n) hn
 obtain ⟨k1,k2,k3⟩:=putJ_map V (ownL (gi f) (gi l) T.n) (J0 T f) (J0_in f0 l9)
 rw [←hV] at k1 k2 k3
 refine ⟨k1.trans (by rw [J0_eq,J0k_len]),fun p hp=>(k2 p).trans (by rw [J0_eq,J0k_get hp,rowF_len]),fun p i hp hi=>?_⟩
 have h0:=f0 p hp
 rw [k3,J0_get hp hi]
 by_cases h1:(i:Int)+1≤gi f p
 ·rw [if_neg (fun h=>by have:=((own_mem f0 p i).1 h).2.1;omega),if_pos (by omega),if_pos h1]
 ·rw [if_neg h1]
  by_cases h2:(i:Int)+1≤gi l p
  ·have hm:((p:Int),(i:Int)+1)∈ownL (gi f) (gi l) T.n:=(own_mem f0 p i).2 ⟨hp,by omega,h2⟩
   rw [if_pos hm,if_pos h2]
   have hg:=ownL_get (u:=gi f) (v:=gi l) (p:=p) (j:=((i:Int) - gi f p).toNat) hp (by omega)
   rw [show gi f p+1+(((i:Int) - gi f p).toNat:Int)=(i:Int)+1 by omega] at hg
   have hv:vs[(ownL (gi f) (gi l) p).length+((i:Int) - gi f p).toNat]?=some (V ((p:Int),(i:Int)+1)):=by
    rw [hV,List.getElem?_map,hg];rfl
   rw [List.getD_eq_getElem?_getD,hv];rfl
  ·rw [if_neg (fun h=>h2 ((own_mem f0 p i).1 h).2.2),if_neg h2,if_neg (by omega)]
theorem putJ_nat50 (nf : f.length = T.n) (cf : T.IsCut f.length (gi f)) (cl : T.IsCut l.length (gi l)) (hn : (ownL (gi f) (gi l) T.n).length = vs.length) (of : Nat50 f) (hvs : ∀ v ∈ vs, v.length = T.n ∧ Nat50 v) (p i : Nat) :
    (gJ (putJ (ownL (gi f) (gi l) T.n) vs (J0 T f)) p i).length≤T.n∧Nat50 (gJ (putJ (ownL (gi f) (gi l) T.n) vs (J0 T f)) p i):=by
 obtain ⟨k1,k2,k3⟩:=putJ_facts cf cl hn
 by_cases hp:p<T.n
 ·by_cases hi:i<T.en p
  ·rw [k3 p i hp hi]
   split
   ·exact ⟨by omega,of⟩
   ·split
    ·by_cases hj:(ownL (gi f) (gi l) p).length+((i:Int) - gi f p).toNat<vs.length
     ·rw [getD_lt hj]
      have:=hvs _ (List.getElem_mem hj)
      exact ⟨by omega,this.2⟩
     ·rw [List.getD_eq_getElem?_getD,List.getElem?_eq_none (by omega)];exact ⟨Nat.zero_le _,Nat50.nil⟩
    ·exact ⟨Nat.zero_le _,Nat50.nil⟩
  ·have : gJ (putJ (ownL (gi f) (gi l) T.n) vs (J0 T f)) p i = [] := by
     unfold gJ
     conv=>lhs;rw [List.getD_eq_getElem?_getD,List.getElem?_eq_none (by rw [k2 p hp];omega)]
     rfl
   rw [this];exact ⟨Nat.zero_le _,Nat50.nil⟩
 ·have : gJ (putJ (ownL (gi f) (gi l) T.n) vs (J0 T f)) p i = [] := by
    unfold gJ
    rw [List.getD_eq_getElem?_getD (l:=putJ _ _ _),List.getElem?_eq_none (by rw [k1];omega)];rfl
  rw [this];exact ⟨Nat.zero_le _,Nat50.nil⟩
theorem slc_fin {w : World} {B : Nat} {vf vl vJ v9 : Value} {EV VR : List Value} (hV : T.Valid) (hf : Que w B 1 vf f.length (intCells f)) (hl : Que w B 1 vl l.length (intCells l))
    (hJ:Lol w B vJ VR ((List.range T.n).map fun q=>(List.range (T.en q)).map (ERv f l EV vf q))) (hE:Lol w B v9 EV (vs.map intCells)) (nf:f.length=T.n) (nl:l.length=T.n) (of:Nat50 f) (ol:Nat50 l)
    (cf:T.IsCut f.length (gi f)) (cl:T.IsCut l.length (gi l)) (hn:(ownL (gi f) (gi l) T.n).length=vs.length) (hvs:∀ v∈vs,v.length=T.n∧Nat50 v) :
    ∃ S:SlcD,Value.agg #[.bool false,vf,vl,vJ]=S.val∧S.Is ⟨false,f,l,putJ (ownL (gi f) (gi l) T.n) vs (J0 T f)⟩∧S.At w:=by
 obtain ⟨k1,k2,k3⟩:=putJ_facts cf cl hn
 have k4:=putJ_nat50 nf cf cl hn of hvs
 have hEn:EV.length=vs.length:=by rw [←hE.n,List.length_map]
 have h8:=hV.n8
 generalize putJ (ownL (gi f) (gi l) T.n) vs (J0 T f)=J at k1 k2 k3 k4 ⊢
 refine slc_ofL (EV:=ERv f l EV vf) (VR:=VR) hf hl ?_ (fun p i hp hi=>?_) (by omega) (by omega) (by omega) (fun p hp=>?_) (fun p i hp hi=>?_) (fun i _=>of.ok i) (fun i _=>ol.ok i) (fun p i q=>(k4 p i).2.ok q)
 ·rw [k1]
  have e:((List.range T.n).map fun q=>(List.range (T.en q)).map (ERv f l EV vf q))=(List.range T.n).map fun p=>(List.range (J.getD p []).length).map (ERv f l EV vf p):=
   List.map_congr_left fun p hp=>by rw [k2 p (List.mem_range.1 hp)]
  rw [←e];exact hJ
 ·rw [k1] at hp
  rw [k2 p hp] at hi
  have e:=k3 p i hp hi
  unfold gJ at e
  rw [e]
  unfold ERv
  by_cases h1:(i:Int)+1≤gi f p
  ·rw [if_pos h1,if_pos h1];exact hf
  ·rw [if_neg h1,if_neg h1]
   by_cases h2:(i:Int)+1≤gi l p
   ·rw [if_pos h2,if_pos h2]
    have h0:=(cf.2.1 p hp).1
    have hg:=ownL_get (u:=gi f) (v:=gi l) (p:=p) (j:=((i:Int) - gi f p).toNat) hp (by omega)
    have hj:=(List.getElem?_eq_some_iff.1 hg).1
    rw [hn] at hj
    generalize (ownL (gi f) (gi l) p).length+((i:Int) - gi f p).toNat=j at hj ⊢
    have h3:=(hE.e j (by omega)).1
    have e2:(vs.map intCells).getD j []=intCells (vs.getD j []):=by
     rw [getD_lt (by simpa using hj),getD_lt hj];simp
    rw [e2] at h3
    have e3:(intCells (vs.getD j [])).length=(vs.getD j []).length:=by unfold intCells;rw [List.length_map]
    rw [e3] at h3
    exact h3
   ·rw [if_neg h2,if_neg h2];exact Que.nil _ _ _
 ·rw [k1] at hp
  rw [k2 p hp]
  have:=hV.en64 hp
  omega
 ·have:=(k4 p i).1
  show (gJ J p i).length≤_
  omega
end
theorem cntO_le {f l:List Int} {p i:Nat} (h:(i:Int)+1≤gi f p):cntO f l p (i+1)=cntO f l p i:=by unfold cntO;omega
theorem cntO_own {f l:List Int} {p i:Nat} (h:¬(i:Int)+1≤gi f p) (h2:(i:Int)+1≤gi l p):cntO f l p (i+1)=cntO f l p i+1∧cntO f l p i=((i:Int) - gi f p).toNat:=by unfold cntO;omega
theorem cntO_gt {f l:List Int} {p i:Nat} (h2:¬(i:Int)+1≤gi l p):cntO f l p (i+1)=cntO f l p i:=by unfold cntO;omega
theorem cntO_zero {f l:List Int} {p:Nat} (h:0≤gi f p):cntO f l p 0=0:=by unfold cntO;omega
theorem cntO_all {f l:List Int} {p n:Nat} (h:gi l p≤n):(ownL (gi f) (gi l) (p+1)).length=(ownL (gi f) (gi l) p).length+cntO f l p n:=by
 rw [ownL,List.length_append,ownP_len]
 unfold cntO
 rw [show min (n:Int) (gi l p)=gi l p by omega]
end Go.Proofs.YtlfdfkbmollaaaaGreatDoor
