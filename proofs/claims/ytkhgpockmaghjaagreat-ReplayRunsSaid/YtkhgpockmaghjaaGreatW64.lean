/- Contracts and laws in plain Lean for RApp: group W64. -/
import Derived.Test.YtkhgpockmaghjaaGreatW63
import Derived.Test.YtkhgpockmaghjaaGreatW20
namespace Go.Proofs.YtkhgpockmaghjaaGreat
open Go.RowKit Go.Shelf
attribute [local go_sem] Oper.semAt_some
def chN (n:Nat) (ch:Nat→Int) (i:Nat):Nat:=if i<n then (ch i).toNat else 0
noncomputable def Tr.pstep (T:Tr) (L:List Syn) (cf:Nat→Nat) (i:Nat) (l:List Nat):List Nat:=rowOf T.n (upC (fn l) ((T.pnL L (fn l) T.n).getD (cf i % (T.pnL L (fn l) T.n).length) 0))
theorem pstep_mem {T:Tr} {L:List Syn} {cf:Nat→Nat} {i:Nat} {l:List Nat} (h:T.pnL L (fn l) T.n≠[]):T.pstep L cf i l∈T.pnext L l:=by
 have h0:0<(T.pnL L (fn l) T.n).length:=List.length_pos_iff.2 h
 have h1:=Nat.mod_lt (cf i) h0
 unfold Tr.pstep Tr.pnext
 refine List.mem_map.2 ⟨_,List.getElem_mem h1,?_⟩
 rw [List.getD_eq_getElem?_getD,List.getElem?_eq_getElem h1];rfl
structure PRunP (T:Tr) (L:List Syn) (cf:Nat→Nat) (M:List (List Nat)):Prop where
 z:M[0]?=some (rowOf T.n fun _=>0)
 st:∀ i,i+1<M.length→T.pnL L (fn (M.getD i [])) T.n≠[]∧M.getD (i+1) []=T.pstep L cf i (M.getD i [])
theorem PRunP.pos {T:Tr} {L:List Syn} {cf:Nat→Nat} {M:List (List Nat)} (h:PRunP T L cf M):0<M.length:=by
 have h1:=h.z
 cases M with
 | nil => cases h1
 | cons => simp
theorem PRunP.one (T:Tr) (L:List Syn) (cf:Nat→Nat):PRunP T L cf [rowOf T.n fun _=>0]:=⟨rfl,fun i h=>by simp at h⟩
theorem PRunP.snoc {T:Tr} {L:List Syn} {cf:Nat→Nat} {M:List (List Nat)} (h:PRunP T L cf M) (hn:T.pnL L (fn (M.getD (M.length - 1) [])) T.n≠[]):PRunP T L cf (M++[T.pstep L cf (M.length - 1) (M.getD (M.length - 1) [])]):=by
 have hp:=h.pos
 refine ⟨by rw [List.getElem?_append_left hp];exact h.z,fun i hi=>?_⟩
 rw [List.length_append] at hi
 have hi':i<M.length:=by simp at hi;omega
 have e0:(M++[T.pstep L cf (M.length - 1) (M.getD (M.length - 1) [])]).getD i []=M.getD i []:=by rw [List.getD_eq_getElem?_getD,List.getElem?_append_left hi',List.getD_eq_getElem?_getD]
 rw [e0]
 by_cases e:i+1<M.length
 ·rw [show (M++[T.pstep L cf (M.length - 1) (M.getD (M.length - 1) [])]).getD (i+1) []=M.getD (i+1) [] from by rw [List.getD_eq_getElem?_getD,List.getElem?_append_left e,List.getD_eq_getElem?_getD]]
  exact h.st i e
 ·obtain rfl:i=M.length - 1:=by omega
  refine ⟨hn,?_⟩
  rw [List.getD_eq_getElem?_getD,show M.length - 1+1=M.length by omega,List.getElem?_append_right (Nat.le_refl _)]
  simp
def IsPRun (T:Tr) (L:List Syn) (cf:Nat→Nat) (M:List (List Nat)):Prop:=PRunP T L cf M∧T.pnL L (fn (M.getD (M.length - 1) [])) T.n=[]
theorem IsPRun.uniq {T:Tr} {L:List Syn} {cf:Nat→Nat} {M M':List (List Nat)} (h:IsPRun T L cf M) (k:IsPRun T L cf M'):M=M':=by
 have key:∀ i,i<M.length→i<M'.length→M.getD i []=M'.getD i []:=by
  intro i
  induction i with
  | zero => intro _ _;rw [List.getD_eq_getElem?_getD,List.getD_eq_getElem?_getD,h.1.z,k.1.z]
  | succ i ih =>
   intro h1 h2
   rw [(h.1.st i h1).2,(k.1.st i h2).2,ih (by omega) (by omega)]
 have hp:=h.1.pos
 have kp:=k.1.pos
 have hle:M.length≤M'.length:=Nat.le_of_not_lt fun hlt=>by
  have h1:=(h.1.st (M'.length - 1) (by omega)).1
  rw [key _ (by omega) (by omega)] at h1
  exact h1 k.2
 have hge:M'.length≤M.length:=Nat.le_of_not_lt fun hlt=>by
  have h1:=(k.1.st (M.length - 1) (by omega)).1
  rw [←key _ (by omega) (by omega)] at h1
  exact h1 h.2
 refine List.ext_getElem (by omega) fun i h1 h2=>?_
 have h3:=key i h1 h2
 rw [List.getD_eq_getElem?_getD,List.getD_eq_getElem?_getD,List.getElem?_eq_getElem h1,List.getElem?_eq_getElem h2] at h3
 exact h3
structure PRnI (T:Tr) (L:List Syn) (cf:Nat→Nat) (w1:World) (v9 v10:Value) (R:List Row) (wr:World):Prop where
 q:RowsQ wr w1.heap.size v10 R
 a:∀ x∈R,v10.ownBlock≠some x.g∧w1.heap.size≤x.g
 p:PRunP T L cf (R.map Row.l)
 lt:∃ r,R[R.length - 1]?=some r∧v9=r.val∧PCutL T L r.l∧tot (fn r.l) T.n+1=R.length
 ln:∀ x∈R,x.l.length=T.n
 bb:∀ b,v10.ownBlock=some b→b<wr.heap.size
 x:Ext w1 wr
theorem PRnI.ext {T:Tr} {L:List Syn} {cf:Nat→Nat} {w1:World} {v9 v10:Value} {R:List Row} {wr w':World} (h:PRnI T L cf w1 v9 v10 R wr) (x:Ext wr w'):PRnI T L cf w1 v9 v10 R w':=
 ⟨h.q.ext x,h.a,h.p,h.lt,h.ln,fun b e=>Nat.lt_of_lt_of_le (h.bb b e) x.le,h.x.trans x⟩
theorem PRnI.last {T:Tr} {L:List Syn} {cf:Nat→Nat} {w1:World} {v9 v10:Value} {R:List Row} {wr:World} (h:PRnI T L cf w1 v9 v10 R wr):∃ r,r∈R∧v9=r.val∧PCutL T L r.l∧tot (fn r.l) T.n+1=R.length∧(R.map Row.l).getD ((R.map Row.l).length - 1) []=r.l:=by
 obtain ⟨r,h1,h2,h3,h4⟩:=h.lt
 refine ⟨r,List.mem_of_getElem? h1,h2,h3,h4,?_⟩
 rw [List.getD_eq_getElem?_getD,List.length_map,List.getElem?_map,h1];rfl
theorem PRnI.add {T : Tr} {L : List Syn} {cf : Nat → Nat} {w1 : World} {v9 v10 v' : Value} {R : List Row} {W w' : World} {r0 r : Row} (h : PRnI T L cf w1 v9 v10 R W) (hn1 : 0 < T.n) (h0 : (R.map Row.l).getD ((R.map Row.l).length - 1) [] = r0.l) (hne : T.pnL L (fn r0.l) T.n ≠ []) (hL : SynOk T L) (ht : tot (fn r0.l) T.n + 1 = R.length) (hr : r.At W) (hl : r.l = T.pstep L cf (R.length - 1) r0.l) (hg : w1.heap.size ≤ r.g) (hv : v10.ownBlock ≠ some r.g)
    (hq:Que w' w1.heap.size 1 v' (R.length+1) (R.map Row.val++[r.val])) (hgr:W.grownBy w' v10.ownBlock) (ho:v'.ownBlock=v10.ownBlock∨v'.ownBlock=some W.heap.size):PRnI T L cf w1 r.val v' (R++[r]) w':=by
 have hmem:r.l∈T.pnext L r0.l:=by rw [hl];exact pstep_mem hne
 obtain ⟨hp1,hp2⟩:=PCutL.next hL hmem
 have hlen:∀ x∈R++[r],x.l.length=T.n:=fun x hx=>(List.mem_append.1 hx).elim (h.ln x) fun k=>by obtain rfl:=List.mem_singleton.1 k;exact hp1.1
 have hpos:∀ x∈R++[r],0<x.l.length:=fun x hx=>by rw [hlen x hx];exact hn1
 have ha:∀ x∈R++[r],v10.ownBlock≠some x.g∧w1.heap.size≤x.g:=fun x hx=>by
  rcases List.mem_append.1 hx with h1 | h1
  ·exact h.a x h1
  ·obtain rfl:=List.mem_singleton.1 h1;exact ⟨hv,hg⟩
 have hA:∀ x∈R++[r],x.At W:=fun x hx=>(List.mem_append.1 hx).elim (h.q.2 x) fun h1=>by obtain rfl:=List.mem_singleton.1 h1;exact hr
 refine ⟨RowsQ.app h.q (fun x hx=>by obtain rfl:=List.mem_singleton.1 hx;exact hr) hpos (fun x hx=>(ha x hx).1) hq hgr,fun x hx=>⟨RowsQ.app_apart hA hpos (fun x hx=>(ha x hx).1) ho x hx,(ha x hx).2⟩,?_,⟨r,by simp,rfl,hp1,by rw [hp2,List.length_append];simp;omega⟩,hlen,Que.own_lt hq (Nat.succ_pos _),h.x.below.grown hgr h.x.le (fun g e=>h.q.1.block g e)⟩
 have h3:=h.p.snoc (by rw [h0];exact hne)
 rw [h0] at h3
 rw [List.map_append,List.map_cons,List.map_nil,hl]
 rw [List.length_map] at h3
 exact h3
def PRunPost (T:Tr) (L:List Syn) (n:Nat) (ch:Nat→Int) (w:World) (e:Ending) (w':World):Prop:=Ext w w'∧((∃ r:Int,PFault T L True (∃ i,i<n∧ch i<0) r∧r≠0∧e=.returned (.tuple #[.slice none 0 0,.int .i64 r]))∨
 (PFault T L True (∃ i,i<n∧ch i<0) 0∧∃ v R,e=.returned (.tuple #[v,.int .i64 0])∧RowsQ w' w.heap.size v R∧IsPRun T L (chN n ch) (R.map Row.l)))
set_option maxHeartbeats 400000 in
theorem run1_any (w:World) (x:Int):Calls Tryz.prog 70 #[.int .i64 x] w fun e w'=>e=.returned (.bool (decide (x<0)))∧Ext w w':=by
 go_enter Tryz.func70,Tryz.ntmps70
 go_wp2_with fail
 go_ret
 exact ⟨rfl,Ext.refl _⟩
set_option maxRecDepth 100000 in
set_option maxHeartbeats 8000000 in
theorem prun_any (w : World) (T : TM) (hT : T.At w) (hn : T.n ≤ 1000) (D : SyD) (hD : D.At w) (ca : Option Addr) (cg co nc cc : Nat) (ch : Nat → Int) (hC : NumAt w nc ca cg co ch) (hch : ∀ i, i < nc → okI (ch i)) :
    Calls Tryz.prog 26 #[T.val,.slice D.s.a D.s.n D.s.c,.slice ca nc cc] w (PRunPost T.toTr D.l nc ch w):=by
 obtain ⟨j0,hj0,hy0,hy1,hy2⟩:=info_parts infoInts1
 have HIN:=Lib.hid (fun W=>initial_any W T hn)
 have HSZ:=Lib.hid (fun W (h:Ext w W) g (hr:IntRow W g T.n (fun _=>0))=>(show Calls Tryz.prog 69 #[T.val,.slice D.s.a D.s.n D.s.c,.slice (some ⟨g,0,none⟩) T.n T.n] W (fun e w'=>Ext W w'∧∃ r:Int,e=.returned (.int .i64 r)∧PSize T.toTr D.l True False r) from
  (sizes_any W T (hT.ext h) D (hD.ext h) (some ⟨g,0,none⟩) g 0 T.n T.n (fun _=>0) (hr.num (by omega))).mono fun e w' ⟨hx,r,he,hf⟩=>⟨hx,r,he,hf.congr ⟨fun _=>trivial,fun _=>rfl⟩ ⟨fun h=>h (InR_zero _),fun h=>h.elim⟩⟩))
 have HMD:=Lib.hid (fun W (h:Ext w W) (hV:T.toTr.Valid) (hL:SynOk T.toTr D.l) (hl:D.l.length≤1000)=>made_any W T (hT.ext h) hV D (hD.ext h) hL (by rw [D.len] at hl;exact hl))
 have HEN:=Lib.hid (fun W (h:Ext w W) (hV:T.toTr.Valid) (hL:SynOk T.toTr D.l) g o cap (c:Nat→Nat) (hC:NumAt W T.n (some ⟨g,o,none⟩) g o (natV c)) (hc:∀ p,p<T.n→c p≤T.en p)=>enabled_any W T (hT.ext h) hV D (hD.ext h) hL (some ⟨g,o,none⟩) g o cap c hC hc)
 have HHA:=Lib.hid (fun W (h:Ext w W)=>has_int W ca cg co nc cc (fun i=>.int .i64 (ch i)) 70 #[] (fun i=>decide (ch i<0)) hC.hn (fun h0=>hC.pa h0) (fun w' x i hi=>(h.trans x).cell (hC.c i hi)) (enters_of Tryz.func70 (by kernel_rfl) rfl) (fun i _ w' _=>run1_any w' (ch i)))
 have HCH:=Lib.hid hC
 have HOK:=Lib.hid hch
 have hcn:=hC.hn
 unfold PRunPost
 obtain ⟨ta,hta⟩:∃ z,z=T.a:=⟨_,rfl⟩
 obtain ⟨da,hda⟩:∃ z,z=D.s.a:=⟨_,rfl⟩
 obtain ⟨dn,hdn⟩:∃ z,z=D.s.n:=⟨_,rfl⟩
 simp only [TM.val,←hta] at HIN HSZ HMD HEN ⊢
 rw [←hda,←hdn] at HSZ HMD HEN
 rw [←hda,←hdn]
 obtain ⟨NG,hNG⟩:∃ P:Prop,P=(∃ i,i<nc∧ch i<0):=⟨_,rfl⟩
 obtain ⟨bn,hbn⟩:∃ z,z=anyB (fun i=>decide (ch i<0)) nc:=⟨_,rfl⟩
 have HNG:=Lib.hid (show bn=true↔NG from by rw [hbn,hNG,anyB_iff];simp)
 have HNI:=Lib.hid hNG
 rw [←hNG]
 rw [←hbn] at HHA
 clear hT hD hC hch hta hda hdn hNG hbn
 go_enter Tryz.func26,Tryz.ntmps26
 go_upto_region 1 with fail
 refine boxed1 (w:=w) (G:=fun x=>Code.wp _ _ _ _ x) ?_
 intro w1 hx1 hs1 ⟨l0,c0,_,_⟩
 clear hs1
 refine wp_region_held_drew (S:=fun w'=>Ext w1 w') (by kernel_rfl) (Ext.refl _).drew (fun hHeld=>?_)
 refine hQ 0 (v:=?_) rfl (y:=.inl ⟨by rfl,?_⟩) (h:=?_)
 rotate_left
 ·(intro w' hSw;(try dsimp only at hSw);have hSS:=Ext.refl w';go_simp;try with_reducible rfl)
 try simp only [Act.put,zA,zB,zC]
 refine hQ 1 (v:=?_) rfl (y:=.inl ⟨by rfl,?_⟩) (h:=?_)
 rotate_left
 ·(intro w' hSw;(try dsimp only at hSw);have hSS:=Ext.refl w';go_simp;try with_reducible rfl)
 try simp only [Act.put,zA,zB,zC]
 refine hQ 2 (v:=?_) rfl (y:=.inl ⟨by rfl,?_⟩) (h:=?_)
 rotate_left
 ·(intro w' hSw;(try dsimp only at hSw);have hSS:=Ext.refl w';go_simp;try with_reducible rfl)
 try simp only [Act.put,zA,zB,zC]
 refine wpAnyH_ready (rs:=[3]) (by kernel_rfl) (by simp) ?_
 refine AllReadyH.cons rfl (fun K hK=>?_) AllReadyH.nil
 go_simp
 go_at_call 49
 refine (HIN.out w1.drew).mono ?_
 rintro e w2 ⟨hx2,g,rfl,hr,-⟩
 have hx12:Ext w1 w2:=(Ext.refl w1).drew.trans hx2
 refine hK.out _ _ ?_ (fun hHeld2=>?_)
 ·exact hx12
 clear hK K
 try simp only [Act.put,zA,zB,zC]
 have hck:=HSZ.out w2 (hx1.trans hx12) g hr
 refine wpAnyH_ready (rs:=[4]) (by kernel_rfl) (by simp) ?_
 refine AllReadyH.cons rfl (fun K hK=>?_) AllReadyH.nil
 go_simp
 go_at_call 69
 refine hck.mono ?_
 rintro e w3 ⟨hx3,r,rfl,hf⟩
 have hx13:=hx12.trans hx3
 refine hK.out _ _ ?_ (fun hHeld3=>?_)
 ·exact hx13
 clear hK K
 try simp only [Act.put,zA,zB,zC]
 have HF:=Lib.hid hf
 clear hf hck hr
 refine hQ 5 (v:=?_) rfl (y:=.inl ⟨by rfl,?_⟩) (h:=?_)
 rotate_left
 ·(intro w' hSw;(try dsimp only at hSw);have hSS:=Ext.refl w';go_simp;try with_reducible rfl)
 try simp only [Act.put,zA,zB,zC]
 refine wpAnyH_done (by kernel_rfl) ?_ _
 clear hHeld hHeld2 hHeld3 hx2 hx3 hx12
 have hxw3:=hx1.trans hx13
 by_cases h0:r=0
 case neg=>
  have d0:(r == 0)=false:=by simpa using h0
  have H0:=Lib.hid (show PFault T.toTr D.l True NG r∧r≠0 from ⟨.inl ⟨by
   rcases HF.out with h1 | h1 | ⟨h1,h2,h3 | h3,h4⟩ | h1
   ·exact .inl h1
   ·exact .inr (.inl h1)
   ·exact .inr (.inr (.inl ⟨h1,h2,.inl h3,h4⟩))
   ·exact h3.elim
   ·exact absurd h1.2.2.2.2 h0,h0⟩,h0⟩)
  clear h0
  go_wp2_with fail
  go_ret2
  exact ⟨hxw3,.inl ⟨r,H0.out.1,H0.out.2,rfl⟩⟩
 subst h0
 obtain ⟨⟨hV,_⟩,hl,hL,_⟩:=HF.out.ok
 have HV:=Lib.hid hV
 have HL:=Lib.hid hL
 have HLN:=Lib.hid hl
 have hn8:=hV.n8
 have hn1:=hV.n1
 clear hV hL hl
 go_wp2_with fail
 go_at_call 38
 refine (HHA.out w3 hxw3).mono ?_
 rintro e w4 ⟨rfl,hx4⟩
 have hxw4:=hxw3.trans hx4
 have hx14:=hx13.trans hx4
 cases bn with
 | true =>
  have HNY:=Lib.hid (show NG from HNG.out.1 rfl)
  go_wp2_with fail
  go_ret2
  exact ⟨hxw4,.inl ⟨2,.inl ⟨.inr (.inr (.inl ⟨⟨HV.out,trivial⟩,HLN.out,.inr HNY.out,rfl⟩)),by decide⟩,by decide,rfl⟩⟩
 | false =>
 have HNN:=Lib.hid (show ¬NG from fun h=>absurd (HNG.out.2 h) (by decide))
 have HPS:=Lib.hid (show PSize T.toTr D.l True NG 0 from .inr (.inr (.inr ⟨⟨HV.out,trivial⟩,HLN.out,HL.out,HNN.out,rfl⟩)))
 have hmd:=HMD.out w4 hxw4 HV.out HL.out HLN.out
 go_wp2_with fail
 go_at_call 71
 refine hmd.mono ?_
 rintro e w5 ⟨hx5,bm,NV,rfl,hM⟩
 have hxw5:=hxw4.trans hx5
 have hx15:=hx14.trans hx5
 have hcy:=cycm_any w5 HV.out HL.out HLN.out hM
 clear hmd hM
 go_wp2_with fail
 go_at_call 72
 refine hcy.mono ?_
 rintro e w6 ⟨b,rfl,hb,hx6⟩
 have HB:=Lib.hid hb
 have hxw6:=hxw5.trans hx6
 have hx16:=hx15.trans hx6
 clear hb hcy
 cases b with
 | true =>
  go_wp2_with fail
  go_ret2
  exact ⟨hxw6,.inl ⟨10,.inr (.inl ⟨HPS.out,HB.out.1 (by trivial),rfl⟩),by decide,rfl⟩⟩
 | false =>
 have HA:=Lib.hid (show T.toTr.NoCyc D.l from Classical.byContradiction fun h=>absurd (HB.out.2 h) (by decide))
 have HFF:=Lib.hid (show PFault T.toTr D.l True NG 0 from .inr (.inr ⟨HPS.out,HA.out,rfl⟩))
 clear hx4 hx5 hx6 hxw3 hxw4 hxw5 hx13 hx14 hx15
 go_upto_region 9 with (go_at_call 49;refine (HIN.out w6).mono ?_;rintro e w7 ⟨hx7,g7,rfl,hr7,hg7⟩)
 have HR7:=Lib.hid hr7
 have HG7:=Lib.hid hg7
 have hx17:=hx16.trans hx7
 clear hr7 hg7
 go_upto_region 10 with fail
 refine boxed1 (w:=w7) (G:=fun x=>Code.wp _ _ _ _ x) ?_
 intro w8 hx8 hs8 ⟨_,_,_,k8⟩
 have hx18:=hx17.trans hx8
 have HST:=Lib.hid (show PRnI T.toTr D.l (chN nc ch) w1 (.slice (some ⟨g7,0,none⟩) T.n T.n) (.slice (some ⟨w7.heap.size,0,none⟩) 1 1) [⟨rowOf T.n fun _=>0,some ⟨g7,0,none⟩,g7,0,T.n⟩] w8 from by
  have hz:tot (fun _=>0) T.n=0:=by
   have:∀ n,tot (fun _=>0) n=0:=fun n=>by induction n with | zero=>rfl | succ n ih=>exact ih
   exact this _
  have hv:Row.val ⟨rowOf T.n fun _=>0,some ⟨g7,0,none⟩,g7,0,T.n⟩=.slice (some ⟨g7,0,none⟩) T.n T.n:=by show Value.slice _ (rowOf T.n fun _=>0).length _=_;rw [rowOf_len]
  have hg71:w1.heap.size≤g7:=Nat.le_trans hx16.le HG7.out
  have hlt7:=HR7.out.lt
  refine ⟨⟨by show Que w8 _ 1 _ 1 [Row.val ⟨rowOf T.n fun _=>0,some ⟨g7,0,none⟩,g7,0,T.n⟩];rw [hv];exact Que.ofHold1 k8 hx17.le,fun x hx=>?_⟩,fun x hx=>?_,PRunP.one _ _ _,⟨_,rfl,hv.symm,⟨rowOf_len _ _,(PCut.zero HL.out).congr HL.out fun p hp=>fn_rowOf hp⟩,by rw [totS_congr (g:=fun _=>0) fun p hp=>fn_rowOf hp,hz];rfl⟩,fun x hx=>by obtain rfl:=List.mem_singleton.1 hx;exact rowOf_len _ _,fun b e=>?_,hx18⟩
  ·obtain rfl:=List.mem_singleton.1 hx
   show NumAt w8 (rowOf T.n fun _=>0).length _ g7 0 (natV (fn (rowOf T.n fun _=>0)))
   rw [rowOf_len]
   have h1:=(HR7.out.ext hx8).num (by omega)
   exact ⟨h1.hn,h1.pa,h1.pb,fun p hp=>by rw [h1.c p hp];show some (Value.int .i64 0)=some (Value.int .i64 ((fn (rowOf T.n fun _=>0) p:Nat):Int));rw [fn_rowOf hp];rfl⟩
  ·obtain rfl:=List.mem_singleton.1 hx
   refine ⟨fun e=>?_,hg71⟩
   have h9:w7.heap.size=g7:=by simpa [Value.ownBlock] using e
   have h8:g7<w7.heap.size:=hlt7
   omega
  ·have h9:w7.heap.size=b:=by simpa [Value.ownBlock] using e
   have:=Hold.lt (W:=w8) k8;omega)
 clear hs8 k8 hx8 hx7 hx17 hx18 hx16 hxw6
 go_wp2_with fail
 go_loopg [9,10,11] (tot T.en T.n) (fun gg v9 v10 v11 wr=>∃ (j:Nat) (R:List Row),R.length=j+1∧gg=tot T.en T.n - j∧v11=.int .i64 j∧PRnI T.toTr D.l (chN nc ch) w1 v9 v10 R wr)
 case atStart=>exact ⟨0,_,rfl,rfl,rfl,HST.out⟩
 case round=>
  obtain ⟨j,R,hRl,rfl,rfl,hI⟩:=hrel
  obtain ⟨a10,c10,rfl⟩:=hI.q.1.slice
  obtain ⟨r0,hr0,rfl,hcu0,htt0,hld0⟩:=hI.last
  have hx1r:=hI.x
  have hxwr:=hx1.trans hx1r
  obtain ⟨l,hl⟩:∃ z,z=r0.l:=⟨_,rfl⟩
  have HTT:=Lib.hid (show j≤tot T.en T.n∧j≤512 from by
   have h1:tot (fn r0.l) T.n≤tot T.en T.n:=totS_le fun p hp=>hcu0.2.cut.le p hp
   have h2:tot (fn r0.l) T.n≤512:=hcu0.cutL.small HV.out (Nat.le_refl _)
   omega)
  have hj512:j≤512:=HTT.out.2
  have HRA:=Lib.hid (hI.q.2 r0 hr0)
  have HLD:=Lib.hid (And.intro hr0 (And.intro hcu0 (And.intro htt0 hld0)))
  have HRN:=Lib.hid (show NumAt wr T.n r0.a r0.g r0.o (natV (fn l)) from by
   have h1:=HRA.out
   unfold Row.At at h1
   rw [hcu0.1,←hl] at h1;exact h1)
  have HLL:=Lib.hid (show PCutL T.toTr D.l l from by rw [hl];exact hcu0)
  have HLE:=Lib.hid hl
  have hv9:r0.val=.slice r0.a T.n r0.c:=by unfold Row.val;rw [hcu0.1]
  rw [hv9] at hI ⊢
  obtain ⟨ra,hra⟩:∃ z,z=r0.a:=⟨_,rfl⟩
  obtain ⟨g,hg⟩:∃ z,z=r0.g:=⟨_,rfl⟩
  obtain ⟨o,ho⟩:∃ z,z=r0.o:=⟨_,rfl⟩
  obtain ⟨rc,hrc⟩:∃ z,z=r0.c:=⟨_,rfl⟩
  rw [←hra,←hg,←ho] at HRN
  rw [←hra,←hrc] at hI ⊢
  obtain rfl:ra=some ⟨g,o,none⟩:=HRN.out.pa (by omega)
  obtain ⟨lr,hlr⟩:∃ z,z=R.length:=⟨_,rfl⟩
  have HLR:=Lib.hid hlr
  have HRL:=Lib.hid hRl
  have hlr5:lr≤513:=by omega
  rw [←hlr] at hI ⊢
  have HI:=Lib.hid hI
  have hen:=HEN.out wr hxwr HV.out HL.out g o rc (fn l) HRN.out (fun p hp=>HLL.out.2.cut.le p hp)
  obtain ⟨pn,hpn⟩:∃ z,z=T.toTr.pnL D.l (fn l) T.n:=⟨_,rfl⟩
  obtain ⟨m,hm⟩:∃ z,z=pn.length:=⟨_,rfl⟩
  have hm8:m≤8:=by rw [hm,hpn];have:=T.toTr.pnL_len D.l (fn l) T.n;omega
  rw [←hpn,←hm] at hen
  have HPN:=Lib.hid hpn
  have HML:=Lib.hid hm
  clear hI HST hRl hlr hra hg ho hrc hl hv9 HRA hr0 hcu0 htt0 hld0 hpn hm
  go_upto_region 13 with (go_at_call 64;refine hen.mono ?_;rintro e w12 ⟨ve,rfl,hqe,hxr12⟩;obtain ⟨ea,eg,eo,ec,rfl,_,hep,hec⟩:=Que.cells1 hqe)
  have HI12:=Lib.hid (HI.out.ext hxr12)
  have HEP:=Lib.hid hep
  have HEC:=Lib.hid hec
  have hx112:=hx1r.trans hxr12
  have hxw12:=hxwr.trans hxr12
  clear hqe hep hec hen
  by_cases hm0:m=0
  ·subst hm0
   have HFI:=Lib.hid (show IsPRun T.toTr D.l (chN nc ch) (R.map Row.l) from ⟨HI12.out.p,by rw [HLD.out.2.2.2,←HLE.out,←HPN.out];exact List.eq_nil_of_length_eq_zero HML.out.symm⟩)
   go_wp2_with fail
   go_ret2
   exact ⟨hxw12,.inr ⟨HFF.out,_,R,rfl,HI12.out.q.mono hx1.le,HFI.out⟩⟩
  have d0:((m:Int) == 0)=false:=by simp;omega
  have d0':(m == 0)=false:=by simp;omega
  have hnz:¬((m:Int)=0):=by omega
  have hm0p:0<m:=by omega
  obtain ⟨rfl,heg1,heg2⟩:=HEP.out hm0p
  obtain ⟨x,hx⟩:∃ z,z=chN nc ch j:=⟨_,rfl⟩
  obtain ⟨k,hk⟩:∃ z,z=x % m:=⟨_,rfl⟩
  have hkm:k<m:=by rw [hk];exact Nat.mod_lt _ hm0p
  have hkm':(k:Int)<(m:Int):=by omega
  have hkp:k<pn.length:=by rw [←HML.out];exact hkm
  obtain ⟨p,hp⟩:∃ z,z=pn[k]:=⟨_,rfl⟩
  have hpf:p<T.n∧fn l p<T.en p∧PCut T.toTr D.l (upC (fn l) p):=by
   have h1:pn[k]∈T.toTr.pnL D.l (fn l) T.n:=by rw [←HPN.out];exact List.getElem_mem hkp
   rw [hp];exact Tr.mem_pnL.1 h1
  have hpn:=hpf.1
  have HNE:=Lib.hid (show T.toTr.pnL D.l (fn r0.l) T.n≠[] from by
   rw [←HLE.out,←HPN.out];intro e;rw [e] at hkp;exact absurd hkp (Nat.not_lt_zero _))
  have HPST:=Lib.hid (show rowOf T.n (upC (fn l) p)=T.toTr.pstep D.l (chN nc ch) (R.length - 1) r0.l from by
   unfold Tr.pstep
   rw [HRL.out,show j+1 - 1=j by omega,←hx,←HLE.out,←HPN.out,←HML.out,←hk,List.getD_eq_getElem?_getD,List.getElem?_eq_getElem hkp,hp];rfl)
  have HTT2:=Lib.hid (show j+1≤tot T.en T.n from by
   have h1:tot (upC (fn l) p) T.n≤tot T.en T.n:=totS_le fun q hq=>hpf.2.2.cut.le q hq
   rw [upC_tot hpn,HLE.out] at h1
   have:=HLD.out.2.2.1
   have:=HRL.out
   omega)
  have HTT:=HTT2
  have ecell:∀ w',Ext w12 w'→w'.cell? ⟨eg,eo+k,none⟩=some (.int .i64 (p:Int)):=fun w' x=>by
   refine x.cell ?_
   rw [HEC.out k hkm,natInts_get (i:=k) (v:=p) (by rw [hp];exact List.getElem?_eq_getElem hkp)]
  have eb:∀ w',Ext w12 w'→eg<w'.heap.size:=fun w' x=>Nat.lt_of_lt_of_le heg2 x.le
  have h1212:Ext w12 w12:=Ext.refl _
  obtain ⟨cp,hcp⟩:∃ z,z=fn l p:=⟨_,rfl⟩
  have HCP:=Lib.hid hcp
  have hcp64:cp<64:=by have h1:=hpf.2.1;have h2:=HV.out.en64 hpn;rw [hcp];show fn l p<64;have h3:fn l p<T.toTr.en p:=h1;omega
  have hw1:IntKind.i64.wrap ((cp:Int)+1)=(cp:Int)+1:=IntWalk.i64_in _ (by omega)
  have hw2:IntKind.i64.wrap ((j:Int)+1)=(j:Int)+1:=IntWalk.i64_in _ (by omega)
  clear hpf hcp hp hkp hm0 HTT2
  by_cases hjc:j<nc
  ·have dj:(j:Int)<(nc:Int):=by omega
   have HX:=Lib.hid (show ch j=(x:Int)∧(x:Int)<9223372036854775808 from by
    have h1:¬ch j<0:=fun h=>HNN.out (by rw [HNI.out];exact ⟨j,hjc,h⟩)
    have h2:=HOK.out j hjc
    have h3:x=(ch j).toNat:=by rw [hx];unfold chN;rw [if_pos hjc]
    unfold okI at h2
    omega)
   have hmod:Int.tmod (x:Int) (m:Int)=(k:Int):=by rw [hk];rfl
   have hmod2:(x:Int) % (m:Int)=(k:Int):=by rw [hk];rfl
   have hwx:IntKind.i64.wrap (x:Int)=(x:Int):=IntWalk.i64_in _ (by have:=HX.out.2;omega)
   have hwk:IntKind.i64.wrap (k:Int)=(k:Int):=IntWalk.i64_in _ (by omega)
   obtain rfl:=HCH.out.pa (by omega)
   have cc0:∀ w',Ext w w'→w'.cell? ⟨cg,co+j,none⟩=some (.int .i64 (x:Int)):=fun w' y=>by rw [y.cell (HCH.out.c j hjc),HX.out.1]
   have cb0:∀ w',Ext w w'→cg<w'.heap.size:=fun w' y=>Nat.lt_of_lt_of_le (HCH.out.pb (by omega)) y.le
   clear hx hk
   go_upto_region 19 with (go_at_call 65;refine (clonen_any w12 g o T.n rc (natV (fn l)) ((HRN.out.ext hxr12)) (by omega) hn1).mono ?_;rintro e w13 ⟨g5,o5,c5',rfl,q1,q2,q3,hx13⟩)
   have HQ3:=Lib.hid q3
   have l5:∀ w',Ext w13 w'→g5<w'.heap.size:=fun w' x=>Nat.lt_of_lt_of_le q2 x.le
   have k5:∀ w',Ext w13 w'→w'.cell? ⟨g5,o5+p,none⟩=some (.int .i64 (cp:Int)):=fun w' x=>by rw [HCP.out];exact x.cell (HQ3.out p hpn).1
   have f5:∀ w',Ext w13 w'→w'.frozen? ⟨g5,o5+p,none⟩=false:=fun w' x=>(x.frozen (p:=⟨g5,o5+p,none⟩) q2).trans (HQ3.out p hpn).2
   have h1313:Ext w13 w13:=Ext.refl _
   have HG5:=Lib.hid (And.intro q1 q2)
   clear q3 q1 q2
   go_upto_region 20 with fail
   refine setm1 (G:=fun x=>Code.wp _ _ _ _ x) ?_
   intro w14 hw14
   have HX14:=Lib.hid (show Ext w12 w14 from by rw [hw14];exact hx13.setCell HG5.out.1 _)
   have HN14:=Lib.hid (show Row.At ⟨rowOf T.n (upC (fn l) p),some ⟨g5,o5,none⟩,g5,o5,c5'⟩ w14 from by
    show NumAt w14 (rowOf T.n (upC (fn l) p)).length _ g5 o5 (natV (fn (rowOf T.n (upC (fn l) p))))
    rw [rowOf_len]
    refine ⟨by omega,fun _=>rfl,fun _=>by rw [hw14,World.size_setCell];exact HG5.out.2,fun q hq=>?_⟩
    show _=some (Value.int .i64 ((fn (rowOf T.n (upC (fn l) p)) q:Nat):Int))
    rw [fn_rowOf hq,hw14]
    by_cases e:q=p
    ·subst e
     refine (World.cell?_setCell_same _ _ _ (HQ3.out q hq).1).trans ?_
     rw [upC_same,HCP.out];rfl
    ·refine Eq.trans (World.cell?_setCell_other _ _ _ _ fun h9=>?_) ((HQ3.out q hq).1.trans ?_)
     ·simp only [Addr.mk.injEq] at h9;omega
     ·rw [upC_other e])
   have HI14:=Lib.hid (HI12.out.ext HX14.out)
   have hx114:=HI14.out.x
   have hxw14:=hx1.trans hx114
   have HGB:=Lib.hid (show w1.heap.size≤g5 from by have:=HG5.out.1;have:=HI12.out.x.le;omega)
   have HGO:=Lib.hid (show (Value.slice a10 lr c10).ownBlock≠some g5 from fun e=>by have h1:=HI12.out.bb g5 e;have:=HG5.out.1;omega)
   clear hw14 l5 k5 f5 h1313 hx13
   go_upto_region 21 with (at_builtin;go_loud (refine wpList_append_que _ rfl _ _ 47 47 rfl (base:=w1.heap.size) (e:=39) (size:=1) j0 (.slice none 0 0) 24 Tryz.underlying47 hj0 hy0 hy1 hy2 rfl rfl (v:=.slice a10 lr c10) (n:=lr) (xs:=R.map Row.val) (by have h1:=(HI14.out.q.1.ext (Ext.alloc w14 (.cells #[.slice (some ⟨g5,o5,none⟩) T.n c5'] 39)));rw [←HLR.out] at h1;exact h1) (by rw [World.size_alloc];have:=hx114.le;omega) (.slice (some ⟨w14.heap.size,0,none⟩) 1 1) 1 [.slice (some ⟨g5,o5,none⟩) T.n c5'] rfl (by exact Src.ofSlice _ Tryz.underlying47 ⟨w14.heap.size,0,none⟩ 1 1 _ rfl (news_ok w14 _ _) (by intro u hu;simp at hu;subst hu;rfl)) (by unfold maxLen;omega) (by omega) ?_;rintro v15 w15 hq15 hg15 ho15))
   have HNF:=Lib.hid (show PRnI T.toTr D.l (chN nc ch) w1 (.slice (some ⟨g5,o5,none⟩) T.n c5') v15 (R++[⟨rowOf T.n (upC (fn l) p),some ⟨g5,o5,none⟩,g5,o5,c5'⟩]) w15 from by
    have h9:=(HI14.out.ext (Ext.alloc w14 (.cells #[.slice (some ⟨g5,o5,none⟩) T.n c5'] 39))).add (v':=v15) (w':=w15) (r0:=r0) (r:=⟨rowOf T.n (upC (fn l) p),some ⟨g5,o5,none⟩,g5,o5,c5'⟩) hn1 HLD.out.2.2.2 HNE.out HL.out HLD.out.2.2.1 (HN14.out.ext (Ext.alloc _ _)) HPST.out HGB.out HGO.out (by
     rw [←HLR.out]
     show Que w15 _ 1 v15 (lr+1) (R.map Row.val++[.slice (some ⟨g5,o5,none⟩) (rowOf T.n (upC (fn l) p)).length c5'])
     rw [rowOf_len];exact hq15) hg15 ho15
    have e:Row.val ⟨rowOf T.n (upC (fn l) p),some ⟨g5,o5,none⟩,g5,o5,c5'⟩=.slice (some ⟨g5,o5,none⟩) T.n c5':=by show Value.slice _ (rowOf T.n (upC (fn l) p)).length _=_;rw [rowOf_len]
    rw [e] at h9;exact h9)
   clear hq15 hg15 ho15
   go_wp2_with fail
   go_roundg (tot T.en T.n - (j+1))
   case rel=>exact ⟨j+1,_,by rw [List.length_append,HRL.out];rfl,rfl,by go_num,HNF.out⟩
   case measure=>have:=HTT.out;omega
  ·have dj:¬(j:Int)<(nc:Int):=by omega
   obtain rfl:k=0:=by rw [hk,hx];unfold chN;rw [if_neg hjc,Nat.zero_mod]
   have ecell0:∀ w',Ext w12 w'→w'.cell? ⟨eg,eo,none⟩=some (.int .i64 (p:Int)):=fun w' x=>ecell w' x
   clear hx hk
   go_upto_region 19 with (go_at_call 65;refine (clonen_any w12 g o T.n rc (natV (fn l)) ((HRN.out.ext hxr12)) (by omega) hn1).mono ?_;rintro e w13 ⟨g5,o5,c5',rfl,q1,q2,q3,hx13⟩)
   have HQ3:=Lib.hid q3
   have l5:∀ w',Ext w13 w'→g5<w'.heap.size:=fun w' x=>Nat.lt_of_lt_of_le q2 x.le
   have k5:∀ w',Ext w13 w'→w'.cell? ⟨g5,o5+p,none⟩=some (.int .i64 (cp:Int)):=fun w' x=>by rw [HCP.out];exact x.cell (HQ3.out p hpn).1
   have f5:∀ w',Ext w13 w'→w'.frozen? ⟨g5,o5+p,none⟩=false:=fun w' x=>(x.frozen (p:=⟨g5,o5+p,none⟩) q2).trans (HQ3.out p hpn).2
   have h1313:Ext w13 w13:=Ext.refl _
   have HG5:=Lib.hid (And.intro q1 q2)
   clear q3 q1 q2
   go_upto_region 20 with fail
   refine setm1 (G:=fun x=>Code.wp _ _ _ _ x) ?_
   intro w14 hw14
   have HX14:=Lib.hid (show Ext w12 w14 from by rw [hw14];exact hx13.setCell HG5.out.1 _)
   have HN14:=Lib.hid (show Row.At ⟨rowOf T.n (upC (fn l) p),some ⟨g5,o5,none⟩,g5,o5,c5'⟩ w14 from by
    show NumAt w14 (rowOf T.n (upC (fn l) p)).length _ g5 o5 (natV (fn (rowOf T.n (upC (fn l) p))))
    rw [rowOf_len]
    refine ⟨by omega,fun _=>rfl,fun _=>by rw [hw14,World.size_setCell];exact HG5.out.2,fun q hq=>?_⟩
    show _=some (Value.int .i64 ((fn (rowOf T.n (upC (fn l) p)) q:Nat):Int))
    rw [fn_rowOf hq,hw14]
    by_cases e:q=p
    ·subst e
     refine (World.cell?_setCell_same _ _ _ (HQ3.out q hq).1).trans ?_
     rw [upC_same,HCP.out];rfl
    ·refine Eq.trans (World.cell?_setCell_other _ _ _ _ fun h9=>?_) ((HQ3.out q hq).1.trans ?_)
     ·simp only [Addr.mk.injEq] at h9;omega
     ·rw [upC_other e])
   have HI14:=Lib.hid (HI12.out.ext HX14.out)
   have hx114:=HI14.out.x
   have hxw14:=hx1.trans hx114
   have HGB:=Lib.hid (show w1.heap.size≤g5 from by have:=HG5.out.1;have:=HI12.out.x.le;omega)
   have HGO:=Lib.hid (show (Value.slice a10 lr c10).ownBlock≠some g5 from fun e=>by have h1:=HI12.out.bb g5 e;have:=HG5.out.1;omega)
   clear hw14 l5 k5 f5 h1313 hx13
   go_upto_region 21 with (at_builtin;go_loud (refine wpList_append_que _ rfl _ _ 47 47 rfl (base:=w1.heap.size) (e:=39) (size:=1) j0 (.slice none 0 0) 24 Tryz.underlying47 hj0 hy0 hy1 hy2 rfl rfl (v:=.slice a10 lr c10) (n:=lr) (xs:=R.map Row.val) (by have h1:=(HI14.out.q.1.ext (Ext.alloc w14 (.cells #[.slice (some ⟨g5,o5,none⟩) T.n c5'] 39)));rw [←HLR.out] at h1;exact h1) (by rw [World.size_alloc];have:=hx114.le;omega) (.slice (some ⟨w14.heap.size,0,none⟩) 1 1) 1 [.slice (some ⟨g5,o5,none⟩) T.n c5'] rfl (by exact Src.ofSlice _ Tryz.underlying47 ⟨w14.heap.size,0,none⟩ 1 1 _ rfl (news_ok w14 _ _) (by intro u hu;simp at hu;subst hu;rfl)) (by unfold maxLen;omega) (by omega) ?_;rintro v15 w15 hq15 hg15 ho15))
   have HNF:=Lib.hid (show PRnI T.toTr D.l (chN nc ch) w1 (.slice (some ⟨g5,o5,none⟩) T.n c5') v15 (R++[⟨rowOf T.n (upC (fn l) p),some ⟨g5,o5,none⟩,g5,o5,c5'⟩]) w15 from by
    have h9:=(HI14.out.ext (Ext.alloc w14 (.cells #[.slice (some ⟨g5,o5,none⟩) T.n c5'] 39))).add (v':=v15) (w':=w15) (r0:=r0) (r:=⟨rowOf T.n (upC (fn l) p),some ⟨g5,o5,none⟩,g5,o5,c5'⟩) hn1 HLD.out.2.2.2 HNE.out HL.out HLD.out.2.2.1 (HN14.out.ext (Ext.alloc _ _)) HPST.out HGB.out HGO.out (by
     rw [←HLR.out]
     show Que w15 _ 1 v15 (lr+1) (R.map Row.val++[.slice (some ⟨g5,o5,none⟩) (rowOf T.n (upC (fn l) p)).length c5'])
     rw [rowOf_len];exact hq15) hg15 ho15
    have e:Row.val ⟨rowOf T.n (upC (fn l) p),some ⟨g5,o5,none⟩,g5,o5,c5'⟩=.slice (some ⟨g5,o5,none⟩) T.n c5':=by show Value.slice _ (rowOf T.n (upC (fn l) p)).length _=_;rw [rowOf_len]
    rw [e] at h9;exact h9)
   clear hq15 hg15 ho15
   go_wp2_with fail
   go_roundg (tot T.en T.n - (j+1))
   case rel=>exact ⟨j+1,_,by rw [List.length_append,HRL.out];rfl,rfl,by go_num,HNF.out⟩
   case measure=>have:=HTT.out;omega
end Go.Proofs.YtkhgpockmaghjaaGreat
