/- Contracts and laws in plain Lean for RApp: group W85. -/
import Derived.Test.YtkhgpockmaghjaaGreatW84
import Derived.Test.YtkhgpockmaghjaaGreatW38
namespace Go.Proofs.YtkhgpockmaghjaaGreat
open Go.RowKit Go.Shelf
attribute [local go_sem] Oper.semAt_some
theorem full_pcut {T:Tr} {L:List Syn} (hL:SynOk T L):PCut T L T.en:=
 ⟨⟨fun _ _=>Nat.le_refl _,fun x hx _ _=>(Tr.sndN_V hx).2⟩,(per_iff' hL)⟩
where
 per_iff' {T:Tr} {L:List Syn} (hL:SynOk T L):PerP L (natV T.en):=fun s hs _=>by
  obtain ⟨⟨_,_,_,h4⟩,_⟩:=hL s hs
  exact h4
theorem pnL_nil {T:Tr} {L:List Syn} (hV:T.Valid) (hL:SynOk T L) (hA:T.NoCyc L) {c:Nat→Nat} (hc:PCut T L c) (h:T.pnL L c T.n=[]):∀ p,p<T.n→c p=T.en p:=by
 intro p hp
 refine Nat.le_antisymm (hc.cut.le p hp) (Nat.le_of_not_lt fun hlt=>?_)
 obtain ⟨q,hq,h1,h2⟩:=PCut.ex hV hL hA hc (full_pcut hL) hp hlt
 have:q∈T.pnL L c T.n:=Tr.mem_pnL.2 ⟨hq,h1,h2⟩
 rw [h] at this;cases this
theorem prun_cut {T:Tr} {L:List Syn} {cf:Nat→Nat} {M:List (List Nat)} (hL:SynOk T L) (h:PRunP T L cf M):∀ i,i<M.length→PCutL T L (M.getD i [])∧tot (fn (M.getD i [])) T.n=i
 | 0,_ => by
  have hz:M.getD 0 []=rowOf T.n fun _=>0:=by rw [List.getD_eq_getElem?_getD,h.z];rfl
  rw [hz]
  refine ⟨⟨rowOf_len _ _,(PCut.zero hL).congr hL fun p hp=>fn_rowOf hp⟩,?_⟩
  rw [totS_congr (g:=fun _=>0) fun p hp=>fn_rowOf hp]
  have:∀ n,tot (fun _=>0) n=0:=fun n=>by induction n with | zero=>rfl | succ n ih=>exact ih
  exact this _
 | i+1,hi => by
  obtain ⟨h1,h2⟩:=prun_cut hL h i (by omega)
  obtain ⟨h3,h4⟩:=h.st i hi
  have h5:=PCutL.next hL (pstep_mem (cf:=cf) (i:=i) h3)
  rw [h4]
  exact ⟨h5.1,by rw [h5.2,h2]⟩
theorem getD_get {l:List Nat} {k:Nat} (h:k<l.length):l.getD k 0=l[k]:=by
 rw [List.getD_eq_getElem?_getD,List.getElem?_eq_getElem h];rfl
theorem prun_step {T:Tr} {L:List Syn} {cf:Nat→Nat} {M:List (List Nat)} (h:PRunP T L cf M) {i:Nat} (hi:i+1<M.length):∃ p,p∈T.pnL L (fn (M.getD i [])) T.n∧M.getD (i+1) []=rowOf T.n (upC (fn (M.getD i [])) p):=by
 obtain ⟨h3,h4⟩:=h.st i hi
 have h0:0<(T.pnL L (fn (M.getD i [])) T.n).length:=List.length_pos_iff.2 h3
 have h1:=Nat.mod_lt (cf i) h0
 refine ⟨(T.pnL L (fn (M.getD i [])) T.n)[cf i % (T.pnL L (fn (M.getD i [])) T.n).length],List.getElem_mem h1,?_⟩
 rw [h4]
 unfold Tr.pstep
 rw [getD_get h1]
theorem prun_runL {T:Tr} {L:List Syn} {cf:Nat→Nat} {M:List (List Nat)} (hV:T.Valid) (hL:SynOk T L) (hA:T.NoCyc L) (h:IsPRun T L cf M):RunL T M:=by
 have hpos:=h.1.pos
 have get:∀ i l,M[i]?=some l→i<M.length∧M.getD i []=l:=fun i l e=>⟨(List.getElem?_eq_some_iff.1 e).1,by rw [List.getD_eq_getElem?_getD,e];rfl⟩
 have mem:∀ l,l∈M→PCutL T L l:=fun l hl=>by
  obtain ⟨i,hi⟩:=List.getElem?_of_mem hl
  obtain ⟨h1,h2⟩:=get i l hi
  rw [←h2];exact (prun_cut hL h.1 i h1).1
 refine ⟨hpos,fun l hl=>(mem l hl).1,fun l hl p hp=>(mem l hl).2.cut.le p hp,fun l hl p hp=>?_,fun l hl p hp=>?_,fun i l m hl hm=>?_⟩
 ·have:=hl.symm.trans h.1.z
  rw [Option.some.inj this];exact fn_rowOf hp
 ·obtain ⟨h1,h2⟩:=get _ l hl
  have h3:=h.2
  rw [h2] at h3
  exact pnL_nil hV hL hA (mem l (List.mem_of_getElem? hl)).2 h3 p hp
 ·obtain ⟨h1,h2⟩:=get _ m hm
  obtain ⟨_,h3⟩:=get _ l hl
  obtain ⟨p,hp,he⟩:=prun_step h.1 h1
  rw [h3] at hp he
  rw [h2] at he
  obtain ⟨hpn,hlt,hup⟩:=Tr.mem_pnL.1 hp
  refine ⟨p,hpn,?_,fun q hq=>by rw [he];exact fn_rowOf hq⟩
  unfold Tr.mayB
  rw [Bool.and_eq_true,Bool.or_eq_true]
  refine ⟨decide_eq_true hlt,?_⟩
  by_cases h3:T.kind p (fn l p)=3
  ·right
   have hVp:T.V (p,fn l p):=⟨hpn,hlt⟩
   have h4:=hup.cut.cl (p,fn l p) hVp (by show fn l p<upC (fn l) p p;rw [upC_same];omega) h3
   have h5:(T.sndN (p,fn l p)).1≠p:=fun e=>by
    have h6:=peer_snd hV hVp h3
    have h7:FormedP T p (T.kind p (fn l p)) (T.peer p (fn l p)) (T.msg p (fn l p)):=hV.formed ⟨(p,fn l p),hVp⟩
    rw [e] at h6
    simp only at h6
    rcases h7 with h7 | h7 <;> omega
   rw [upC_other h5] at h4
   exact decide_eq_true h4
  ·exact .inl (decide_eq_true h3)
set_option maxRecDepth 100000 in
set_option maxHeartbeats 2000000 in
theorem rruns1 (w : World) (n bD bR bI rg ro rn rc i g o cc g2 o2 c2 : Nat) (d e : Nat → Nat)
    (hbD:Hold w bD #[.slice (some ⟨g,o,none⟩) n cc]) (hbR:Hold w bR #[.slice (some ⟨rg,ro,none⟩) rn rc]) (hbI:Hold w bI #[.int .i64 (i:Nat)])
    (hi:i+1<rn) (hrn:rn≤100000) (hrg:rg<w.heap.size) (hr:w.cell? ⟨rg,ro+(i+1),none⟩=some (.slice (some ⟨g2,o2,none⟩) n c2)) (hd:NumAt w n (some ⟨g,o,none⟩) g o (natV d)) (he:NumAt w n (some ⟨g2,o2,none⟩) g2 o2 (natV e)) (hn:n≤1000) (q:Nat) (hq:q<n) (hdq:d q≤1000) :
    Calls Tryz.prog 39 #[.int .i64 (q:Nat),.pointer (some ⟨bD,0,none⟩),.pointer (some ⟨bR,0,none⟩),.pointer (some ⟨bI,0,none⟩)] w fun e' w'=>e'=.returned (.bool (eqUp n e d q))∧Ext w w':=by
 have hst:=Lib.hid (fun W (x:Ext w W)=>rstep_any W (some ⟨g,o,none⟩) g o n cc d (hd.ext x) q hq hn (by omega))
 have hii:(i:Int)+1<(rn:Int):=by omega
 have hw1:IntKind.i64.wrap ((i:Int)+1)=(i:Int)+1:=IntWalk.i64_in _ (by omega)
 have hw2:((i:Int)+1).toNat=i+1:=by omega
 have hi0:(0:Int)≤(i:Int)+1:=by omega
 have d0:decide ((0:Int)≤(q:Int))=true:=decide_eq_true (by omega)
 have d1:decide ((q:Int)<(n:Int))=true:=decide_eq_true (by omega)
 have d1':decide (q<n)=true:=decide_eq_true hq
 obtain ⟨lD,cD,_,_⟩:=hbD.box
 obtain ⟨lR,cR,_,_⟩:=hbR.box
 obtain ⟨lI,cI,_,_⟩:=hbI.box
 have r0:∀ w',Ext w w'→w'.cell? ⟨rg,ro+(i+1),none⟩=some (.slice (some ⟨g2,o2,none⟩) n c2):=fun w' x=>x.cell hr
 have rl:∀ w',Ext w w'→rg<w'.heap.size:=fun w' x=>Nat.lt_of_lt_of_le hrg x.le
 have HE:=Lib.hid he
 have hww:Ext w w:=Ext.refl _
 clear hbD hbR hbI hrg hr hd he
 go_enter Tryz.func39,Tryz.ntmps39
 go_upto_region 1 with fail
 refine wp_region_held_drew (S:=fun w'=>Ext w w') (by kernel_rfl) (Ext.refl _).drew (fun hHeld=>?_)
 refine hQ 0 (v:=?_) rfl (y:=.inl ⟨by rfl,?_⟩) (h:=?_)
 rotate_left
 ·(intro w' hSw;(try dsimp only at hSw);have hSS:=Ext.refl w';go_simp;try with_reducible rfl)
 try simp only [Act.put,zA,zB,zC]
 refine hQ 1 (v:=?_) rfl (y:=.inl ⟨by rfl,?_⟩) (h:=?_)
 rotate_left
 ·(intro w' hSw;(try dsimp only at hSw);have hSS:=Ext.refl w';go_simp;try with_reducible rfl)
 try simp only [Act.put,zA,zB,zC]
 refine hQ 2 (v:=?_) rfl (y:=.inl ⟨by rfl,?_⟩) (h:=?_)
 rotate_left
 ·(intro w' hSw;(try dsimp only at hSw);have hSS:=Ext.refl w';go_simp;try with_reducible rfl)
 try simp only [Act.put,zA,zB,zC]
 refine hQ 3 (v:=?_) rfl (y:=.inl ⟨by rfl,?_⟩) (h:=?_)
 rotate_left
 ·(intro w' hSw;(try dsimp only at hSw);have hSS:=Ext.refl w';go_simp;try with_reducible rfl)
 try simp only [Act.put,zA,zB,zC]
 refine hQ 4 (v:=?_) rfl (y:=.inl ⟨by rfl,?_⟩) (h:=?_)
 rotate_left
 ·(intro w' hSw;(try dsimp only at hSw);have hSS:=Ext.refl w';go_simp;try with_reducible rfl)
 try simp only [Act.put,zA,zB,zC]
 refine hQ 5 (v:=?_) rfl (y:=.inl ⟨by rfl,?_⟩) (h:=?_)
 rotate_left
 ·(intro w' hSw;(try dsimp only at hSw);have hSS:=Ext.refl w';go_simp;try with_reducible rfl)
 try simp only [Act.put,zA,zB,zC]
 refine hQ 6 (v:=?_) rfl (y:=.inl ⟨by rfl,?_⟩) (h:=?_)
 rotate_left
 ·(intro w' hSw;(try dsimp only at hSw);have hSS:=Ext.refl w';go_simp;try with_reducible rfl)
 try simp only [Act.put,zA,zB,zC]
 refine hQ 7 (v:=?_) rfl (y:=.inl ⟨by rfl,?_⟩) (h:=?_)
 rotate_left
 ·(intro w' hSw;(try dsimp only at hSw);have hSS:=Ext.refl w';go_simp;try with_reducible rfl)
 try simp only [Act.put,zA,zB,zC]
 refine hQ 8 (v:=?_) rfl (y:=.inl ⟨by rfl,?_⟩) (h:=?_)
 rotate_left
 ·(intro w' hSw;(try dsimp only at hSw);have hSS:=Ext.refl w';go_simp;try with_reducible rfl)
 try simp only [Act.put,zA,zB,zC]
 refine hQ 9 (v:=?_) rfl (y:=.inl ⟨by rfl,?_⟩) (h:=?_)
 rotate_left
 ·(intro w' hSw;(try dsimp only at hSw);have hSS:=Ext.refl w';go_simp;try with_reducible rfl)
 try simp only [Act.put,zA,zB,zC]
 refine hQ 10 (v:=?_) rfl (y:=.inl ⟨by rfl,?_⟩) (h:=?_)
 rotate_left
 ·(intro w' hSw;(try dsimp only at hSw);have hSS:=Ext.refl w';go_simp;try with_reducible rfl)
 try simp only [Act.put,zA,zB,zC]
 refine hQ 11 (v:=?_) rfl (y:=.inl ⟨by rfl,?_⟩) (h:=?_)
 rotate_left
 ·(intro w' hSw;(try dsimp only at hSw);have hSS:=Ext.refl w';go_simp;try with_reducible rfl)
 try simp only [Act.put,zA,zB,zC]
 refine hQ 12 (v:=?_) rfl (y:=.inl ⟨by rfl,?_⟩) (h:=?_)
 rotate_left
 ·(intro w' hSw;(try dsimp only at hSw);have hSS:=Ext.refl w';go_simp;try with_reducible rfl)
 try simp only [Act.put,zA,zB,zC]
 refine hQ 13 (v:=?_) rfl (y:=.inl ⟨by rfl,?_⟩) (h:=?_)
 rotate_left
 ·(intro w' hSw;(try dsimp only at hSw);have hSS:=Ext.refl w';go_simp;try with_reducible rfl)
 try simp only [Act.put,zA,zB,zC]
 refine hQ 14 (v:=?_) rfl (y:=.inl ⟨by rfl,?_⟩) (h:=?_)
 rotate_left
 ·(intro w' hSw;(try dsimp only at hSw);have hSS:=Ext.refl w';go_simp;try with_reducible rfl)
 try simp only [Act.put,zA,zB,zC]
 refine hQ 15 (v:=?_) rfl (y:=.inl ⟨by rfl,?_⟩) (h:=?_)
 rotate_left
 ·(intro w' hSw;(try dsimp only at hSw);have hSS:=Ext.refl w';go_simp;try with_reducible rfl)
 try simp only [Act.put,zA,zB,zC]
 have hA:Ext w w.drew:=(Ext.refl w).drew
 have hs:=hst.out w.drew hA
 unfold RowPost at hs
 refine wpAnyH_ready (rs:=[16]) (by kernel_rfl) (by simp) ?_
 refine AllReadyH.cons rfl (fun K hK=>?_) AllReadyH.nil
 go_simp
 go_at_call 40
 refine hs.mono ?_
 rintro e' w2 ⟨hx2,g5,o5,c5,rfl,hn5,-⟩
 have hxw2:=hA.trans hx2
 refine hK.out _ _ hxw2 (fun hHeld2=>?_)
 clear hK K
 try simp only [Act.put,zA,zB,zC]
 clear hHeld hs
 have hHeld:=hHeld2
 clear hHeld2
 have hqq:=bool_fix (eqi_any w2 (some ⟨g2,o2,none⟩) (some ⟨g5,o5,none⟩) g2 o2 g5 o5 n n c2 c5 (natV e) (natV (upC d q)) (HE.out.ext hxw2) hn5) (b:=eqUp n e d q) eqUp_iff
 obtain ⟨be,hbe⟩:∃ z,z=eqUp n e d q:=⟨_,rfl⟩
 have HBE:=Lib.hid hbe
 rw [←hbe] at hqq
 clear hbe
 refine wpAnyH_ready (rs:=[17]) (by kernel_rfl) (by simp) ?_
 refine AllReadyH.cons rfl (fun K hK=>?_) AllReadyH.nil
 go_simp
 go_at_call 22
 refine hqq.mono ?_
 rintro e' w4 ⟨rfl,hx4⟩
 have hxw4:=hxw2.trans hx4
 refine hK.out _ _ hxw4 (fun hHeld2=>?_)
 clear hK K
 try simp only [Act.put,zA,zB,zC]
 clear hHeld hqq
 have hHeld:=hHeld2
 clear hHeld2
 refine hQ 18 (v:=?_) rfl (y:=.inl ⟨by rfl,?_⟩) (h:=?_)
 rotate_left
 ·(intro w' hSw;(try dsimp only at hSw);have hSS:=Ext.refl w';go_simp;try with_reducible rfl)
 try simp only [Act.put,zA,zB,zC]
 refine hQ 19 (v:=?_) rfl (y:=.inl ⟨by rfl,?_⟩) (h:=?_)
 rotate_left
 ·(intro w' hSw;(try dsimp only at hSw);have hSS:=Ext.refl w';go_simp;try with_reducible rfl)
 try simp only [Act.put,zA,zB,zC]
 refine wpAnyH_done (by kernel_rfl) ?_ _
 clear hHeld
 go_wp2_with fail
 go_ret
 exact ⟨by rw [←HBE.out];rfl,hxw4⟩
end Go.Proofs.YtkhgpockmaghjaaGreat
