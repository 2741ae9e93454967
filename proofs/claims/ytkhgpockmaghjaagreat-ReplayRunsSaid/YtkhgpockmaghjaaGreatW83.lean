/- Contracts and laws in plain Lean for RApp: group W83. -/
import Derived.Test.YtkhgpockmaghjaaGreatW56
import Derived.Test.YtkhgpockmaghjaaGreatW02
import Derived.Test.YtkhgpockmaghjaaGreatW64
set_option maxRecDepth 100000
namespace Go.Proofs.YtkhgpockmaghjaaGreat
open Go.RowKit Go.Shelf
attribute [local go_sem] Oper.semAt_some
theorem peer_snd {T:Tr} (h:T.Valid) {y:NN} (hy:T.V y) (k3:T.kind y.1 y.2=3):T.peer y.1 y.2=((T.sndN y).1:Int):=by
 have hfy:FormedP T y.1 (T.kind y.1 y.2) (T.peer y.1 y.2) (T.msg y.1 y.2):=h.formed ⟨y,hy⟩
 have h1:=T.sndN_eq ⟨y,hy⟩
 simp only at h1
 have h2:(T.snd ⟨y,hy⟩).1.1=(T.peer y.1 y.2).toNat:=by
  obtain ⟨a,b,e'⟩:=List.append_of_mem (evs_all (⟨y,hy⟩:T.Id))
  have hs:=((h.msg a ⟨y,hy⟩ ⟨b,by rw [e'];simp⟩).2 k3).2
  obtain ⟨i,hi,hp⟩:=anyB_iff.1 hs
  simp only [Bool.and_eq_true,decide_eq_true_eq] at hp
  have hpeer:(T.peer y.1 y.2).toNat<T.n:=by rcases hfy with h | h <;> omega
  have hse:=h.snd_eq (x:=⟨y,hy⟩) (y:=⟨((T.peer y.1 y.2).toNat,i),hpeer,hi⟩) ⟨k3,hp.1.1,hp.1.2⟩
  rw [hse]
 rw [h1,h2]
 rcases hfy with hf | hf <;> omega
set_option maxHeartbeats 400000 in
theorem rsnd1 (w : World) (k p m t m' : Int) (v : Value) (b : Nat) (hm : ∀ w', Ext w w' → w'.cell? ⟨b, 2, none⟩ = some (.int .i64 m')) :
    Calls Tryz.prog 154 #[.agg #[.int .i64 k,.int .i64 p,.int .i64 m,.int .i64 t,v],.pointer (some ⟨b,0,none⟩)] w fun e w'=>e=.returned (.bool (decide (k=2) && decide (m=m')))∧Ext w w':=by
 go_enter Tryz.func154,Tryz.ntmps154
 go_upto_region 1 with fail
 refine boxed1 (w:=w) (G:=fun x=>Code.wp _ _ _ _ x) ?_
 intro w1 hx1 hs1 ⟨l0,c0,_,_⟩
 have hx11:Ext w1 w1:=Ext.refl _
 clear hs1
 by_cases h2:k=2
 ·have d1:(k == 2)=true:=by simpa using h2
  by_cases h3:m=m'
  ·have d2:(m == m')=true:=by simpa using h3
   have HA:=Lib.hid (And.intro h2 h3)
   clear h2 h3
   go_wp2_with fail
   go_ret
   exact ⟨by rw [HA.out.1,HA.out.2];simp,hx1⟩
  ·have d2:(m == m')=false:=by simpa using h3
   have HA:=Lib.hid h3
   clear h2 h3
   go_wp2_with fail
   go_ret
   exact ⟨by simp [HA.out],hx1⟩
 ·have d1:(k == 2)=false:=by simpa using h2
  have HA:=Lib.hid h2
  clear h2
  go_wp2_with fail
  go_ret
  exact ⟨by simp [HA.out],hx1⟩
theorem rsender_results (tmps : Array Value) (W : World) (b : Nat) (x0 x1 u : Value) (t4 : tmps[4]? = some (.pointer (some ⟨b, 0, none⟩))) (t5 : tmps[5]? = some u) (c0 : W.cell? ⟨b, 0, none⟩ = some x0) (c1 : W.cell? ⟨b, 1, none⟩ = some x1) :
    (results Tryz.f116 tmps).run Tryz.prog W=.ok (.tuple #[.agg #[x0,x1],u]) W:=by
 simp [results,go_sem,t4,t5,c0,c1]
set_option maxHeartbeats 1000000 in
theorem rsender_any (w : World) (T : TM) (hT : T.At w) (hV : T.toTr.Valid) (k i : Nat) (hk : k < T.n) (hi : i < T.en k) (k3 : T.kind k i = 3) :
    Calls Tryz.prog 116 #[T.val,T.ev k i] w fun e w'=>Ext w w'∧e=.returned (.tuple #[.agg #[.int .i64 ((T.toTr.sndN (k,i)).1:Nat),.int .i64 (((T.toTr.sndN (k,i)).2:Int)+1)],.bool true]):=by
 have hx:T.V (k,i):=⟨hk,hi⟩
 have hyV:=Tr.sndN_V hx
 have hps:=peer_snd hV hx k3
 have hs:=hV.sndN hx k3
 obtain ⟨⟨q,j⟩,hqj⟩:∃ z,z=T.toTr.sndN (k,i):=⟨_,rfl⟩
 rw [←hqj] at hyV hps hs ⊢
 simp only at hps hs ⊢
 have hqn:q<T.n:=hyV.1
 have hjn:j<T.en q:=hyV.2
 have hj64:=hV.en64 hqn
 have HU:=Lib.hid (show ∀ j',j'<T.en q→T.kind q j'=2→T.msg q j'=T.msg k i→j'=j from fun j' h1 h2 h3=>by
  have:=hV.uniq2 (x:=⟨(q,j'),hqn,h1⟩) (y:=⟨(q,j),hqn,hjn⟩) h2 hs.1 (h3.trans hs.2.symm)
  exact (Prod.mk.inj (congrArg Subtype.val this)).2)
 have HI:=Lib.hid (show idxI (fun j'=>decide (T.kind q j'=2) && decide (T.msg q j'=T.msg k i)) (T.en q)=(j:Int) from idxI_hit hjn (by rw [hs.1,hs.2];simp) (fun j' hj'=>by
  rw [Bool.eq_false_iff]
  intro h
  rw [Bool.and_eq_true,decide_eq_true_eq,decide_eq_true_eq] at h
  have:=HU.out j' (by omega) h.1 h.2
  omega))
 have hid:=fun W (x:Ext w W) b (hb:∀ w',Ext W w'→w'.cell? ⟨b,2,none⟩=some (.int .i64 (T.msg k i)))=>idx_Event W (T.ea q) (T.eb q) (T.eo q) (T.en q) (T.ec q) (fun i=>.int .i64 (T.kind q i)) (fun i=>.int .i64 (T.peer q i)) (fun i=>.int .i64 (T.msg q i)) (fun i=>.int .i64 (T.time q i)) (fun i=>.slice (T.aa q i) (T.an q i) (T.ac q i))
  154 #[.pointer (some ⟨b,0,none⟩)] (fun j'=>decide (T.kind q j'=2) && decide (T.msg q j'=T.msg k i)) (hT.E.he q hqn) (hT.E.ea q hqn) (fun w' hx i hi=>hT.E.e0 w' (x.trans hx) q i hqn hi) (fun w' hx i hi=>hT.E.e1 w' (x.trans hx) q i hqn hi) (fun w' hx i hi=>hT.E.e2 w' (x.trans hx) q i hqn hi) (fun w' hx i hi=>hT.E.e3 w' (x.trans hx) q i hqn hi) (fun w' hx i hi=>hT.E.e4 w' (x.trans hx) q i hqn hi) (enters_of Tryz.func154 (by kernel_rfl) rfl)
  (fun j' hj' w' hx'=>rsnd1 w' (T.kind q j') (T.peer q j') (T.msg q j') (T.time q j') (T.msg k i) _ b (fun w'' x''=>hb w'' (hx'.trans x'')))
 have HID:=Lib.hid hid
 have pa:=hT.P.pa (by omega)
 have pb:=hT.P.pb (by omega)
 have p2:=fun w' (x:Ext w w')=>hT.P.p2 w' x q hqn
 have hqi:(q:Int)<(T.n:Int):=by omega
 have hw1:IntKind.i64.wrap ((j:Int)+1)=(j:Int)+1:=IntWalk.i64_in _ (by omega)
 have hj0:(0:Int)≤(j:Int):=by omega
 simp only [TM.val,TM.ev,pa,hps]
 clear hT hV hx hyV hps hs hqj hid k3 pa
 go_enter Tryz.func116,Tryz.ntmps116
 go_upto_region 1 with fail
 refine boxed3 (w:=w) (G:=fun x=>Code.wp _ _ _ _ x) ?_
 intro w1 hx1 hs1 ⟨l0,c0,_,_⟩ ⟨l1,c1,_,_⟩ ⟨l2,c2,f2,k2⟩
 have hx11:Ext w1 w1:=Ext.refl _
 have H4:=Lib.hid (show Hold w1 (w.heap.size+1+1) _ from k2)
 clear hs1 k2
 have hid:=HID.out w1 hx1 (w.heap.size+1) (fun w' x=>c1 w' x 2)
 rw [HI.out] at hid
 go_upto_region 2 with (go_at_call 88;refine hid.mono ?_;rintro e w2 ⟨rfl,hx2⟩)
 have hxw2:=hx1.trans hx2
 have h22:Ext w2 w2:=Ext.refl _
 have H42:=Lib.hid (H4.out.ext hx2)
 clear hid
 go_wp2_with fail
 refine bodyPost_ret (rsender_results _ _ _ _ _ _ rfl rfl (((H42.out.set 0 _).set 1 _).cell0 0) (((H42.out.set 0 _).set 1 _).cell0 1)) rfl ?_
 exact ⟨(hxw2.setCell (by show w.heap.size≤w.heap.size+1+1;omega) _).setCell (by show w.heap.size≤w.heap.size+1+1;omega) _,rfl⟩
end Go.Proofs.YtkhgpockmaghjaaGreat

namespace Go.Proofs.YtkhgpockmaghjaaGreat
open Go.RowKit Go.Shelf
attribute [local go_sem] Oper.semAt_some
theorem infoEid:(Tryz.prog.info? 79).map (fun i=>(i.zero,i.size,i.bytes))=some (some (.agg #[.int .i64 0,.int .i64 0]),2,16):=by kernel_rfl
theorem infoEids:(Tryz.prog.info? 129).map (fun i=>(i.zero,i.size,i.bytes))=some (some (.slice none 0 0),1,24):=by kernel_rfl
noncomputable def Tr.ndC (T:Tr) (q i:Nat):List Value:=if T.kind q i=3 then [.int .i64 ((T.sndN (q,i)).1:Nat),.int .i64 (((T.sndN (q,i)).2:Int)+1)] else [.int .i64 0,.int .i64 0]
noncomputable def Tr.ndCs (T:Tr) (q n:Nat):List Value:=(List.range n).flatMap (T.ndC q)
theorem ndC_len (T:Tr) (q i:Nat):(T.ndC q i).length=2:=by unfold Tr.ndC;split <;> rfl
theorem ndCs_succ (T:Tr) (q n:Nat):T.ndCs q (n+1)=T.ndCs q n++T.ndC q n:=by
 unfold Tr.ndCs
 rw [List.range_succ,List.flatMap_append];simp
structure SpI (T:Tr) (wS:World) (sb:Nat) (x0:Value) (p:Nat) (rs:Nat→SlD) (vn:Value) (wr:World):Prop where
 c:Chg (· = sb) wS wr
 lt:sb<wS.heap.size
 box:Hold wr sb #[x0,vn]
 que:Que wr wS.heap.size 1 vn p ((List.range p).map fun q=>(rs q).v)
 row:∀ q,q<p→RowM wr (rs q) 2 (T.ndCs q (T.en q))∧(rs q).n=T.en q
 blk:∀ q,q<p→0<(rs q).n→wS.heap.size≤(rs q).b∧(rs q).b<wr.heap.size∧vn.ownBlock≠some (rs q).b
 own:∀ g,vn.ownBlock=some g→wS.heap.size≤g∧g<wr.heap.size
theorem SpI.start {T:Tr} {wS:World} {sb:Nat} {x0:Value} (h:Hold wS sb #[x0,.slice none 0 0]) (rs:Nat→SlD):SpI T wS sb x0 0 rs (.slice none 0 0) wS:=
 ⟨Chg.refl _ _,h.lt,h,Que.nil _ _ _,fun _ h=>absurd h (Nat.not_lt_zero _),fun _ h=>absurd h (Nat.not_lt_zero _),fun _ e=>by cases e⟩
theorem SpI.next {T : Tr} {wS : World} {sb : Nat} {x0 : Value} {p : Nat} {rs : Nat → SlD} {vn : Value} {wr wi wd w2 : World} (h : SpI T wS sb x0 p rs vn wr) (hx : Ext wr wi) {s : SlD} (hs : RowM wi s 2 (T.ndCs p (T.en p))) (hn : s.n = T.en p) (hb : 0 < s.n → wr.heap.size ≤ s.b) (hd : Ext wi wd) {v' : Value}
    (hq:Que w2 wS.heap.size 1 v' (p+1) (((List.range p).map fun q=>(rs q).v)++[s.v])) (hg:wd.grownBy w2 vn.ownBlock) (hat:v'.ownBlock=vn.ownBlock∨v'.ownBlock=some wd.heap.size) :
    SpI T wS sb x0 (p+1) (setS rs p s) v' (w2.setCell ⟨sb,1,none⟩ v')∧Hold w2 sb #[x0,vn]:=by
 have h1:=h.c.le
 have h2:=hx.le
 have h3:=hd.le
 have h4:=h.lt
 have h5:=hg.size
 have hxd:=hx.trans hd
 have hbx:Hold w2 sb #[x0,vn]:=by
  obtain ⟨t,ht⟩:=h.box.ext hxd
  exact ⟨t,(hg.block sb (Array.getElem?_eq_some_iff.1 ht).1 (fun e=>by have:=(h.own sb e.symm).1;omega)).trans ht⟩
 -- the rows that lie behind
 have hrow:∀ g,wS.heap.size≤g→g<wd.heap.size→vn.ownBlock≠some g→(w2.setCell ⟨sb,1,none⟩ v').heap[g]?=wd.heap[g]?:=fun g k1 k2 k3=>
  (Below.heap_setCell _ _ _ _ (fun e=>by have e':g=sb:=e;omega)).trans (hg.block g k2 fun e=>k3 e.symm)
 have hall:(((List.range p).map fun q=>(rs q).v)++[s.v])=(List.range (p+1)).map fun q=>(setS rs p s q).v:=by
  rw [List.range_succ,List.map_append]
  congr 1
  ·refine List.map_congr_left fun q hq=>?_
   rw [setS_ne rs s (by have:=List.mem_range.1 hq;omega)]
  ·simp [setS_eq]
 refine ⟨⟨?_,h4,hbx.set 1 v',?_,fun q hqp=>?_,fun q hqp h0=>?_,fun g e=>?_⟩,hbx⟩
 ·exact ((h.c.trans (hxd.chg _)).grown hg (fun g e=>.inr (h.own g e).1)).set ⟨sb,1,none⟩ v' (.inl rfl)
 ·rw [←hall]
  exact hq.same' (by simp) fun g e=>Below.heap_setCell _ _ _ _ (fun e2=>by
   have h8:=hq.block g e
   have h7:g=sb:=e2
   omega)
 ·by_cases e:q=p
  ·subst e
   rw [setS_eq]
   refine ⟨(hs.ext hd).same (by simp;exact h5) fun h0=>hrow _ (by have:=hb h0;omega) (Nat.lt_of_lt_of_le (hs.hb h0) h3) (fun e2=>by have:=(h.own _ e2).2;have:=hb h0;omega),hn⟩
  ·rw [setS_ne rs s e]
   have hqp':q<p:=by omega
   refine ⟨((h.row q hqp').1.ext hxd).same (by simp;exact h5) fun h0=>?_,(h.row q hqp').2⟩
   obtain ⟨k1,k2,k3⟩:=h.blk q hqp' h0
   exact hrow _ k1 (by omega) k3
 ·by_cases e:q=p
  ·subst e
   rw [setS_eq] at h0 ⊢
   have k0:=hb h0
   have k1:=hs.hb h0
   refine ⟨by omega,by simp;omega,fun e2=>?_⟩
   rcases hat with k2 | k2
   ·have:=(h.own _ (k2.symm.trans e2)).2;omega
   ·rw [k2] at e2
    have:wd.heap.size=s.b:=by simpa using e2
    omega
  ·rw [setS_ne rs s e] at h0 ⊢
   have hqp':q<p:=by omega
   obtain ⟨k1,k2,k3⟩:=h.blk q hqp' h0
   refine ⟨k1,by simp;omega,fun e2=>?_⟩
   rcases hat with k4 | k4
   ·exact k3 (k4.symm.trans e2)
   ·rw [k4] at e2
    have:wd.heap.size=(rs q).b:=by simpa using e2
    omega
 ·have:=hq.own_in (Nat.succ_pos _) g e
  exact ⟨this.1,by simp;exact this.2⟩
structure Spc (T:Tr) (sb:Nat) (w:World):Prop where
 ex:∃ (x0:Value) (ng no nc:Nat) (rs:Nat→SlD),Hold w sb #[x0,.slice (some ⟨ng,no,none⟩) T.n nc]∧ng<w.heap.size∧(∀ q,q<T.n→w.cell? ⟨ng,no+q,none⟩=some (.slice (rs q).a (T.en q) (rs q).c))∧∀ q,q<T.n→RowM w (rs q) 2 (T.ndCs q (T.en q))∧(rs q).n=T.en q
theorem Spc.ext {T:Tr} {sb:Nat} {w w':World} (h:Spc T sb w) (x:Ext w w'):Spc T sb w':=by
 obtain ⟨x0,ng,no,nc,rs,h1,h2,h3,h4⟩:=h.ex
 exact ⟨x0,ng,no,nc,rs,h1.ext x,Nat.lt_of_lt_of_le h2 x.le,fun q hq=>x.cell (h3 q hq),fun q hq=>⟨(h4 q hq).1.ext x,(h4 q hq).2⟩⟩
theorem SpI.spc {T:Tr} {wS:World} {sb:Nat} {x0:Value} {rs:Nat→SlD} {vn:Value} {wr:World} (h:SpI T wS sb x0 T.n rs vn wr) (hn:0<T.n):Spc T sb wr:=by
 rcases h.que.val with ⟨_,_,h0,_⟩ | ⟨g,off,cap,rfl,h1,h2,h3,h4,h5,h6⟩
 ·omega
 ·refine ⟨x0,g,off,cap,rs,h.box,h2,fun q hq=>?_,h.row⟩
  rw [h5 q (by omega)]
  simp [hq,SlD.v,(h.row q hq).2]
set_option maxHeartbeats 4000000 in
theorem ropen_any (w : World) (T : TM) (hT : T.At w) (hV : T.toTr.Valid) :
    Calls Tryz.prog 81 #[T.val] w fun e w'=>Ext w w'∧∃ sb,e=.returned (.pointer (some ⟨sb,0,none⟩))∧Spc T.toTr sb w':=by
 obtain ⟨ei,hei,hez0,hez1,hez2⟩:=info_parts infoEid
 obtain ⟨si,hsi,hsz0,hsz1,hsz2⟩:=info_parts infoEids
 have HSN:=Lib.hid (fun W (x:Ext w W) k i hk hi k3=>rsender_any W T (hT.ext x) hV k i hk hi k3)
 have HT:=Lib.hid hT
 have HV:=Lib.hid hV
 have hn8:T.n≤8:=hV.n8
 have hn1:1≤T.n:=hV.n1
 obtain ⟨ta,hta⟩:∃ z,z=T.a:=⟨_,rfl⟩
 obtain rfl:ta=some ⟨T.b,T.off,none⟩:=hta.trans (hT.P.pa (by omega))
 have pb:=hT.P.pb (by omega)
 simp only [TM.val,TM.ev,←hta] at HSN ⊢
 clear hT hV hta
 go_enter Tryz.func81,Tryz.ntmps81
 go_upto_region 1 with fail
 refine boxed1 (w:=w) (G:=fun x=>Code.wp _ _ _ _ x) ?_
 intro w1 hx1 hs1 ⟨l0,c0,_,_⟩
 have hx11:Ext w1 w1:=Ext.refl _
 clear hs1
 go_upto_region 2 with fail
 refine boxed1 (w:=w1) (G:=fun x=>Code.wp _ _ _ _ x) ?_
 intro w2 hx2 hs2 ⟨l1,c1,_,k1⟩
 have hxw2:=hx1.trans hx2
 have HS0:=Lib.hid (SpI.start (T:=T.toTr) (show Hold w2 w1.heap.size #[.slice (some ⟨T.b,T.off,none⟩) T.n T.cap,.slice none 0 0] from k1) (fun _=>default))
 obtain ⟨sb,hsb⟩:∃ z,z=w1.heap.size:=⟨_,rfl⟩
 rw [←hsb] at HS0 ⊢
 have HSB:=Lib.hid (show w1.heap.size≤sb from by omega)
 clear hs2 l1 c1 k1 hsb hx11
 go_wp2_with fail
 go_loopg [16] T.n (fun gg v16 wr=>∃ (p:Nat) (rs:Nat→SlD) (vn:Value),p≤T.n∧gg=T.n - p∧v16=.int .i64 p∧SpI T.toTr w2 sb (.slice (some ⟨T.b,T.off,none⟩) T.n T.cap) p rs vn wr)
 case atStart=>exact ⟨0,_,_,by omega,rfl,rfl,HS0.out⟩
 case round=>
  obtain ⟨p,rs,vn,hp,rfl,rfl,hS⟩:=hrel
  have HS:=Lib.hid hS
  have hx1r:Ext w1 wr:=Chg.ext hx2 hS.c (fun g e=>by rw [e];exact HSB.out)
  have hxwr:=hx1.trans hx1r
  clear hS HS0
  by_cases hpn:p<T.n
  case neg=>
   obtain rfl:p=T.n:=by omega
   go_wp2_with fail
   go_ret
   exact ⟨hxwr,_,rfl,HS.out.spc (by omega)⟩
  have hpn':(p:Int)<(T.n:Int):=by omega
  obtain ⟨ep,hep⟩:∃ z,z=T.en p:=⟨_,rfl⟩
  have HEP:=Lib.hid hep
  have hep64:ep≤64:=by rw [hep];exact HV.out.en64 hpn
  obtain ⟨ea,hea⟩:∃ z,z=T.ea p:=⟨_,rfl⟩
  have HEA:=Lib.hid hea
  have p0:=fun w' (h:Ext w w')=>HT.out.P.p0 w' h p hpn
  have p1:=fun w' (h:Ext w w')=>HT.out.P.p1 w' h p hpn
  have p2:∀ w',Ext w w'→w'.cell? ⟨T.b,T.off+p*3+2,none⟩=some (.slice ea ep (T.ec p)):=fun w' h=>by rw [hep,hea];exact HT.out.P.p2 w' h p hpn
  clear hep hea
  go_upto_region 5 with fail
  refine boxed1 (w:=wr) (G:=fun x=>Code.wp _ _ _ _ x) ?_
  intro wq hxq hsq ⟨l5,c5,_,_⟩
  have hqq:Ext wq wq:=Ext.refl _
  have hx1q:=hx1r.trans hxq
  have hxwq:=hxwr.trans hxq
  clear hsq p0 p1 p2
  go_wp2_with fail
  go_loopg [6,23] ep (fun gg v6 v23 wi=>∃ i:Nat,i≤ep∧gg=ep - i∧v23=.int .i64 i∧Ext wq wi∧Que wi wq.heap.size 2 v6 i (T.toTr.ndCs p i))
  case atStart=>exact ⟨0,by omega,rfl,rfl,hqq,Que.nil _ _ _⟩
  case round=>
   clear hqq
   rename World=>wi
   obtain ⟨i,hi,rfl,rfl,hxqi,hQ⟩:=hrel
   obtain ⟨qa,qc,rfl⟩:=hQ.slice
   have HQ:=Lib.hid hQ
   have hx1i:=hx1q.trans hxqi
   have hxwi:=hxwq.trans hxqi
   clear hQ
   by_cases hin:i<ep
   case neg=>
    obtain rfl:i=ep:=by omega
    have hSb:=HS.out.box.ext (hxq.trans hxqi)
    obtain ⟨lS,cS,_,_⟩:=hSb.box
    obtain ⟨va,vc,hvn⟩:=HS.out.que.slice
    subst hvn
    have hii:Ext wi wi:=Ext.refl _
    have hszi:=(hxq.trans hxqi).le
    have hszr:=HS.out.c.le
    obtain ⟨s,hs1,hs2,hs3,hs4⟩:=RowM.que HQ.out (by omega)
    have hsv:s.v=.slice qa i qc:=hs1.symm
    have HSR:=Lib.hid (show RowM wi s 2 (T.toTr.ndCs p (T.en p))∧s.n=T.en p∧(0<s.n→wr.heap.size≤s.b) from ⟨by rw [←HEP.out];exact hs3,hs2.trans HEP.out,fun h0=>Nat.le_trans hxq.le (hs4 h0).1⟩)
    have HSV:=Lib.hid hsv
    have HQN:=Lib.hid ((HS.out.que.ext (hxq.trans hxqi)).ext (Ext.alloc wi (.cells #[.slice qa i qc] 129)))
    have HSE:=Lib.hid ((RowM.new wi [.slice qa i qc] 129 1 rfl).src (P:=Tryz.prog) Tryz.underlying151 (by intro u hu;simp at hu;subst hu;rfl))
    have HXI:=Lib.hid (hxq.trans hxqi)
    clear hSb hs1 hs2 hs3 hs4 hsv
    go_upto_region 15 with (at_builtin;refine wpList_append_que _ rfl _ _ 151 151 rfl (base:=w2.heap.size) (e:=129) (size:=1) si (.slice none 0 0) 24 Tryz.underlying151 hsi hsz0 hsz1 hsz2 rfl rfl (v:=.slice va p vc) (n:=p) (xs:=(List.range p).map fun q=>(rs q).v) HQN.out (by rw [World.size_alloc];omega) (.slice (some ⟨wi.heap.size,0,none⟩) 1 1) 1 [.slice qa i qc] rfl HSE.out (by unfold maxLen;omega) (by omega) ?_;rintro v48 w48 hq48 hg48 hat48;obtain ⟨x48,y48,rfl⟩:=hq48.slice;obtain ⟨hN,hH⟩:=HS.out.next HXI.out HSR.out.1 HSR.out.2.1 HSR.out.2.2 (Ext.alloc wi (.cells #[.slice qa i qc] 129)) (by rw [HSV.out];exact hq48) hg48 hat48;have HN:=Lib.hid hN;clear lS cS;obtain ⟨lS,cS,fS,_⟩:=hH.box;have h48:Ext w48 w48:=Ext.refl _;clear hq48 hg48 hat48 hN hH)
    clear lS cS fS h48 hii
    generalize w48.setCell ⟨sb,1,none⟩ (.slice x48 (p+1) y48)=w49 at HN ⊢
    go_wp2_with fail
    go_roundg (T.n - (p+1))
    case rel=>exact ⟨p+1,_,_,by omega,rfl,by go_num,HN.out⟩
    case measure=>omega
   have hin':(i:Int)<(ep:Int):=by omega
   have hiT:i<T.en p:=by rw [←HEP.out];exact hin
   obtain rfl:ea=some ⟨T.eb p,T.eo p,none⟩:=HEA.out.trans (HT.out.E.ea p hpn (by omega))
   have eb:=HT.out.E.eb p hpn (by omega)
   have e0:=fun w' (x:Ext w w')=>HT.out.E.e0 w' x p i hpn hiT
   have e1:=fun w' (x:Ext w w')=>HT.out.E.e1 w' x p i hpn hiT
   have e2:=fun w' (x:Ext w w')=>HT.out.E.e2 w' x p i hpn hiT
   have e3:=fun w' (x:Ext w w')=>HT.out.E.e3 w' x p i hpn hiT
   have e4:=fun w' (x:Ext w w')=>HT.out.E.e4 w' x p i hpn hiT
   go_upto_region 10 with fail
   refine boxed2 (w:=wi) (G:=fun x=>Code.wp _ _ _ _ x) ?_
   intro wj hxj hsj ⟨l8,c8,_,_⟩ ⟨l9,c9,f9,k9⟩
   have H9:=Lib.hid (show Hold wj (wi.heap.size+1) _ from k9)
   have hjj:Ext wj wj:=Ext.refl _
   have hx1j:=hx1i.trans hxj
   have hxwj:=hxwi.trans hxj
   have hxqj:=hxqi.trans hxj
   have HQJ:=Lib.hid (HQ.out.ext hxj)
   clear hsj k9 e0 e1 e2 e3 e4 eb
   by_cases hk3:T.kind p i=3
   ·have d1:(T.kind p i == 3)=true:=by simpa using hk3
    have HND:=Lib.hid (show T.toTr.ndC p i=[.int .i64 ((T.toTr.sndN (p,i)).1:Nat),.int .i64 (((T.toTr.sndN (p,i)).2:Int)+1)] from if_pos hk3)
    have hsn:=HSN.out wj hxwj p i hpn hiT hk3
    clear hk3
    go_upto_region 12 with (go_at_call 116;refine hsn.mono ?_;rintro e w33 ⟨hx33,rfl⟩)
    have HZ9:=Lib.hid (((H9.out.ext hx33).set 0 (.int .i64 ((T.toTr.sndN (p,i)).1:Nat))).set 1 (.int .i64 (((T.toTr.sndN (p,i)).2:Int)+1)))
    have hiz:Ext wi ((w33.setCell ⟨wi.heap.size+1,0,none⟩ (.int .i64 ((T.toTr.sndN (p,i)).1:Nat))).setCell ⟨wi.heap.size+1,1,none⟩ (.int .i64 (((T.toTr.sndN (p,i)).2:Int)+1))):=((hxj.trans hx33).setCell (p:=⟨wi.heap.size+1,0,none⟩) (by show wi.heap.size≤wi.heap.size+1;omega) _).setCell (p:=⟨wi.heap.size+1,1,none⟩) (by show wi.heap.size≤wi.heap.size+1;omega) _
    have hxqz:=hxqi.trans hiz
    have HQZ:=Lib.hid (HQ.out.ext hiz)
    clear l9 c9 f9 hsn hx33 hiz hjj
    generalize (w33.setCell ⟨wi.heap.size+1,0,none⟩ (.int .i64 ((T.toTr.sndN (p,i)).1:Nat))).setCell ⟨wi.heap.size+1,1,none⟩ (.int .i64 (((T.toTr.sndN (p,i)).2:Int)+1))=wz at HZ9 hxqz HQZ ⊢
    obtain ⟨l9,c9,_,_⟩:=HZ9.out.box
    have hzz:Ext wz wz:=Ext.refl _
    have hszz:=hxqz.le
    have HSE:=Lib.hid ((RowM.new wz [(.int .i64 ((T.toTr.sndN (p,i)).1:Nat)),(.int .i64 (((T.toTr.sndN (p,i)).2:Int)+1))] 79 2 rfl).src (P:=Tryz.prog) Tryz.underlying129 (by intro u hu;simp at hu;rcases hu with rfl | rfl <;> rfl))
    go_upto_region 13 with (at_builtin;refine wpList_append_que _ rfl _ _ 129 129 rfl (base:=wq.heap.size) (e:=79) (size:=2) ei (.agg #[.int .i64 0,.int .i64 0]) 16 Tryz.underlying129 hei hez0 hez1 hez2 rfl rfl (v:=.slice qa i qc) (n:=i) (xs:=T.toTr.ndCs p i) (HQZ.out.ext (Ext.alloc wz (.cells #[(.int .i64 ((T.toTr.sndN (p,i)).1:Nat)),(.int .i64 (((T.toTr.sndN (p,i)).2:Int)+1))] 79))) (by rw [World.size_alloc];omega) (.slice (some ⟨wz.heap.size,0,none⟩) 1 1) 1 [(.int .i64 ((T.toTr.sndN (p,i)).1:Nat)),(.int .i64 (((T.toTr.sndN (p,i)).2:Int)+1))] rfl HSE.out (by unfold maxLen;omega) (by omega) ?_;rintro v39 w39 hq39 hg39 -;have HQ39:=Lib.hid (show Que w39 wq.heap.size 2 v39 (i+1) (T.toTr.ndCs p (i+1)) from by rw [ndCs_succ,HND.out];exact hq39);have hxq39:Ext wq w39:=Below.grown (hxqz.trans (Ext.alloc wz (.cells #[(.int .i64 ((T.toTr.sndN (p,i)).1:Nat)),(.int .i64 (((T.toTr.sndN (p,i)).2:Int)+1))] 79))) hg39 (by rw [World.size_alloc];omega) (fun g e=>HQZ.out.block g e);clear hq39 hg39)
    clear l9 c9 hzz
    go_wp2_with fail
    go_roundg (ep - (i+1))
    case rel=>exact ⟨i+1,by omega,rfl,by go_num,hxq39,HQ39.out⟩
    case measure=>omega
   ·have d1:(T.kind p i == 3)=false:=by simpa using hk3
    have HND:=Lib.hid (show T.toTr.ndC p i=[.int .i64 0,.int .i64 0] from if_neg hk3)
    clear hk3 l9 c9 f9
    obtain ⟨wz,hwz⟩:∃ z,z=wj:=⟨_,rfl⟩
    have hxqz:Ext wq wz:=by rw [hwz];exact hxqj
    have HZ9:=Lib.hid (show Hold wz (wi.heap.size+1) #[.int .i64 0,.int .i64 0] from by rw [hwz];exact H9.out)
    have HQZ:=Lib.hid (show Que wz wq.heap.size 2 (.slice qa i qc) i (T.toTr.ndCs p i) from by rw [hwz];exact HQJ.out)
    have hjz:Ext wj wz:=by rw [hwz];exact hjj
    go_upto_region 12 with fail
    rw [←hwz]
    clear hwz hjj
    obtain ⟨l9,c9,_,_⟩:=HZ9.out.box
    have hzz:Ext wz wz:=Ext.refl _
    have hszz:=hxqz.le
    have HSE:=Lib.hid ((RowM.new wz [(.int .i64 0),(.int .i64 0)] 79 2 rfl).src (P:=Tryz.prog) Tryz.underlying129 (by intro u hu;simp at hu;rcases hu with rfl | rfl <;> rfl))
    go_upto_region 13 with (at_builtin;refine wpList_append_que _ rfl _ _ 129 129 rfl (base:=wq.heap.size) (e:=79) (size:=2) ei (.agg #[.int .i64 0,.int .i64 0]) 16 Tryz.underlying129 hei hez0 hez1 hez2 rfl rfl (v:=.slice qa i qc) (n:=i) (xs:=T.toTr.ndCs p i) (HQZ.out.ext (Ext.alloc wz (.cells #[(.int .i64 0),(.int .i64 0)] 79))) (by rw [World.size_alloc];omega) (.slice (some ⟨wz.heap.size,0,none⟩) 1 1) 1 [(.int .i64 0),(.int .i64 0)] rfl HSE.out (by unfold maxLen;omega) (by omega) ?_;rintro v39 w39 hq39 hg39 -;have HQ39:=Lib.hid (show Que w39 wq.heap.size 2 v39 (i+1) (T.toTr.ndCs p (i+1)) from by rw [ndCs_succ,HND.out];exact hq39);have hxq39:Ext wq w39:=Below.grown (hxqz.trans (Ext.alloc wz (.cells #[(.int .i64 0),(.int .i64 0)] 79))) hg39 (by rw [World.size_alloc];omega) (fun g e=>HQZ.out.block g e);clear hq39 hg39)
    clear l9 c9 hzz
    go_wp2_with fail
    go_roundg (ep - (i+1))
    case rel=>exact ⟨i+1,by omega,rfl,by go_num,hxq39,HQ39.out⟩
    case measure=>omega
end Go.Proofs.YtkhgpockmaghjaaGreat

namespace Go.Proofs.YtkhgpockmaghjaaGreat
open Go.RowKit Go.Shelf
attribute [local go_sem] Oper.semAt_some
theorem IntRow.asR {w:World} {g n:Nat} {f f':Nat→Int} (h:IntRow w g n f) (e:∀ k,k<n→f' k=f k):IntRow w g n f':=⟨fun k hk=>by rw [e k hk];exact h.c k hk,h.fr,h.lt⟩
theorem IntRow.putR {w:World} {g n:Nat} {f:Nat→Int} (h:IntRow w g n f) (q:Nat) (v:Int):IntRow (w.setCell ⟨g,q,none⟩ (.int .i64 v)) g n (fun j=>if j=q then v else f j):=by
 refine ⟨fun k hk=>?_,fun o=>?_,by rw [World.size_setCell];exact h.lt⟩
 ·by_cases e:k=q
  ·subst e
   rw [if_pos rfl];exact World.cell?_setCell_same _ _ _ (h.c k hk)
  ·rw [if_neg e];refine Eq.trans ?_ (h.c k hk);apply World.cell?_setCell_other;intro h9;simp only [Addr.mk.injEq] at h9;exact e h9.2.1.symm
 ·rw [frozen_set];exact h.fr o
set_option maxHeartbeats 1000000 in
theorem rzero_any (w : World) (T : Tr) (sb : Nat) (hS : Spc T sb w) (hn : T.n ≤ 1000) :
    Calls Tryz.prog 117 #[.pointer (some ⟨sb,0,none⟩)] w fun e w'=>Ext w w'∧∃ g,e=.returned (.slice (some ⟨g,0,none⟩) T.n T.n)∧w.heap.size≤g∧IntRow w' g T.n (fun _=>0):=by
 obtain ⟨j0,hj0,hy0,hy1,hy2⟩:=info_parts infoInt
 obtain ⟨x0,ng,no,nc,rs,hb,hng,hr,hrow⟩:=hS.ex
 obtain ⟨lb,cb,_,_⟩:=hb.box
 have hww:Ext w w:=Ext.refl _
 clear hS hb hng hr hrow
 go_enter Tryz.func117,Tryz.ntmps117
 go_wp2_with (at_make;refine wpList_make_full _ rfl _ _ 39 rfl w.heap.size 3 j0 (.int .i64 0) 1 Tryz.underlying39 hj0 hy0 hy1 .i64 .i64 _ _ T.n rfl rfl rfl rfl (by rw [hy2];omega) (by unfold maxLen;omega) (Nat.le_refl _) ?_;intro w4 hown4 hg4;have hx4:Ext w w4:=((Below.refl _ _).grown hg4 (Nat.le_refl _) (by simp));have HR4:=Lib.hid (IntRow.made hown4);clear hown4 hg4)
 go_ret
 exact ⟨hx4,_,rfl,Nat.le_refl _,HR4.out⟩
set_option maxHeartbeats 1000000 in
theorem rfull_any (w : World) (T : Tr) (sb : Nat) (hS : Spc T sb w) (hn : T.n ≤ 1000) :
    Calls Tryz.prog 118 #[.pointer (some ⟨sb,0,none⟩)] w fun e w'=>Ext w w'∧∃ g,e=.returned (.slice (some ⟨g,0,none⟩) T.n T.n)∧IntRow w' g T.n (natV T.en):=by
 have hz:=rzero_any w T sb hS hn
 obtain ⟨x0,ng,no,nc,rs,hb,hng,hr,hrow⟩:=hS.ex
 obtain ⟨lb,cb,_,_⟩:=hb.box
 have HR:=Lib.hid hr
 have gl:∀ w',Ext w w'→ng<w'.heap.size:=fun w' x=>Nat.lt_of_lt_of_le hng x.le
 clear hS hb hng hr hrow
 go_enter Tryz.func118,Tryz.ntmps118
 go_upto_region 2 with (go_at_call 117;refine hz.mono ?_;rintro e w2 ⟨hx2,g,rfl,hg,hR2⟩)
 have HR2:=Lib.hid hR2
 have HG:=Lib.hid hg
 clear hz hR2 hg
 go_wp2_with fail
 go_loopg [13] T.n (fun gg v13 wr=>∃ p:Nat,p≤T.n∧gg=T.n - p∧v13=.int .i64 p∧Ext w wr∧IntRow wr g T.n (fun q=>if q<p then (T.en q:Int) else 0))
 case atStart=>exact ⟨0,by omega,rfl,rfl,hx2,HR2.out.asR fun q _=>if_neg (Nat.not_lt_zero _)⟩
 case round=>
  clear hx2
  obtain ⟨p,hp,rfl,rfl,hxr,hR⟩:=hrel
  have HRr:=Lib.hid hR
  clear hR
  by_cases hpn:p<T.n
  case neg=>
   obtain rfl:p=T.n:=by omega
   go_wp2_with fail
   go_ret
   exact ⟨hxr,_,rfl,HRr.out.asR fun q hq=>(if_pos hq).symm⟩
  have hpn':(p:Int)<(T.n:Int):=by omega
  have p0:∀ w',Ext w w'→w'.cell? ⟨ng,no+p,none⟩=some (.slice (rs p).a (T.en p) (rs p).c):=fun w' x=>x.cell (HR.out p hpn)
  have z0:∀ w',Ext wr w'→w'.cell? ⟨g,p,none⟩=some (.int .i64 0):=fun w' x=>by rw [x.cell (HRr.out.c p hpn),if_neg (Nat.lt_irrefl _)]
  have zl:∀ w',Ext wr w'→g<w'.heap.size:=fun w' x=>Nat.lt_of_lt_of_le HRr.out.lt x.le
  have zf:∀ w',Ext wr w'→∀ o,w'.frozen? ⟨g,o,none⟩=false:=fun w' x o=>(x.frozen (p:=⟨g,o,none⟩) HRr.out.lt).trans (HRr.out.fr o)
  have hrr:Ext wr wr:=Ext.refl _
  have HN:=Lib.hid ((HRr.out.putR p (T.en p:Int)).asR (f':=fun q=>if q<p+1 then (T.en q:Int) else 0) fun q hq=>by
   by_cases e:q=p
   ·subst e;rw [if_pos (Nat.lt_succ_self _),if_pos rfl]
   ·rw [if_neg e]
    by_cases h1:q<p
    ·rw [if_pos h1,if_pos (by omega)]
    ·rw [if_neg h1,if_neg (by omega)])
  have hxs:Ext w (wr.setCell ⟨g,p,none⟩ (.int .i64 (T.en p:Int))):=hxr.setCell (p:=⟨g,p,none⟩) (by have:=HG.out;exact this) _
  go_upto_region 6 with fail
  clear z0 zl zf hrr
  generalize wr.setCell ⟨g,p,none⟩ (.int .i64 (T.en p:Int))=w5 at HN hxs ⊢
  go_wp2_with fail
  go_roundg (T.n - (p+1))
  case rel=>exact ⟨p+1,by omega,rfl,by go_num,hxs,HN.out⟩
  case measure=>omega
set_option maxHeartbeats 1000000 in
theorem rindices_any (w : World) (n : Nat) (hn : n ≤ 1000) :
    Calls Tryz.prog 119 #[.int .i64 (n:Nat)] w fun e w'=>Ext w w'∧∃ g,e=.returned (.slice (some ⟨g,0,none⟩) n n)∧IntRow w' g n (fun q=>(q:Int)):=by
 obtain ⟨j0,hj0,hy0,hy1,hy2⟩:=info_parts infoInt
 go_enter Tryz.func119,Tryz.ntmps119
 go_upto_region 2 with (at_make;refine wpList_make_full _ rfl _ _ 39 rfl w.heap.size 3 j0 (.int .i64 0) 1 Tryz.underlying39 hj0 hy0 hy1 .i64 .i64 _ _ n rfl rfl rfl rfl (by rw [hy2];omega) (by unfold maxLen;omega) (Nat.le_refl _) ?_;intro w2 hown4 hg4;have hx2:Ext w w2:=((Below.refl _ _).grown hg4 (Nat.le_refl _) (by simp));have HR2:=Lib.hid (IntRow.made hown4);clear hown4 hg4)
 obtain ⟨g,hg⟩:∃ z,z=w.heap.size:=⟨_,rfl⟩
 rw [←hg] at HR2 ⊢
 have HG:=Lib.hid (show w.heap.size≤g from by omega)
 clear hg
 go_wp2_with fail
 go_loopg [9] n (fun gg v9 wr=>∃ p:Nat,p≤n∧gg=n - p∧v9=.int .i64 p∧Ext w wr∧IntRow wr g n (fun q=>if q<p then (q:Int) else 0))
 case atStart=>exact ⟨0,by omega,rfl,rfl,hx2,HR2.out.asR fun q _=>if_neg (Nat.not_lt_zero _)⟩
 case round=>
  clear hx2
  obtain ⟨p,hp,rfl,rfl,hxr,hR⟩:=hrel
  have HRr:=Lib.hid hR
  clear hR
  by_cases hpn:p<n
  case neg=>
   obtain rfl:p=n:=by omega
   go_wp2_with fail
   go_ret
   exact ⟨hxr,_,rfl,HRr.out.asR fun q hq=>(if_pos hq).symm⟩
  have hpn':(p:Int)<(n:Int):=by omega
  have z0:∀ w',Ext wr w'→w'.cell? ⟨g,p,none⟩=some (.int .i64 0):=fun w' x=>by rw [x.cell (HRr.out.c p hpn),if_neg (Nat.lt_irrefl _)]
  have zl:∀ w',Ext wr w'→g<w'.heap.size:=fun w' x=>Nat.lt_of_lt_of_le HRr.out.lt x.le
  have zf:∀ w',Ext wr w'→∀ o,w'.frozen? ⟨g,o,none⟩=false:=fun w' x o=>(x.frozen (p:=⟨g,o,none⟩) HRr.out.lt).trans (HRr.out.fr o)
  have hrr:Ext wr wr:=Ext.refl _
  have HN:=Lib.hid ((HRr.out.putR p (p:Int)).asR (f':=fun q=>if q<p+1 then (q:Int) else 0) fun q hq=>by
   by_cases e:q=p
   ·subst e;rw [if_pos (Nat.lt_succ_self _),if_pos rfl]
   ·rw [if_neg e]
    by_cases h1:q<p
    ·rw [if_pos h1,if_pos (by omega)]
    ·rw [if_neg h1,if_neg (by omega)])
  have hxs:Ext w (wr.setCell ⟨g,p,none⟩ (.int .i64 (p:Int))):=hxr.setCell (p:=⟨g,p,none⟩) HG.out _
  go_upto_region 6 with fail
  clear z0 zl zf hrr
  generalize wr.setCell ⟨g,p,none⟩ (.int .i64 (p:Int))=w5 at HN hxs ⊢
  go_wp2_with fail
  go_roundg (n - (p+1))
  case rel=>exact ⟨p+1,by omega,rfl,by go_num,hxs,HN.out⟩
  case measure=>omega
set_option maxHeartbeats 1000000 in
theorem rnextc_any (w : World) (g o n cap : Nat) (c : Nat → Nat) (h : NumAt w n (some ⟨g, o, none⟩) g o (natV c)) (p : Nat) (hp : p < n) (hn : n ≤ 1000) (hc : c p ≤ 1000) :
    Calls Tryz.prog 122 #[.slice (some ⟨g,o,none⟩) n cap,.int .i64 (p:Nat)] w fun e w'=>Ext w w'∧∃ g5 o5 c5,e=.returned (.slice (some ⟨g5,o5,none⟩) n c5)∧NumAt w' n (some ⟨g5,o5,none⟩) g5 o5 (natV (upC c p)):=by
 have hcl:=clonen_any w g o n cap (natV c) h hn (by omega)
 have hpn':(p:Int)<(n:Int):=by omega
 obtain ⟨cp,hcp⟩:∃ z,z=c p:=⟨_,rfl⟩
 have HCP:=Lib.hid hcp
 have hw1:IntKind.i64.wrap ((cp:Int)+1)=(cp:Int)+1:=IntWalk.i64_in _ (by omega)
 clear h hcp
 go_enter Tryz.func122,Tryz.ntmps122
 go_upto_region 2 with (go_at_call 65;refine hcl.mono ?_;rintro e w13 ⟨g5,o5,c5,rfl,q1,q2,q3,hx13⟩)
 have HQ3:=Lib.hid q3
 have l5:∀ w',Ext w13 w'→g5<w'.heap.size:=fun w' x=>Nat.lt_of_lt_of_le q2 x.le
 have k5:∀ w',Ext w13 w'→w'.cell? ⟨g5,o5+p,none⟩=some (.int .i64 (cp:Int)):=fun w' x=>by rw [HCP.out];exact x.cell (HQ3.out p hp).1
 have f5:∀ w',Ext w13 w'→w'.frozen? ⟨g5,o5+p,none⟩=false:=fun w' x=>(x.frozen (p:=⟨g5,o5+p,none⟩) q2).trans (HQ3.out p hp).2
 have h1313:Ext w13 w13:=Ext.refl _
 have HG5:=Lib.hid (And.intro q1 q2)
 clear q3 q1 q2 hcl
 go_upto_region 3 with fail
 refine setm1 (G:=fun x=>Code.wp _ _ _ _ x) ?_
 intro w14 hw14
 have HX14:=Lib.hid (show Ext w w14 from by rw [hw14];exact hx13.setCell HG5.out.1 _)
 have HN14:=Lib.hid (show NumAt w14 n (some ⟨g5,o5,none⟩) g5 o5 (natV (upC c p)) from by
  refine ⟨by omega,fun _=>rfl,fun _=>by rw [hw14,World.size_setCell];exact HG5.out.2,fun q hq=>?_⟩
  show _=some (Value.int .i64 ((upC c p q:Nat):Int))
  rw [hw14]
  by_cases e:q=p
  ·subst e
   refine (World.cell?_setCell_same _ _ _ (HQ3.out q hq).1).trans ?_
   rw [upC_same,HCP.out];rfl
  ·refine Eq.trans (World.cell?_setCell_other _ _ _ _ fun h9=>?_) ((HQ3.out q hq).1.trans ?_)
   ·simp only [Addr.mk.injEq] at h9;omega
   ·rw [upC_other e])
 clear hw14 l5 k5 f5 h1313 hx13
 go_wp2_with fail
 go_ret
 exact ⟨HX14.out,g5,o5,c5,rfl,HN14.out⟩
end Go.Proofs.YtkhgpockmaghjaaGreat
