/- Contracts and laws in plain Lean for SPos: group Vh. -/
import Derived.Test.YtnknkkmdbnaglaaGreatVg
import Derived.Test.YtnknkkmdbnaglaaGreatVf
import Derived.Test.YtnknkkmdbnaglaaGreatVe
set_option maxRecDepth 100000
namespace Go.Proofs.YtnknkkmdbnaglaaGreat
open Go.RowKit Go.Shelf
noncomputable def Tr.nexts (T:Tr) (L:List (List Nat)):List (List Nat):=L.flatMap T.nextOf
noncomputable def Tr.part (T:Tr) (l:List Nat) (p:Nat):List (List Nat):=(T.onL (fn l) p).map fun p=>rowOf T.n (upC (fn l) p)
theorem part_all (T:Tr) (l:List Nat):T.part l T.n=T.nextOf l:=rfl
theorem nexts_len (T:Tr):∀ L:List (List Nat),(T.nexts L).length≤T.n*L.length
 | [] => by simp [Tr.nexts]
 | l :: L => by
  have h1:=nexts_len T L
  have h2:(T.nextOf l).length≤T.n:=by unfold Tr.nextOf;rw [List.length_map];exact T.onL_len _ _
  have e:T.nexts (l :: L)=T.nextOf l++T.nexts L:=by simp [Tr.nexts]
  rw [e,List.length_append,List.length_cons,Nat.mul_add];omega
theorem nexts_take {T:Tr} {R:List Row} {k:Nat} (hk:k<R.length):T.nexts ((R.take (k+1)).map Row.l)=T.nexts ((R.take k).map Row.l)++T.nextOf R[k].l:=by
 rw [List.take_add_one,List.getElem?_eq_getElem hk,List.map_append];unfold Tr.nexts;rw [List.flatMap_append];simp
structure NxI (T:Tr) (w1:World) (v:Value) (RN:List Row) (L:List (List Nat)) (wr:World):Prop where
 q:RowsQ wr w1.heap.size v RN
 m:RN.map Row.l=L
 a:∀ x∈RN,v.ownBlock≠some x.g∧w1.heap.size≤x.g
 b:∀ b,v.ownBlock=some b→b<wr.heap.size
 x:Ext w1 wr
theorem NxI.ext {T:Tr} {w1:World} {v:Value} {RN:List Row} {L:List (List Nat)} {wr w':World} (h:NxI T w1 v RN L wr) (x:Ext wr w'):NxI T w1 v RN L w':=
 ⟨h.q.ext x,h.m,h.a,fun b e=>Nat.lt_of_lt_of_le (h.b b e) x.le,h.x.trans x⟩
theorem NxI.like {T:Tr} {w1:World} {v:Value} {RN:List Row} {L L':List (List Nat)} {wr:World} (h:NxI T w1 v RN L wr) (e:L=L'):NxI T w1 v RN L' wr:=e▸h
theorem NxI.add {T:Tr} {w1:World} {v v':Value} {RN:List Row} {L:List (List Nat)} {W w':World} {r:Row} (h:NxI T w1 v RN L W) (hr:r.At W) (hp:∀ x∈RN++[r],0<x.l.length) (hg:w1.heap.size≤r.g) (hv:v.ownBlock≠some r.g) (hq:Que w' w1.heap.size 1 v' (RN.length+1) (RN.map Row.val++[r.val])) (hgr:W.grownBy w' v.ownBlock) (ho:v'.ownBlock=v.ownBlock∨v'.ownBlock=some W.heap.size):NxI T w1 v' (RN++[r]) (L++[r.l]) w':=by
 have ha:∀ x∈RN++[r],v.ownBlock≠some x.g∧w1.heap.size≤x.g:=fun x hx=>by
  rcases List.mem_append.1 hx with h1 | h1
  ·exact h.a x h1
  ·obtain rfl:=List.mem_singleton.1 h1;exact ⟨hv,hg⟩
 have hA:∀ x∈RN++[r],x.At W:=fun x hx=>(List.mem_append.1 hx).elim (h.q.2 x) fun h1=>by obtain rfl:=List.mem_singleton.1 h1;exact hr
 refine ⟨RowsQ.app h.q (fun x hx=>by obtain rfl:=List.mem_singleton.1 hx;exact hr) hp (fun x hx=>(ha x hx).1) hq hgr,by rw [List.map_append,h.m];rfl,fun x hx=>⟨RowsQ.app_apart hA hp (fun x hx=>(ha x hx).1) ho x hx,(ha x hx).2⟩,Que.own_lt hq (Nat.succ_pos _),h.x.below.grown hgr h.x.le (fun g e=>h.q.1.block g e)⟩
def KnextPost (T:Tr) (R:List Row) (w:World) (e:Ending) (w':World):Prop:=Ext w w'∧∃ v R',e=.returned v∧RowsH w' w.heap.size v R'∧(∀ x∈R',x.At w'∧w.heap.size≤x.g)∧R'.length≤8*R.length∧R'.Pairwise (fun a b=>lexP T.n (fn a.l) (fn b.l))∧∀ l,(∃ x∈R',x.l=l)↔∃ a∈R,l∈T.nextOf a.l
set_option maxHeartbeats 4000000 in
theorem knext_any (w : World) (T : Tr) (hV : T.Valid) (B : Nat) (mv : Value) (hM : MkAt w B T mv) (B2 : Nat) (v : Value) (R : List Row) (hR : RowsH w B2 v R) (hA : ∀ x ∈ R, x.At w ∧ CutL T x.l) (hl : R.length ≤ 5000) :
    Calls Tryz.prog 238 #[mv,v] w (KnextPost T R w):=by
 obtain ⟨j0,hj0,hy0,hy1,hy2⟩:=info_parts infoInts1
 have hn8:=hV.n8
 have hn1:=hV.n1
 have HA:=Lib.hid hA
 have HV:=Lib.hid hV
 have HM:=Lib.hid hM
 unfold KnextPost
 obtain ⟨va,vc,gb,go',hv,hc0⟩:∃ va vc gb go',v=.slice va R.length vc∧(0<R.length→va=some ⟨gb,go',none⟩∧gb<w.heap.size∧∀ j (hj:j<R.length),w.cell? ⟨gb,go'+j,none⟩=some R[j].val):=by
  rcases hR with ⟨rfl,a,c,rfl⟩ | ⟨g,off,cap,rfl,_,_,h2,h3⟩
  ·exact ⟨a,c,0,0,rfl,fun h=>absurd h (Nat.lt_irrefl _)⟩
  ·exact ⟨_,_,g,off,rfl,fun _=>⟨rfl,h2,fun j hj=>(h3 j hj).1⟩⟩
 subst hv
 have HC:=Lib.hid hc0
 clear hc0
 obtain ⟨vl,vn,NV,rfl,_⟩:=hM
 obtain ⟨ln,hln⟩:∃ z,z=R.length:=⟨_,rfl⟩
 have HLN:=Lib.hid hln
 rw [←hln] at hl ⊢
 obtain ⟨al,cl,hal⟩:∃ a c,vl=.slice a T.n c:=by obtain ⟨_,_,NV',h9,h8⟩:=HM.out;injection h9 with h9;injection h9 with h9;injection h9 with h9 h7;injection h7 with h7;subst h9 h7;exact h8.ql.slice
 obtain ⟨an,cn,han⟩:∃ a c,vn=.slice a T.n c:=by obtain ⟨_,_,NV',h9,h8⟩:=HM.out;injection h9 with h9;injection h9 with h9;injection h9 with h9 h7;injection h7 with h7;subst h9 h7;exact h8.qn.slice
 subst hal han
 clear hA hV hR hln
 go_enter Tryz.func238,Tryz.ntmps238
 go_upto_region 1 with fail
 refine boxed1 (w:=w) (G:=fun x=>Code.wp _ _ _ _ x) ?_
 intro w1 hx1 hs1 ⟨l0,c0,_,_⟩
 have hx11:Ext w1 w1:=Ext.refl _
 clear hs1
 go_wp2_with fail
 go_loopg [5,12] ln (fun gg v5 v12 wr=>∃ (k:Nat) (RN:List Row),k≤ln∧gg=ln - k∧v12=.int .i64 k∧NxI T w1 v5 RN (T.nexts ((R.take k).map Row.l)) wr)
 case atStart=>exact ⟨0,[],by omega,rfl,rfl,⟨RowsQ.nil _ _,rfl,fun x h=>(by cases h),fun b h=>(by cases h),hx11⟩⟩
 case round=>
  obtain ⟨k,RN,hk,rfl,rfl,hN⟩:=hrel
  obtain ⟨a5,c5,rfl⟩:=hN.q.1.slice
  have hxr:=hN.x
  have hxw:=hx1.trans hxr
  have HN:=Lib.hid hN
  have HLM:=Lib.hid (show RN.length≤8*k from by
   have h1:=congrArg List.length hN.m
   have h2:=nexts_len T ((R.take k).map Row.l)
   have h3:T.n*((R.take k).map Row.l).length≤8*k:=by
    refine Nat.le_trans (Nat.mul_le_mul_right _ hn8) (Nat.mul_le_mul_left _ ?_)
    rw [List.length_map,List.length_take];omega
   rw [List.length_map] at h1;omega)
  obtain ⟨lm,hlm⟩:∃ z,z=RN.length:=⟨_,rfl⟩
  have hlm8:lm≤8*k:=by rw [hlm];exact HLM.out
  have HLE:=Lib.hid hlm
  rw [←hlm] at HN ⊢
  clear hN hlm hx11
  by_cases hlt:k<ln
  ·have hlt':(k:Int)<(ln:Int):=by omega
   have hkR:k<R.length:=by rw [←HLN.out];exact hlt
   have HCC:=Lib.hid (HC.out (by omega))
   obtain rfl:=HCC.out.1
   have HRA:=Lib.hid (HA.out R[k] (List.getElem_mem hkR))
   obtain ⟨r,hr⟩:∃ r,r=R[k]:=⟨_,rfl⟩
   have HRE:=Lib.hid hr
   rw [←hr] at HRA
   have HRN:=Lib.hid (show NumAt w T.n r.a r.g r.o (natV (fn r.l)) from by have:=HRA.out.1;unfold Row.At at this;rw [HRA.out.2.1] at this;exact this)
   obtain ⟨ra,hra⟩:∃ z,z=r.a:=⟨_,rfl⟩
   obtain rfl:ra=some ⟨r.g,r.o,none⟩:=by rw [hra];exact HRN.out.pa (by omega)
   have vb:∀ w',Ext w w'→gb<w'.heap.size:=fun w' x=>Nat.lt_of_lt_of_le HCC.out.2.1 x.le
   obtain ⟨g,hg⟩:∃ z,z=r.g:=⟨_,rfl⟩
   obtain ⟨o,ho⟩:∃ z,z=r.o:=⟨_,rfl⟩
   obtain ⟨rc,hrc⟩:∃ z,z=r.c:=⟨_,rfl⟩
   obtain ⟨l,hl'⟩:∃ z,z=r.l:=⟨_,rfl⟩
   have vcell:∀ w',Ext w w'→w'.cell? ⟨gb,go'+k,none⟩=some (.slice (some ⟨g,o,none⟩) T.n rc):=fun w' x=>by
    rw [x.cell (HCC.out.2.2 k hkR),←hr]
    unfold Row.val
    rw [HRA.out.2.1,←hra,←hg,←ho,←hrc]
   have HRL:=Lib.hid hl'
   have HCO:=Lib.hid HRA.out.2
   rw [←hra,←hg,←ho,←hl'] at HRN
   rw [←hl'] at HCO
   have hrr:Ext wr wr:=Ext.refl _
   clear hra hg ho hrc hr hl'
   have HNP:=Lib.hid (show NxI T w1 (.slice a5 lm c5) RN (T.nexts ((R.take k).map Row.l)++T.part l 0) wr from HN.out.like (by show _=_++[];rw [List.append_nil]))
   go_wp2_with fail
   go_loopg [5,18] T.n (fun gg v5 v18 wr=>∃ (p:Nat) (RN:List Row),p≤T.n∧gg=T.n - p∧v18=.int .i64 p∧NxI T w1 v5 RN (T.nexts ((R.take k).map Row.l)++T.part l p) wr)
   case atStart=>exact ⟨0,RN,by omega,rfl,rfl,HNP.out⟩
   case round=>
    rename World=>wi
    obtain ⟨p,RI,hp,rfl,rfl,hN⟩:=hrel
    obtain ⟨a6,c6,rfl⟩:=hN.q.1.slice
    have hxi:=hN.x
    have hxwi:=hx1.trans hxi
    have HI:=Lib.hid hN
    have HLMi:=Lib.hid (show RI.length≤8*k+p from by
     have h1:=congrArg List.length hN.m
     have h2:=nexts_len T ((R.take k).map Row.l)
     have h3:T.n*((R.take k).map Row.l).length≤8*k:=by
      refine Nat.le_trans (Nat.mul_le_mul_right _ hn8) (Nat.mul_le_mul_left _ ?_)
      rw [List.length_map,List.length_take];omega
     have h4:(T.part l p).length≤p:=by unfold Tr.part;rw [List.length_map];exact T.onL_len _ _
     rw [List.length_map,List.length_append] at h1;omega)
    obtain ⟨li,hli⟩:∃ z,z=RI.length:=⟨_,rfl⟩
    have hli8:li≤8*k+p:=by rw [hli];exact HLMi.out
    have HLI:=Lib.hid hli
    rw [←hli] at HI ⊢
    clear hN hli
    by_cases hpn:p<T.n
    ·have hpn':(p:Int)<(T.n:Int):=by omega
     have hrd:=krd_any wi T HV.out B _ (HM.out.ext hxwi) (some ⟨g,o,none⟩) g o rc (fn l) (HRN.out.ext hxwi) HCO.out.2 p hpn
     have hii:Ext wi wi:=Ext.refl _
     by_cases hon:T.On (fn l) p
     ·have hrd':Calls Tryz.prog 262 #[.agg #[.slice al T.n cl,.slice an T.n cn],.slice (some ⟨g,o,none⟩) T.n rc,.int .i64 p] wi (fun e w'=>e=.returned (.bool true)∧Ext wi w'):=hrd.mono fun e w' ⟨b,he,hb,hx⟩=>⟨by rw [he,hb.2 hon],hx⟩
      have HPS:=Lib.hid (show T.part l (p+1)=T.part l p++[rowOf T.n (upC (fn l) p)] from by unfold Tr.part;rw [Tr.onL_yes hon,List.map_append];rfl)
      obtain ⟨cp,hcp⟩:∃ z,z=fn l p:=⟨_,rfl⟩
      have HCP:=Lib.hid hcp
      have hcp64:cp≤64:=by rw [hcp];exact CutL.val HV.out HCO.out hpn
      have hw1:IntKind.i64.wrap ((cp:Int)+1)=(cp:Int)+1:=IntWalk.i64_in _ (by omega)
      clear hrd hcp
      go_upto_region 10 with (first | (go_at_call 262;refine hrd'.mono ?_;rintro e w4 ⟨rfl,hx4⟩) | (go_at_call 121;refine (clonen_any w4 g o T.n rc (natV (fn l)) (HRN.out.ext (hxwi.trans hx4)) (by omega) (by omega)).mono ?_;rintro e w5 ⟨g5,o5,c5',rfl,q1,q2,q3,hx5⟩))
      have HQ3:=Lib.hid q3
      have l5:∀ w',Ext w5 w'→g5<w'.heap.size:=fun w' x=>Nat.lt_of_lt_of_le q2 x.le
      have k5:∀ w',Ext w5 w'→w'.cell? ⟨g5,o5+p,none⟩=some (.int .i64 (cp:Int)):=fun w' x=>by rw [HCP.out];exact x.cell (HQ3.out p hpn).1
      have f5:∀ w',Ext w5 w'→w'.frozen? ⟨g5,o5+p,none⟩=false:=fun w' x=>(x.frozen (p:=⟨g5,o5+p,none⟩) q2).trans (HQ3.out p hpn).2
      have h55:Ext w5 w5:=Ext.refl _
      have HG5:=Lib.hid (And.intro q1 q2)
      clear q3 q1 q2 hrd'
      go_upto_region 11 with fail
      refine setm1 (G:=fun x=>Code.wp _ _ _ _ x) ?_
      intro w6 hw6
      have HX6:=Lib.hid (show Ext wi w6 from by rw [hw6];exact (hx4.trans hx5).setCell (by show wi.heap.size≤g5;have:=HG5.out.1;have:=hx4.le;omega) _)
      have HN6:=Lib.hid (show Row.At ⟨rowOf T.n (upC (fn l) p),some ⟨g5,o5,none⟩,g5,o5,c5'⟩ w6 from by
       show NumAt w6 (rowOf T.n (upC (fn l) p)).length _ g5 o5 (natV (fn (rowOf T.n (upC (fn l) p))))
       rw [rowOf_len]
       refine ⟨by omega,fun _=>rfl,fun _=>by rw [hw6,World.size_setCell];exact HG5.out.2,fun j hj=>?_⟩
       show _=some (Value.int .i64 ((fn (rowOf T.n (upC (fn l) p)) j:Nat):Int))
       rw [fn_rowOf hj,hw6]
       by_cases e:j=p
       ·subst e
        refine (World.cell?_setCell_same _ _ _ (HQ3.out j hj).1).trans ?_
        rw [upC_same,HCP.out];rfl
       ·refine Eq.trans (World.cell?_setCell_other _ _ _ _ fun h9=>?_) ((HQ3.out j hj).1.trans ?_)
        ·simp only [Addr.mk.injEq] at h9;omega
        ·rw [upC_other e])
      have hx6:=HX6.out
      have hx16:=hxi.trans hx6
      have hg5i:wi.heap.size≤g5:=by have:=HG5.out.1;have:=hx4.le;omega
      clear hw6 l5 k5 f5 h55
      go_upto_region 12 with (at_builtin;go_loud (refine wpList_append_que _ rfl _ _ 33 33 rfl (base:=w1.heap.size) (e:=28) (size:=1) j0 (.slice none 0 0) 24 Tryz.underlying33 hj0 hy0 hy1 hy2 rfl rfl (v:=.slice a6 li c6) (n:=li) (xs:=RI.map Row.val) (by have h1:=(HI.out.q.1.ext hx6).ext (Ext.alloc w6 (.cells #[.slice (some ⟨g5,o5,none⟩) T.n c5'] 28));rw [←HLI.out] at h1;exact h1) (by rw [World.size_alloc];have:=hx16.le;omega) (.slice (some ⟨w6.heap.size,0,none⟩) 1 1) 1 [.slice (some ⟨g5,o5,none⟩) T.n c5'] rfl (by exact Src.ofSlice _ Tryz.underlying33 ⟨w6.heap.size,0,none⟩ 1 1 _ rfl (news_ok w6 _ _) (by intro u hu;simp at hu;subst hu;rfl)) (by unfold maxLen;omega) (by omega) ?_;rintro v7 w7 hq7 hg7 ho7))
      have HN7:=Lib.hid (show NxI T w1 v7 (RI++[⟨rowOf T.n (upC (fn l) p),some ⟨g5,o5,none⟩,g5,o5,c5'⟩]) (T.nexts ((R.take k).map Row.l)++T.part l (p+1)) w7 from by
       rw [HPS.out,←List.append_assoc]
       refine NxI.add ((HI.out.ext hx6).ext (Ext.alloc _ _)) (HN6.out.ext (Ext.alloc _ _)) (fun x hx=>?_) (by show w1.heap.size≤g5;have:=hxi.le;omega) (fun e=>by have h9:=HI.out.b g5 e;omega) ?_ hg7 ho7
       ·have h8:x.l∈(RI++[(⟨rowOf T.n (upC (fn l) p),some ⟨g5,o5,none⟩,g5,o5,c5'⟩:Row)]).map Row.l:=List.mem_map.2 ⟨x,hx,rfl⟩
        rcases List.mem_append.1 hx with h1 | h1
        ·have h2:x.l∈T.nexts ((R.take k).map Row.l)++T.part l p:=by rw [←HI.out.m];exact List.mem_map.2 ⟨x,h1,rfl⟩
         have h3:x.l.length=T.n:=by
          rcases List.mem_append.1 h2 with h4 | h4
          ·obtain ⟨y,_,h5⟩:=List.mem_flatMap.1 h4
           obtain ⟨q,_,_,h6⟩:=Tr.mem_nextOf.1 h5
           rw [h6,rowOf_len]
          ·obtain ⟨q,_,h6⟩:=List.mem_map.1 h4
           rw [←h6,rowOf_len]
         omega
        ·obtain rfl:=List.mem_singleton.1 h1
         show 0<(rowOf T.n _).length
         rw [rowOf_len];omega
       ·rw [←HLI.out]
        show Que w7 _ 1 v7 (li+1) (RI.map Row.val++[.slice (some ⟨g5,o5,none⟩) (rowOf T.n (upC (fn l) p)).length c5'])
        rw [rowOf_len];exact hq7)
      clear hq7 hg7 ho7
      go_wp2_with fail
      go_roundg (T.n - (p+1))
      case rel=>exact ⟨p+1,_,by omega,rfl,by go_num,HN7.out⟩
      case measure=>omega
     ·have hrd' : Calls Tryz.prog 262 #[.agg #[.slice al T.n cl, .slice an T.n cn], .slice (some ⟨g, o, none⟩) T.n rc, .int .i64 p] wi (fun e w' => e = .returned (.bool false) ∧ Ext wi w') := hrd.mono fun e w' ⟨b, he, hb, hx⟩ => ⟨by
          rw [he]
          cases b with
          | false => rfl
          | true => exact absurd (hb.1 rfl) hon,hx⟩
      have HPS:=Lib.hid (show T.part l (p+1)=T.part l p from by unfold Tr.part;rw [Tr.onL_no hon])
      clear hrd
      go_wp2_with (go_at_call 262;refine hrd'.mono ?_;rintro e w4 ⟨rfl,hx4⟩)
      go_roundg (T.n - (p+1))
      case rel=>exact ⟨p+1,RI,by omega,rfl,by go_num,by rw [HPS.out];exact HI.out.ext hx4⟩
      case measure=>omega
    ·obtain rfl:p=T.n:=by omega
     have HNK:=Lib.hid (show NxI T w1 (.slice a6 li c6) RI (T.nexts ((R.take (k+1)).map Row.l)) wi from HI.out.like (by rw [part_all,nexts_take hkR,HRL.out,HRE.out]))
     go_wp2_with fail
     go_roundg (ln - (k+1))
     case rel=>exact ⟨k+1,RI,by omega,rfl,by go_num,HNK.out⟩
     case measure=>omega
  ·obtain rfl:k=ln:=by omega
   have HMR:=Lib.hid (show RN.map Row.l=T.nexts (R.map Row.l) from by rw [HN.out.m,List.take_of_length_le (by rw [HLN.out];exact Nat.le_refl _)])
   have HRN:=Lib.hid (show ∀ x∈RN,x.l.length=T.n from fun x hx=>by
    have h2:x.l∈T.nexts (R.map Row.l):=by rw [←HMR.out];exact List.mem_map.2 ⟨x,hx,rfl⟩
    obtain ⟨y,_,h5⟩:=List.mem_flatMap.1 h2
    obtain ⟨q,_,_,h6⟩:=Tr.mem_nextOf.1 h5
    rw [h6,rowOf_len])
   have hsort:=rsort_rows (w:=wr) (base:=w1.heap.size) (v:=.slice a5 lm c5) (R:=RN) (n:=T.n) HN.out.q hxr.le (by rw [←HLE.out];omega) HRN.out hn1 (fun x hx=>(HN.out.a x hx).1) 263 (enters_of Tryz.func263 (by kernel_rfl) rfl) (fun W r s hr hs h1 h2=>by
    have hr':NumAt W T.n r.a r.g r.o (natV (fn r.l)):=by have:=h1;unfold Row.At at this;rw [HRN.out _ hr] at this;exact this
    have hs':NumAt W T.n s.a s.g s.o (natV (fn s.l)):=by have:=h2;unfold Row.At at this;rw [HRN.out _ hs] at this;exact this
    have h3:=nxt1_any W r.a s.a r.g r.o s.g s.o T.n r.c s.c (fn r.l) (fn s.l) hr' hs'
    unfold Row.val;rw [HRN.out _ hr,HRN.out _ hs];exact h3)
   go_upto_region 15 with (go_at_call 123;refine hsort.mono ?_;rintro e w5 ⟨rfl,R5,hp5,hs5,ho5,hh5⟩)
   have HR5:=Lib.hid (show ∀ x∈R5,x∈RN from fun x hx=>hp5.mem_iff.1 hx)
   have HA5:=Lib.hid (show ∀ x∈R5,x.At w5 from fun x hx=>ho5.row (HN.out.q.2 x (HR5.out x hx)) (by rw [HRN.out _ (HR5.out x hx)];exact hn1) (HN.out.a x (HR5.out x hx)).1)
   have hcomp:=rcompact_any w5 w1.heap.size (.slice a5 lm c5) R5 T.n hh5 HA5.out (fun x hx=>HRN.out _ (HR5.out x hx)) hn1 (by rw [hp5.length_eq,←HLE.out];omega) (fun x hx=>(HN.out.a x (HR5.out x hx)).1)
   have HP5:=Lib.hid (And.intro hp5 (And.intro hs5 ho5))
   clear hsort hp5 hs5 ho5 hh5
   go_wp2_with (go_at_call 264;refine hcomp.mono ?_;rintro e w6 ⟨v6,rfl,hh6,ho6⟩)
   have hx6:Ext w w6:=Below.trans (Below.trans hxw (Below.mono HP5.out.2.2.below hx1.le)) (Below.mono ho6.below hx1.le)
   have HCS:=Lib.hid (compJ_sorted (R:=R5) (n:=T.n) HP5.out.2.1 (fun x hx=>HRN.out _ (HR5.out x hx)) (Nat.le_refl _))
   have HCM:=Lib.hid (show ∀ x∈compJ R5 R5.length,x∈R5 from fun x hx=>compJ_mem (Nat.le_refl _) x hx)
   have HH6:=Lib.hid hh6
   have HO6:=Lib.hid ho6
   clear hh6 ho6 hcomp
   go_ret
   refine ⟨hx6,v6,compJ R5 R5.length,rfl,?_,fun x hx=>⟨?_,?_⟩,Nat.le_trans (compJ_len _ _) (by rw [HP5.out.1.length_eq];exact HLM.out),HCS.out.1,fun l=>?_⟩
   ·rcases HH6.out with ⟨h1,h2⟩ | ⟨g,off,cap,h1,h2,h3,h4⟩
    ·exact .inl ⟨h1,h2⟩
    ·exact .inr ⟨g,off,cap,h1,h2,Nat.le_trans hx1.le h3,h4⟩
   ·have h1:=HCM.out x hx
    exact HO6.out.row (HA5.out x h1) (by rw [HRN.out _ (HR5.out x h1)];exact hn1) (HN.out.a x (HR5.out x h1)).1
   ·exact Nat.le_trans hx1.le (HN.out.a x (HR5.out x (HCM.out x hx))).2
   ·have h1 : (∃ x ∈ compJ R5 R5.length, x.l = l) ↔ ∃ x ∈ RN, x.l = l := by
      constructor
      ·rintro ⟨x,hx,e⟩;exact ⟨x,HR5.out x (HCM.out x hx),e⟩
      ·rintro ⟨x,hx,e⟩
       have h2:=HP5.out.1.mem_iff.2 hx
       obtain ⟨i,hi,h3⟩:=List.getElem_of_mem h2
       obtain ⟨y,hy,h4⟩:=HCS.out.2.1 i hi
       exact ⟨y,hy,by rw [h4,getD_at hi,h3,e]⟩
    rw [h1]
    have h2:(∃ x∈RN,x.l=l)↔l∈T.nexts (R.map Row.l):=by rw [←HMR.out];exact List.mem_map.symm
    rw [h2]
    unfold Tr.nexts
    rw [List.mem_flatMap]
    constructor
    ·rintro ⟨y,hy,h5⟩
     obtain ⟨a,ha,rfl⟩:=List.mem_map.1 hy
     exact ⟨a,ha,h5⟩
    ·rintro ⟨a,ha,h5⟩;exact ⟨a.l,List.mem_map.2 ⟨a,ha,rfl⟩,h5⟩
structure LvOk (T:Tr) (w:World) (B:Nat) (o:Option Nat) (k:Nat) (x:Value × List Row):Prop where
 h:RowsH w B x.1 x.2
 a:∀ r∈x.2,r.At w∧o≠some r.g
 o:x.2≠[]→∀ b,x.1.ownBlock=some b→o≠some b
 s:x.2.Pairwise fun a b=>lexP T.n (fn a.l) (fn b.l)
 m:∀ l,(∃ r∈x.2,r.l=l)↔(CutL T l∧tot (fn l) T.n=k)
 g:∀ r∈x.2,B≤r.g
theorem LvOk.ext {T:Tr} {w w':World} {B k:Nat} {o:Option Nat} {x:Value × List Row} (h:LvOk T w B o k x) (e:Ext w w'):LvOk T w' B o k x:=by
 refine ⟨?_,fun r hr=>⟨(h.a r hr).1.ext e,(h.a r hr).2⟩,h.o,h.s,h.m,h.g⟩
 rcases h.h with h1 | ⟨g,off,cap,h1,h2,h3,h4,h5⟩
 ·exact .inl h1
 ·exact .inr ⟨g,off,cap,h1,h2,h3,Nat.lt_of_lt_of_le h4 e.le,fun j hj=>⟨e.cell (h5 j hj).1,(e.frozen (p:=⟨g,off+j,none⟩) h4).trans (h5 j hj).2⟩⟩
theorem LvOk.grown {T:Tr} {w w':World} {B k:Nat} {o o':Option Nat} {x:Value × List Row} (h:LvOk T w B o k x) (hg:w.grownBy w' o) (ho:o'=o∨o'=some w.heap.size) (hn:0<T.n):LvOk T w' B o' k x:=by
 have hlen:∀ r∈x.2,0<r.l.length:=fun r hr=>by rw [((h.m r.l).1 ⟨r,hr,rfl⟩).1.1];exact hn
 have hne:∀ {b},b<w.heap.size→o≠some b→o'≠some b:=fun hb h1 e=>by
  rcases ho with h2 | h2
  ·exact h1 (h2▸e)
  ·rw [h2] at e
   have:w.heap.size=_:=Option.some.inj e
   omega
 refine ⟨?_,fun r hr=>⟨NumAt.blk (h.a r hr).1 (hg.block r.g (NumAt.pb (h.a r hr).1 (hlen r hr)) (fun e=>(h.a r hr).2 e.symm)) hg.size,hne (NumAt.pb (h.a r hr).1 (hlen r hr)) (h.a r hr).2⟩,fun h0 b e=>?_,h.s,h.m,h.g⟩
 ·rcases h.h with h1 | ⟨g,off,cap,h1,h2,h3,h4,h5⟩
  ·exact .inl h1
  ·by_cases h0:x.2=[]
   ·exact .inr ⟨g,off,cap,h1,h2,h3,Nat.lt_of_lt_of_le h4 hg.size,fun j hj=>by rw [h0] at hj;exact absurd hj (Nat.not_lt_zero _)⟩
   ·have hb:=hg.block g h4 (fun e=>h.o h0 g (by rw [h1];rfl) e.symm)
    exact .inr ⟨g,off,cap,h1,h2,h3,Nat.lt_of_lt_of_le h4 hg.size,fun j hj=>⟨(World.cell?_of_block (w:=w) (a:=⟨g,off+j,none⟩) hb).trans (h5 j hj).1,(World.frozen?_of_block (w:=w) (a:=⟨g,off+j,none⟩) hb).trans (h5 j hj).2⟩⟩
 ·rcases h.h with ⟨h1,_⟩ | ⟨g,off,cap,h1,h2,h3,h4,h5⟩
  ·exact absurd h1 h0
  ·rw [h1] at e
   obtain rfl:g=b:=by simpa [Value.ownBlock] using e
   exact hne h4 (h.o h0 g (by rw [h1];rfl))
theorem lvs_bef {T : Tr} {w : World} {B : Nat} {o : Option Nat} : ∀ {LV : List (Value × List Row)} {k0 : Nat}, (∀ k (hk : k < LV.length), LvOk T w B o (k0 + k) LV[k]) →
    ((LV.flatMap Prod.snd).map Row.l).Pairwise (fun a b=>befP T.n (fn a) (fn b))∧∀ l∈(LV.flatMap Prod.snd).map Row.l,CutL T l∧k0≤tot (fn l) T.n
 | [],_,_ => ⟨List.Pairwise.nil,fun l h => by cases h⟩
 | x :: LV,k0,h => by
  have h0:=h 0 (by simp)
  obtain ⟨h1,h2⟩:=lvs_bef (LV:=LV) (k0:=k0+1) fun k hk=>by
   have:=h (k+1) (by simp;omega)
   rw [Nat.add_assoc,Nat.add_comm 1 k];exact this
  have hx:∀ l∈x.2.map Row.l,CutL T l∧tot (fn l) T.n=k0:=fun l hl=>by
   obtain ⟨r,hr,rfl⟩:=List.mem_map.1 hl
   exact (h0.m r.l).1 ⟨r,hr,rfl⟩
  rw [List.flatMap_cons,List.map_append]
  refine ⟨List.pairwise_append.2 ⟨?_,h1,fun a ha b hb=>?_⟩,fun l hl=>?_⟩
  ·refine List.pairwise_map.2 (h0.s.imp_of_mem fun {a b} ha hb hl=>.inr ⟨?_,hl⟩)
   rw [(hx _ (List.mem_map.2 ⟨a,ha,rfl⟩)).2,(hx _ (List.mem_map.2 ⟨b,hb,rfl⟩)).2]
  ·exact .inl (by have:=(hx a ha).2;have:=(h2 b hb).2;omega)
  ·rcases List.mem_append.1 hl with h3 | h3
   ·exact ⟨(hx l h3).1,by rw [(hx l h3).2];exact Nat.le_refl _⟩
   ·exact ⟨(h2 l h3).1,by have:=(h2 l h3).2;omega⟩
structure LvI (T:Tr) (w4:World) (v6 v5:Value) (LV:List (Value × List Row)) (RL:List Row) (B:Nat) (wr:World):Prop where
 q:Que wr w4.heap.size 1 v6 LV.length (LV.map Prod.fst)
 lv:∀ k (hk:k<LV.length),LvOk T wr B v6.ownBlock k LV[k]
 cu:LvOk T wr B v6.ownBlock LV.length (v5,RL)
 x:Ext w4 wr
 b:∀ b,v6.ownBlock=some b→b<wr.heap.size
 t:(LV.flatMap Prod.snd).length≤5000
 n:RL.length≤40000
def KlevPost (T:Tr) (w:World) (e:Ending) (w':World):Prop:=Ext w w'∧((∃ (v:Value) (LV:List (Value × List Row)),e=.returned (.tuple #[v,.int .i64 0])∧Que w' w.heap.size 1 v LV.length (LV.map Prod.fst)∧(∀ k (hk:k<LV.length),LvOk T w' w.heap.size v.ownBlock k LV[k])∧IsCuts T ((LV.flatMap Prod.snd).map Row.l)∧(LV.flatMap Prod.snd).length≤5000)∨
 (e=.returned (.tuple #[.slice none 0 0,.int .i64 16])∧∃ L:List (List Nat),L.Pairwise (fun a b=>befP T.n (fn a) (fn b))∧(∀ l∈L,CutL T l)∧5000<L.length))
theorem infoInts2:(Tryz.prog.info? 33).map (fun i=>(i.zero,i.size,i.bytes))=some (some (.slice none 0 0),1,24):=by kernel_rfl
theorem RowsH.mono {w:World} {B B':Nat} {v:Value} {R:List Row} (h:RowsH w B v R) (hb:B'≤B):RowsH w B' v R:=by
 rcases h with h1 | ⟨g,off,cap,h1,h2,h3,h4⟩
 ·exact .inl h1
 ·exact .inr ⟨g,off,cap,h1,h2,Nat.le_trans hb h3,h4⟩
theorem RowsH.slice {w:World} {B:Nat} {v:Value} {R:List Row} (h:RowsH w B v R):∃ a c,v=.slice a R.length c:=by
 rcases h with ⟨rfl,a,c,rfl⟩ | ⟨g,off,cap,rfl,_⟩
 ·exact ⟨a,c,rfl⟩
 ·exact ⟨_,_,rfl⟩
set_option maxHeartbeats 4000000 in
theorem klev_any (w:World) (T:TM) (hT:T.At w) (hV:T.toTr.Valid):Calls Tryz.prog 192 #[T.val] w (KlevPost T.toTr w):=by
 obtain ⟨i0,hi0,hz0,hz1,hz2⟩:=info_parts infoInt
 obtain ⟨j0,hj0,hy0,hy1,hy2⟩:=info_parts infoInts2
 have hn8:=hV.n8
 have hn1:=hV.n1
 have HT:=Lib.hid hT
 have HV:=Lib.hid hV
 unfold KlevPost
 obtain ⟨ta,hta⟩:∃ z,z=T.a:=⟨_,rfl⟩
 have HTA:=Lib.hid hta
 have hva:=Lib.hid (fun W (x:Ext w W)=>(show Calls Tryz.prog 136 #[T.val] W (fun e w'=>e=.returned (.bool true)∧Ext W w') from (valid_any W T (hT.ext x)).mono fun e w' ⟨b,he,hb,hx⟩=>⟨by rw [he,hb.2 hV],hx⟩))
 have hof:=Lib.hid (fun W (x:Ext w W)=>kof_any W T (hT.ext x) hV)
 simp only [TM.val] at hva hof ⊢
 rw [←hta] at hva hof ⊢
 clear hT hV hta
 go_enter Tryz.func192,Tryz.ntmps192
 go_upto_region 1 with fail
 refine boxed1 (w:=w) (G:=fun x=>Code.wp _ _ _ _ x) ?_
 intro w1 hx1 hs1 ⟨l0,c0,_,_⟩
 have hx11:Ext w1 w1:=Ext.refl _
 clear hs1
 go_upto_region 3 with (go_at_call 136;refine (hva.out w1 hx1).mono ?_;rintro e w2 ⟨rfl,hx2⟩)
 go_upto_region 4 with (go_at_call 237;refine (hof.out w2 (hx1.trans hx2)).mono ?_;rintro e w3 ⟨mv,rfl,hm3,hx3⟩;have HM3:=Lib.hid hm3;obtain ⟨vl,vn,NV,rfl,hmm⟩:=hm3;obtain ⟨al,cl,rfl⟩:=hmm.ql.slice;obtain ⟨an,cn,rfl⟩:=hmm.qn.slice;clear hmm)
 refine boxed1 (w:=w3) (G:=fun x=>Code.wp _ _ _ _ x) ?_
 intro w4 hx4 hs4 ⟨l4,c4,_,_⟩
 have hx44:Ext w4 w4:=Ext.refl _
 have hxw4:Ext w w4:=((hx1.trans hx2).trans hx3).trans hx4
 have HM4:=Lib.hid (HM3.out.ext hx4)
 have hx14:Ext w1 w4:=(hx2.trans hx3).trans hx4
 clear hs4
 go_upto_region 5 with (at_make;refine wpList_make_full _ rfl _ _ 28 rfl w4.heap.size 3 i0 (.int .i64 0) 1 Tryz.underlying28 hi0 hz0 hz1 .i64 .i64 _ _ T.n rfl rfl rfl rfl (by rw [hz2];omega) (by unfold maxLen;omega) (Nat.le_refl _) ?_;intro w5 hown5 hg5)
 have hx45:Ext w4 w5:=(Below.refl _ _).grown hg5 (Nat.le_refl _) (by simp)
 have HI5:=Lib.hid (IntRow.made hown5)
 clear hown5 hg5
 refine boxed1 (w:=w5) (G:=fun x=>Code.wp _ _ _ _ x) ?_
 intro w6 hx6 hs6 ⟨l6,c6,f6,k6⟩
 have hx46:=hx45.trans hx6
 have hf0:∀ p,fn (List.replicate T.n 0) p=0:=fun p=>by unfold fn;rw [List.getD_eq_getElem?_getD,List.getElem?_replicate];split <;> rfl
 have hz:tot (fun _=>0) T.n=0:=by
  have:∀ n,tot (fun _=>0) n=0:=fun n=>by induction n with | zero=>rfl | succ n ih=>exact ih
  exact this _
 have hc0:CutL T.toTr (List.replicate T.n 0):=⟨List.length_replicate,(Tr.CutOk.zero T.toTr).congr fun p _=>hf0 p⟩
 have HST:=Lib.hid (show LvI T.toTr w4 (.slice none 0 0) (.slice (some ⟨w5.heap.size,0,none⟩) 1 1) [] [⟨List.replicate T.n 0,some ⟨w4.heap.size,0,none⟩,w4.heap.size,0,T.n⟩] w.heap.size w6 from by
  refine ⟨Que.nil _ _ _,fun k hk=>absurd hk (Nat.not_lt_zero _),⟨.inr ⟨w5.heap.size,0,1,rfl,Nat.le_refl _,by have:=hxw4.le;have:=hx45.le;omega,l6 w6 (Ext.refl _),fun j hj=>?_⟩,fun r hr=>?_,fun _ b _ e=>(by cases e),List.pairwise_singleton _ _,fun l=>?_,fun r hr=>by obtain rfl:=List.mem_singleton.1 hr;exact hxw4.le⟩,hx46,fun b e=>(by cases e),Nat.zero_le _,by show 1≤40000;omega⟩
  ·obtain rfl:j=0:=by have:j<1:=hj;omega
   refine ⟨(c6 w6 (Ext.refl _) 0).trans ?_,f6 w6 (Ext.refl _) 0⟩
   show some (Value.slice _ _ _)=some (Value.slice _ (List.replicate T.n 0).length _)
   rw [List.length_replicate];rfl
  ·obtain rfl:=List.mem_singleton.1 hr
   refine ⟨?_,fun e=>(by cases e)⟩
   show NumAt w6 (List.replicate T.n 0).length _ w4.heap.size 0 (natV (fn (List.replicate T.n 0)))
   rw [List.length_replicate]
   have h1:=(HI5.out.ext hx6).num (by omega)
   exact ⟨h1.hn,h1.pa,h1.pb,fun p hp=>by rw [h1.c p hp];show some (Value.int .i64 0)=some (Value.int .i64 ((fn (List.replicate T.n 0) p:Nat):Int));rw [hf0];rfl⟩
  ·constructor
   ·rintro ⟨x,hx,rfl⟩
    obtain rfl:=List.mem_singleton.1 hx
    exact ⟨hc0,(totS_congr fun p _=>hf0 p).trans hz⟩
   ·rintro ⟨h1,h2⟩
    refine ⟨_,List.mem_singleton.2 rfl,fn_ext (by rw [h1.1,List.length_replicate]) fun p hp=>?_⟩
    have hp':p<T.n:=by simpa using hp
    have h3:=tot_same (f:=fun _=>0) (g:=fn l) (n:=T.n) (fun _ _=>Nat.zero_le _) (by rw [hz];exact h2.symm) p hp'
    show fn (List.replicate T.n 0) p=fn l p
    rw [hf0];exact h3)
 clear hf0 hz hc0 k6 l6 c6 f6 hs6 l0 c0 hx11
 go_wp2_with fail
 go_loopg [5,6,7] (tot T.en T.n+2) (fun gg v5 v6 v7 wr=>∃ (LV:List (Value × List Row)) (RL:List Row),gg=tot T.en T.n+2 - LV.length∧v7=.int .i64 ((LV.flatMap Prod.snd).length:Nat)∧LvI T.toTr w4 v6 v5 LV RL w.heap.size wr)
 case atStart=>exact ⟨[],_,rfl,rfl,HST.out⟩
 case round=>
  obtain ⟨LV,RL,rfl,rfl,hI⟩:=hrel
  obtain ⟨a5,c5,hv5⟩:=hI.cu.h.slice
  obtain ⟨a6,c6,hv6⟩:=hI.q.slice
  dsimp only at hv5
  subst hv5 hv6
  have hx4r:=hI.x
  have hxr:=hxw4.trans hx4r
  obtain ⟨ln,hln⟩:∃ z,z=RL.length:=⟨_,rfl⟩
  obtain ⟨lv,hlv⟩:∃ z,z=LV.length:=⟨_,rfl⟩
  obtain ⟨tl,htl⟩:∃ z,z=(LV.flatMap Prod.snd).length:=⟨_,rfl⟩
  have hn40:ln≤40000:=by rw [hln];exact hI.n
  have ht50:tl≤5000:=by rw [htl];exact hI.t
  rw [←hln,←hlv] at hI
  rw [←hln,←hlv,←htl]
  have HLN:=Lib.hid hln
  have HLV:=Lib.hid hlv
  have HTL:=Lib.hid htl
  have HI:=Lib.hid hI
  have hw7:IntKind.i64.wrap ((tl:Int)+(ln:Int))=((tl+ln:Nat):Int):=by rw [IntWalk.i64_in _ (by omega)];omega
  clear hI hln hlv htl
  by_cases h0:0<ln
  ·have h0':(0:Int)<(ln:Int):=by omega
   have HKL:=Lib.hid (show lv≤tot T.en T.n from by
    have h1:RL[0]'(by rw [←HLN.out];exact h0)∈RL:=List.getElem_mem _
    have h2:=(HI.out.cu.m _).1 ⟨_,h1,rfl⟩
    rw [HLV.out,←h2.2]
    exact totS_le fun p hp=>h2.1.2.le p hp)
   have h512:lv≤512:=by
    have h1:RL[0]'(by rw [←HLN.out];exact h0)∈RL:=List.getElem_mem _
    have h2:=(HI.out.cu.m _).1 ⟨_,h1,rfl⟩
    rw [HLV.out,←h2.2]
    exact h2.1.small HV.out (Nat.le_refl _)
   have HLA:=Lib.hid (show ∀ k (hk:k<(LV++[(Value.slice a5 ln c5,RL)]).length),LvOk T.toTr wr w.heap.size (Value.slice a6 lv c6).ownBlock (0+k) (LV++[(Value.slice a5 ln c5,RL)])[k] from fun k hk=>by
    rw [Nat.zero_add]
    by_cases e:k<LV.length
    ·rw [List.getElem_append_left e];exact HI.out.lv k e
    ·obtain rfl:k=LV.length:=by rw [List.length_append] at hk;simp at hk;omega
     have h9:=HI.out.cu
     rw [List.getElem_append_right (Nat.le_refl _)]
     simpa using h9)
   by_cases hbig:5000<tl+ln
   ·have hbig':(5000:Int)<((tl+ln:Nat):Int):=by omega
    have hbig'':(5000:Int)<(tl:Int)+(ln:Int):=by omega
    have HER:=Lib.hid (lvs_bef HLA.out)
    go_wp2_with fail
    go_ret2
    exact ⟨hxr,.inr ⟨rfl,_,HER.out.1,fun l hl=>(HER.out.2 l hl).1,by rw [List.length_map,List.flatMap_append,List.length_append,←HTL.out];simp only [List.flatMap_cons,List.flatMap_nil,List.append_nil];rw [←HLN.out];exact hbig⟩⟩
   ·have hbig':¬(5000:Int)<((tl+ln:Nat):Int):=by omega
    have hbig'':¬(5000:Int)<(tl:Int)+(ln:Int):=by omega
    go_upto_region 8 with (at_builtin;go_loud (refine wpList_append_que _ rfl _ _ 234 234 rfl (base:=w4.heap.size) (e:=33) (size:=1) j0 (.slice none 0 0) 24 Tryz.underlying234 hj0 hy0 hy1 hy2 rfl rfl (v:=.slice a6 lv c6) (n:=lv) (xs:=LV.map Prod.fst) (by have h1:=HI.out.q.ext (Ext.alloc wr (.cells #[.slice a5 ln c5] 33));rw [←HLV.out] at h1;exact h1) (by rw [World.size_alloc];have:=hx4r.le;omega) (.slice (some ⟨wr.heap.size,0,none⟩) 1 1) 1 [.slice a5 ln c5] rfl (by exact Src.ofSlice _ Tryz.underlying234 ⟨wr.heap.size,0,none⟩ 1 1 _ rfl (news_ok wr _ _) (by intro u hu;simp at hu;subst hu;rfl)) (by unfold maxLen;omega) (by omega) ?_;rintro v9 w9 hq9 hg9 ho9))
    have hx49:Ext w4 w9:=(hx4r.alloc' _).below.grown hg9 (by rw [World.size_alloc];have:=hx4r.le;omega) (fun g e=>HI.out.q.block g e)
    have HC9:=Lib.hid ((HI.out.cu.ext (Ext.alloc _ _)).grown hg9 ho9 hn1)
    have HL9:=Lib.hid (fun k (hk:k<LV.length)=>((HI.out.lv k hk).ext (Ext.alloc _ _)).grown hg9 ho9 hn1)
    have HO9:=Lib.hid (Que.own_lt hq9 (by omega))
    have HQ9:=Lib.hid hq9
    have hnx:=knext_any w9 T.toTr HV.out _ _ (HM4.out.ext hx49) w.heap.size (.slice a5 ln c5) RL HC9.out.h (fun x hx=>⟨(HC9.out.a x hx).1,((HC9.out.m x.l).1 ⟨x,hx,rfl⟩).1⟩) (by rw [←HLN.out];omega)
    clear hq9 hg9 ho9
    go_wp2_with (go_at_call 238;refine hnx.mono ?_;rintro e w10 ⟨hx10,v10,R10,rfl,hh10,ha10,hl10,hs10,hm10⟩)
    have HN10:=Lib.hid (show LvI T.toTr w4 v9 v10 (LV++[(Value.slice a5 ln c5,RL)]) R10 w.heap.size w10 from by
     have hll:(LV++[(Value.slice a5 ln c5,RL)]).length=lv+1:=by rw [List.length_append,←HLV.out];rfl
     have hBw:w.heap.size≤w9.heap.size:=by have:=hxw4.le;have:=hx49.le;omega
     refine ⟨by rw [hll,List.map_append];exact HQ9.out.ext hx10,fun k hk=>?_,⟨hh10.mono hBw,fun r hr=>⟨(ha10 r hr).1,fun e=>?_⟩,fun h1 b e e2=>?_,hs10,fun l=>?_,fun r hr=>Nat.le_trans hBw (ha10 r hr).2⟩,hx49.trans hx10,fun b e=>Nat.lt_of_lt_of_le (HO9.out b e) hx10.le,?_,by rw [←HLN.out] at hl10;omega⟩
     ·by_cases e:k<LV.length
      ·rw [List.getElem_append_left e];exact (HL9.out k e).ext hx10
      ·obtain rfl:k=LV.length:=by rw [hll,HLV.out] at hk;omega
       have h9:=HC9.out.ext hx10
       rw [List.getElem_append_right (Nat.le_refl _)]
       simpa using h9
     ·have h1:=HO9.out _ e
      have h2:=(ha10 r hr).2
      omega
     ·rcases hh10 with ⟨h2,_⟩ | ⟨g,off,cap,h2,h3,h4,h5⟩
      ·exact h1 h2
      ·dsimp only at e
       rw [h2] at e
       obtain rfl:g=b:=by simpa [Value.ownBlock] using e
       have:=HO9.out _ e2
       omega
     ·rw [hll]
      refine (hm10 l).trans (Iff.trans ?_ (level_next HV.out (P:=fun l=>∃ x∈RL,x.l=l) (k:=lv) (fun l=>by rw [HLV.out];exact HI.out.cu.m l) l))
      constructor
      ·rintro ⟨a,ha,h3⟩;exact ⟨a.l,⟨a,ha,rfl⟩,h3⟩
      ·rintro ⟨_,⟨a,ha,rfl⟩,h3⟩;exact ⟨a,ha,h3⟩
     ·rw [List.flatMap_append,List.length_append,←HTL.out]
      simp only [List.flatMap_cons,List.flatMap_nil,List.append_nil]
      rw [←HLN.out];omega)
    have HLL:=Lib.hid (show tot T.en T.n+2 - (LV++[(Value.slice a5 ln c5,RL)]).length<tot T.en T.n+2 - lv from by
     rw [List.length_append,←HLV.out];have:=HKL.out;simp only [List.length_cons,List.length_nil];omega)
    have HTT:=Lib.hid (show tl+ln=((LV++[(Value.slice a5 ln c5,RL)]).flatMap Prod.snd).length from by
     rw [List.flatMap_append,List.length_append,←HTL.out]
     simp only [List.flatMap_cons,List.flatMap_nil,List.append_nil]
     rw [←HLN.out])
    clear hnx hh10 ha10 hl10 hs10 hm10
    go_wp2_with fail
    go_roundg (tot T.en T.n+2 - (LV++[(Value.slice a5 ln c5,RL)]).length)
    case rel=>exact ⟨_,R10,rfl,by rw [←HTT.out];go_num,HN10.out⟩
    case measure=>rw [←HLV.out];exact HLL.out
  ·obtain rfl:ln=0:=by omega
   have HF:=Lib.hid (show IsCuts T.toTr ((LV.flatMap Prod.snd).map Row.l) from by
    have h1:=lvs_bef (k0:=0) (fun k hk=>by rw [Nat.zero_add];exact HI.out.lv k hk)
    refine ⟨h1.1,fun l=>⟨fun hl=>(h1.2 l hl).1,fun hl=>?_⟩⟩
    have hn0:∀ l,¬(CutL T.toTr l∧tot (fn l) T.n=LV.length):=fun l h=>by
     obtain ⟨x,hx,_⟩:=(HI.out.cu.m l).2 h
     have h2:RL=[]:=List.eq_nil_of_length_eq_zero HLN.out.symm
     dsimp only at hx
     rw [h2] at hx;cases hx
    have h2:tot (fn l) T.n<LV.length:=Nat.lt_of_not_le fun hle=>level_none HV.out hn0 (tot (fn l) T.n - LV.length) l hl (by omega)
    obtain ⟨x,hx,rfl⟩:=((HI.out.lv _ h2).m l).2 ⟨hl,rfl⟩
    exact List.mem_map.2 ⟨x,List.mem_flatMap.2 ⟨_,List.getElem_mem h2,hx⟩,rfl⟩)
   go_wp2_with fail
   go_ret2
   exact ⟨hxr,.inl ⟨_,LV,rfl,HI.out.q.mono hxw4.le,HI.out.lv,HF.out,HI.out.t⟩⟩
end Go.Proofs.YtnknkkmdbnaglaaGreat
