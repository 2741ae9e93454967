/- Contracts and laws in plain Lean for RApp: group W51. -/
import Derived.Test.YtkhgpockmaghjaaGreatW50
import Derived.Test.YtkhgpockmaghjaaGreatW38
import Derived.Test.YtkhgpockmaghjaaGreatW42
import Derived.Laws.IdiomStrings
set_option maxRecDepth 100000
namespace Go.Proofs.YtkhgpockmaghjaaGreat
open Go.RowKit Go.Shelf
theorem WRow.blk {w w':World} {g o n:Nat} {c:Nat→Nat} (h:WRow w g o n c) (e:w'.heap[g]?=w.heap[g]?) (hl:w.heap.size≤w'.heap.size):WRow w' g o n c:=
 ⟨fun k hk=>(World.cell?_of_block (w:=w) (a:=⟨g,o+k,none⟩) e).trans (h.c k hk),fun k hk=>(World.frozen?_of_block (w:=w) (a:=⟨g,o+k,none⟩) e).trans (h.fr k hk),Nat.lt_of_lt_of_le h.lt hl⟩
structure EnI (w1:World) (B g o n:Nat) (c:Nat→Nat) (l:List Nat) (v:Value) (wr:World):Prop where
 x:Ext w1 wr
 row:WRow wr g o n c
 q:Que wr B 1 v l.length (intCells (natInts l))
 hB:B≤wr.heap.size
theorem EnI.ext {w1 wr w':World} {B g o n:Nat} {c:Nat→Nat} {l:List Nat} {v:Value} (h:EnI w1 B g o n c l v wr) (x:Ext wr w'):EnI w1 B g o n c l v w':=
 ⟨h.x.trans x,h.row.ext x,h.q.ext x,Nat.le_trans h.hB x.le⟩
theorem EnI.set {w1 wr:World} {B g o n:Nat} {c c':Nat→Nat} {l:List Nat} {v:Value} (h:EnI w1 B g o n c l v wr) (hg:w1.heap.size≤g) (hgB:g<B) (q x:Nat) (e:∀ k,k<n→c' k=if k=q then x else c k):EnI w1 B g o n c' l v (wr.setCell ⟨g,o+q,none⟩ (.int .i64 (x:Int))):=
 ⟨h.x.setCell hg _,(h.row.set q x).like e,h.q.same (by rw [World.size_setCell];exact Nat.le_refl _) (fun k hk _=>Below.heap_setCell _ _ _ _ (by show k≠g;omega)),by rw [World.size_setCell];exact h.hB⟩
theorem EnI.app {w1 wr w':World} {B g o n:Nat} {c:Nat→Nat} {l:List Nat} {v v':Value} {p:Nat} (h:EnI w1 B g o n c l v wr) (hw:w1.heap.size≤B) (hgB:g<B) (hq:Que w' B 1 v' (l.length+1) (intCells (natInts l)++[.int .i64 (p:Int)])) (hg:wr.grownBy w' v.ownBlock):EnI w1 B g o n c (l++[p]) v' w':=
 ⟨Below.grown h.x hg h.x.le fun k e=>Nat.le_trans hw (h.q.block k e),h.row.blk (hg.block g h.row.lt fun e=>by have:=h.q.block g e.symm;omega) hg.size,by rw [natInts_snoc,List.length_append];exact hq,Nat.le_trans h.hB hg.size⟩
set_option maxHeartbeats 4000000 in
theorem enabled_any (w : World) (T : TM) (hT : T.At w) (hV : T.toTr.Valid) (D : SyD) (hD : D.At w) (hL : SynOk T.toTr D.l) (a : Option Addr) (g o cap : Nat) (c : Nat → Nat) (hC : NumAt w T.n a g o (natV c)) (hc : ∀ p, p < T.n → c p ≤ T.en p) :
    Calls Tryz.prog 64 #[T.val,.slice D.s.a D.s.n D.s.c,.slice a T.n cap] w fun e w'=>∃ v,e=.returned v∧Que w' w.heap.size 1 v (T.toTr.pnL D.l c T.n).length (intCells (natInts (T.toTr.pnL D.l c T.n)))∧Ext w w':=by
 obtain ⟨j0,hj0,hy0,hy1,hy2⟩:=info_parts infoInt
 have hn8:=hV.n8
 have hn1:=hV.n1
 have HPM:=Lib.hid (fun W (h:Ext w W) g' o' cap' (c':Nat→Nat) (hr:NumAt W T.n (some ⟨g',o',none⟩) g' o' (natV c'))=>(show Calls Tryz.prog 63 #[T.val,.slice D.s.a D.s.n D.s.c,.slice (some ⟨g',o',none⟩) T.n cap'] W (BoolPost (PCut T.toTr D.l c') W) from
  (permitted_any W T (hT.ext h) D (hD.ext h) hL (some ⟨g',o',none⟩) g' o' cap' (natV c') hr).mono fun e w' ⟨b,he,hb,hx⟩=>⟨b,he,hb.trans ⟨fun h=>⟨(isCut_iff hV).1 h.1,h.2⟩,fun h=>⟨(isCut_iff hV).2 h.cut,h.per⟩⟩,hx⟩))
 obtain rfl:=hC.pa (by omega)
 have HCL:=Lib.hid (fun W (h:Ext w W)=>clonen_any W g o T.n cap (natV c) (hC.ext h) (by omega) hn1)
 have HV:=Lib.hid hV
 have HT:=Lib.hid hT
 have HC:=Lib.hid hC
 have HLE:=Lib.hid hc
 obtain ⟨ta,hta⟩:∃ z,z=T.a:=⟨_,rfl⟩
 obtain rfl:ta=some ⟨T.b,T.off,none⟩:=by rw [hta];exact hT.P.pa (by omega)
 obtain ⟨da,hda⟩:∃ z,z=D.s.a:=⟨_,rfl⟩
 obtain ⟨dn,hdn⟩:∃ z,z=D.s.n:=⟨_,rfl⟩
 simp only [TM.val,←hta] at HPM ⊢
 rw [←hda,←hdn] at HPM
 rw [←hda,←hdn]
 clear hT hV hD hC hL hta hc hda hdn
 go_enter Tryz.func64,Tryz.ntmps64
 go_upto_region 1 with fail
 refine boxed1 (w:=w) (G:=fun x=>Code.wp _ _ _ _ x) ?_
 intro w1 hx1 hs1 ⟨l0,c0,_,_⟩
 have hx11:Ext w1 w1:=Ext.refl _
 clear hs1
 go_wp2_with fail
 go_at_call 65
 refine (HCL.out w1 hx1).mono ?_
 rintro e w2 ⟨g5,o5,c5,rfl,q1,q2,q3,hx2⟩
 have HGB:=Lib.hid (And.intro q1 q2)
 have HI0:=Lib.hid (show EnI w1 w2.heap.size g5 o5 T.n c [] (.slice none 0 0) w2 from ⟨hx2,⟨fun k hk=>(q3 k hk).1,fun k hk=>(q3 k hk).2,q2⟩,Que.nil _ _ _,Nat.le_refl _⟩)
 have hw12:=hx2.le
 clear q1 q2 q3 hx2
 go_wp2_with fail
 go_loopg [7,14] T.n (fun gg v7 v14 wr=>∃ k:Nat,k≤T.n∧gg=T.n - k∧v14=.int .i64 k∧EnI w1 w2.heap.size g5 o5 T.n c (T.toTr.pnL D.l c k) v7 wr)
 case atStart=>exact ⟨0,by omega,rfl,rfl,HI0.out⟩
 case round=>
  obtain ⟨k,hk,rfl,rfl,hI⟩:=hrel
  have hx1r:=hI.x
  have hxw:=hx1.trans hx1r
  obtain ⟨a7,c7,hv7⟩:=hI.q.slice
  subst hv7
  have HLL:=Lib.hid (T.toTr.pnL_len D.l c k)
  obtain ⟨ln,hln⟩:∃ z,z=(T.toTr.pnL D.l c k).length:=⟨_,rfl⟩
  have hlm:ln≤8:=by rw [hln];have:=T.toTr.pnL_len D.l c k;omega
  have HLN:=Lib.hid hln
  rw [←hln] at hI ⊢
  have HI:=Lib.hid hI
  clear hI hln HI0
  by_cases hlt:k<T.n
  ·have hlt':(k:Int)<(T.n:Int):=by omega
   have hen:=HV.out.en64 hlt
   have hle:=HLE.out k hlt
   have pb:=HT.out.P.pb (by omega)
   have p2:∀ w',Ext w w'→w'.cell? ⟨T.b,T.off+k*3+2,none⟩=some (.slice (T.ea k) (T.en k) (T.ec k)):=fun w' h=>HT.out.P.p2 w' h k hlt
   obtain ⟨ck,hck⟩:∃ ck,ck=c k:=⟨_,rfl⟩
   have hck64:ck≤64:=by omega
   have HCK:=Lib.hid hck
   have hw1:IntKind.i64.wrap ((ck:Int)+1)=(ck:Int)+1:=IntWalk.i64_in _ (by omega)
   have hw2:IntKind.i64.wrap ((ck:Int)+1 - 1)=(ck:Int):=by rw [show (ck:Int)+1 - 1=(ck:Int) by omega];exact IntWalk.i64_in _ (by omega)
   have cA:∀ w',Ext wr w'→w'.cell? ⟨g5,o5+k,none⟩=some (.int .i64 (ck:Int)):=fun w' h=>by rw [HCK.out];exact h.cell (HI.out.row.c k hlt)
   have lA:∀ w',Ext wr w'→g5<w'.heap.size:=fun w' h=>Nat.lt_of_lt_of_le HI.out.row.lt h.le
   have fA:∀ w',Ext wr w'→w'.frozen? ⟨g5,o5+k,none⟩=false:=fun w' h=>(h.frozen (p:=⟨g5,o5+k,none⟩) HI.out.row.lt).trans (HI.out.row.fr k hlt)
   have hrr:Ext wr wr:=Ext.refl _
   clear hck
   go_upto_region 7 with fail
   refine setm1 (G:=fun x=>Code.wp _ _ _ _ x) ?_
   intro w6 hw6
   have HI6:=Lib.hid (show EnI w1 w2.heap.size g5 o5 T.n (upC c k) (T.toTr.pnL D.l c k) (.slice a7 ln c7) w6 from by
    rw [hw6,show ((ck:Int)+1)=((ck+1:Nat):Int) by omega]
    exact HI.out.set HGB.out.1 HGB.out.2 k (ck+1) fun j hj=>by
     by_cases e:j=k
     ·subst e;rw [if_pos rfl,upC_same,HCK.out]
     ·rw [if_neg e,upC_other e])
   have hx16:=HI6.out.x
   have hxw6:=hx1.trans hx16
   have h66:Ext w6 w6:=Ext.refl _
   have cC:∀ w',Ext w6 w'→w'.cell? ⟨g5,o5+k,none⟩=some (.int .i64 ((ck:Int)+1)):=fun w' h=>by
    have h1:=HI6.out.row.c k hlt
    rw [upC_same,←HCK.out] at h1
    rw [h.cell h1];congr 2
   have lC:∀ w',Ext w6 w'→g5<w'.heap.size:=fun w' h=>Nat.lt_of_lt_of_le HI6.out.row.lt h.le
   clear hw6 cA lA fA hrr
   have hgw:∀ d os,Ext w (Sort.grow (redrawn w6 d) os):=fun d os=>hxw6.trans (below_regrown w6 d os)
   have hg1:∀ d os,Ext w1 (Sort.grow (redrawn w6 d) os):=fun d os=>hx16.trans (below_regrown w6 d os)
   have hgr:∀ d os,Ext w6 (Sort.grow (redrawn w6 d) os):=fun d os=>below_regrown w6 d os
   by_cases hl:ck+1≤T.en k
   ·have d1:decide ((ck:Int)+1≤(T.en k:Int))=true:=decide_eq_true (by omega)
    obtain ⟨bo,hbo⟩:=exists_bool (PCut T.toTr D.l (upC c k))
    have HBO:=Lib.hid hbo
    have HEK:=Lib.hid (fun W (h:Ext w6 W)=>(show Calls Tryz.prog 63 #[.agg #[.slice (some ⟨T.b,T.off,none⟩) T.n T.cap],.slice da dn D.s.c,.slice (some ⟨g5,o5,none⟩) T.n c5] W (fun e w'=>e=.returned (.bool bo)∧Ext W w') from (HPM.out W (hxw6.trans h) g5 o5 c5 (upC c k) ((HI6.out.row.num (by omega)).ext h)).mono fun e w' ⟨b,he,hb,hx⟩=>⟨by
     have:b=bo:=by
      have h1:=HBO.out
      cases b <;> cases bo <;> simp_all
     rw [he,this],hx⟩))
    clear hbo
    refine wp_region_quiet_below (by kernel_rfl) (by kernel_rfl) ?_
    repeat (go_big_quiet_step (exact Calls.regrown_of (HEK.out _ (hgr _ _))))
    refine wpQuiet_nil ?_
    intro _ hw'
    obtain ⟨⟨dq,osq⟩,hw''⟩:=hw'
    subst hw''
    have hx67:=hgr dq osq
    have hxw7:=hgw dq osq
    have hx17:=hg1 dq osq
    clear hgw hg1 hgr
    generalize Sort.grow (redrawn w6 dq) osq=w7 at hx67 hxw7 hx17 ⊢
    have HI7:=Lib.hid (HI6.out.ext hx67)
    clear cC lC
    cases bo with
    | true =>
     have HST:=Lib.hid (Tr.pnL_yes (T:=T.toTr) (L:=D.l) (c:=c) (k:=k) ⟨by rw [←HCK.out];omega,HBO.out.1 rfl⟩)
     have h77:Ext w7 w7:=Ext.refl _
     go_upto_region 9 with (at_builtin;refine wpList_append_que _ rfl _ _ 39 39 rfl (base:=w2.heap.size) (e:=3) (size:=1) j0 (.int .i64 0) 8 Tryz.underlying39 hj0 hy0 hy1 hy2 rfl rfl (v:=.slice a7 ln c7) (n:=ln) (xs:=intCells (natInts (T.toTr.pnL D.l c k))) (by have h1:=(HI7.out.ext (Ext.alloc w7 (.cells #[.int .i64 (k:Int)] 3))).q;rw [←HLN.out] at h1;exact h1) (by rw [World.size_alloc];have:=HI7.out.hB;omega) (.slice (some ⟨w7.heap.size,0,none⟩) 1 1) 1 [.int .i64 (k:Int)] rfl (by exact Src.ofSlice _ Tryz.underlying39 ⟨w7.heap.size,0,none⟩ 1 1 _ rfl (news_ok w7 _ _) (one_int _)) (by unfold maxLen;omega) (by omega) ?_;rintro v9 w9 hq9 hg9 -;have H9:=Lib.hid ((HI7.out.ext (Ext.alloc w7 (.cells #[.int .i64 (k:Int)] 3))).app (p:=k) hw12 HGB.out.2 (by rw [←HLN.out];exact hq9) hg9);clear hq9 hg9)
     have HP9:=Lib.hid (show ∀ (c':Nat→Nat),EnI w1 w2.heap.size g5 o5 T.n c' (T.toTr.pnL D.l c k++[k]) v9 w9→EnI w1 w2.heap.size g5 o5 T.n c' (T.toTr.pnL D.l c (k+1)) v9 w9 from fun _ h=>by rw [HST.out];exact h)
     have HA9:=Lib.hid H9.out
     have hx19:=HA9.out.x
     have cB:∀ w',Ext w9 w'→w'.cell? ⟨g5,o5+k,none⟩=some (.int .i64 ((ck:Int)+1)):=fun w' h=>by
      have h1:=HA9.out.row.c k hlt
      rw [upC_same,←HCK.out] at h1
      rw [h.cell h1];congr 2
     have lB:∀ w',Ext w9 w'→g5<w'.heap.size:=fun w' h=>Nat.lt_of_lt_of_le HA9.out.row.lt h.le
     have fB:∀ w',Ext w9 w'→w'.frozen? ⟨g5,o5+k,none⟩=false:=fun w' h=>(h.frozen (p:=⟨g5,o5+k,none⟩) HA9.out.row.lt).trans (HA9.out.row.fr k hlt)
     have h99:Ext w9 w9:=Ext.refl _
     go_upto_region 10 with fail
     refine setm1 (G:=fun x=>Code.wp _ _ _ _ x) ?_
     intro w10 hw10
     have HN:=Lib.hid (show EnI w1 w2.heap.size g5 o5 T.n c (T.toTr.pnL D.l c (k+1)) v9 w10 from by
      rw [hw10]
      exact (HP9.out _ HA9.out).set HGB.out.1 HGB.out.2 k ck fun j hj=>by
       by_cases e:j=k
       ·subst e;rw [if_pos rfl,HCK.out]
       ·rw [if_neg e,upC_other e])
     clear hw10 cB lB fB h99
     go_wp2_with fail
     go_roundg (T.n - (k+1))
     case rel=>exact ⟨k+1,by omega,rfl,by go_num,HN.out⟩
     case measure=>omega
    | false =>
     have HST:=Lib.hid (Tr.pnL_no (T:=T.toTr) (L:=D.l) (c:=c) (k:=k) fun h=>absurd (HBO.out.2 h.2) (by decide))
     have HP9:=Lib.hid (show ∀ (c':Nat→Nat),EnI w1 w2.heap.size g5 o5 T.n c' (T.toTr.pnL D.l c k) (.slice a7 ln c7) w7→EnI w1 w2.heap.size g5 o5 T.n c' (T.toTr.pnL D.l c (k+1)) (.slice a7 ln c7) w7 from fun _ h=>by rw [HST.out];exact h)
     have HA9:=Lib.hid HI7.out
     have hx19:=HA9.out.x
     have cB:∀ w',Ext w7 w'→w'.cell? ⟨g5,o5+k,none⟩=some (.int .i64 ((ck:Int)+1)):=fun w' h=>by
      have h1:=HA9.out.row.c k hlt
      rw [upC_same,←HCK.out] at h1
      rw [h.cell h1];congr 2
     have lB:∀ w',Ext w7 w'→g5<w'.heap.size:=fun w' h=>Nat.lt_of_lt_of_le HA9.out.row.lt h.le
     have fB:∀ w',Ext w7 w'→w'.frozen? ⟨g5,o5+k,none⟩=false:=fun w' h=>(h.frozen (p:=⟨g5,o5+k,none⟩) HA9.out.row.lt).trans (HA9.out.row.fr k hlt)
     have h99:Ext w7 w7:=Ext.refl _
     go_upto_region 10 with fail
     refine setm1 (G:=fun x=>Code.wp _ _ _ _ x) ?_
     intro w10 hw10
     have HN:=Lib.hid (show EnI w1 w2.heap.size g5 o5 T.n c (T.toTr.pnL D.l c (k+1)) (.slice a7 ln c7) w10 from by
      rw [hw10]
      exact (HP9.out _ HA9.out).set HGB.out.1 HGB.out.2 k ck fun j hj=>by
       by_cases e:j=k
       ·subst e;rw [if_pos rfl,HCK.out]
       ·rw [if_neg e,upC_other e])
     clear hw10 cB lB fB h99
     go_wp2_with fail
     go_roundg (T.n - (k+1))
     case rel=>exact ⟨k+1,by omega,rfl,by go_num,HN.out⟩
     case measure=>omega
   ·have d1:decide ((ck:Int)+1≤(T.en k:Int))=false:=decide_eq_false (by omega)
    have HST:=Lib.hid (Tr.pnL_no (T:=T.toTr) (L:=D.l) (c:=c) (k:=k) fun h=>hl (by rw [HCK.out];exact h.1))
    refine wp_region_quiet_below (by kernel_rfl) (by kernel_rfl) ?_
    repeat (go_big_quiet_step (fail))
    refine wpQuiet_nil ?_
    intro _ hw'
    obtain ⟨⟨dq,osq⟩,hw''⟩:=hw'
    subst hw''
    have hx67:=hgr dq osq
    have hxw7:=hgw dq osq
    have hx17:=hg1 dq osq
    clear hgw hg1 hgr
    generalize Sort.grow (redrawn w6 dq) osq=w7 at hx67 hxw7 hx17 ⊢
    have HI7:=Lib.hid (HI6.out.ext hx67)
    clear cC lC
    have HP9:=Lib.hid (show ∀ (c':Nat→Nat),EnI w1 w2.heap.size g5 o5 T.n c' (T.toTr.pnL D.l c k) (.slice a7 ln c7) w7→EnI w1 w2.heap.size g5 o5 T.n c' (T.toTr.pnL D.l c (k+1)) (.slice a7 ln c7) w7 from fun _ h=>by rw [HST.out];exact h)
    have HA9:=Lib.hid HI7.out
    have hx19:=HA9.out.x
    have cB:∀ w',Ext w7 w'→w'.cell? ⟨g5,o5+k,none⟩=some (.int .i64 ((ck:Int)+1)):=fun w' h=>by
     have h1:=HA9.out.row.c k hlt
     rw [upC_same,←HCK.out] at h1
     rw [h.cell h1];congr 2
    have lB:∀ w',Ext w7 w'→g5<w'.heap.size:=fun w' h=>Nat.lt_of_lt_of_le HA9.out.row.lt h.le
    have fB:∀ w',Ext w7 w'→w'.frozen? ⟨g5,o5+k,none⟩=false:=fun w' h=>(h.frozen (p:=⟨g5,o5+k,none⟩) HA9.out.row.lt).trans (HA9.out.row.fr k hlt)
    have h99:Ext w7 w7:=Ext.refl _
    go_upto_region 10 with fail
    refine setm1 (G:=fun x=>Code.wp _ _ _ _ x) ?_
    intro w10 hw10
    have HN:=Lib.hid (show EnI w1 w2.heap.size g5 o5 T.n c (T.toTr.pnL D.l c (k+1)) (.slice a7 ln c7) w10 from by
     rw [hw10]
     exact (HP9.out _ HA9.out).set HGB.out.1 HGB.out.2 k ck fun j hj=>by
      by_cases e:j=k
      ·subst e;rw [if_pos rfl,HCK.out]
      ·rw [if_neg e,upC_other e])
    clear hw10 cB lB fB h99
    go_wp2_with fail
    go_roundg (T.n - (k+1))
    case rel=>exact ⟨k+1,by omega,rfl,by go_num,HN.out⟩
    case measure=>omega
  ·obtain rfl:k=T.n:=by omega
   have HQ:=Lib.hid (HI.out.q.mono (Nat.le_trans hx1.le hw12))
   go_wp2_with fail
   go_ret
   exact ⟨_,rfl,by rw [←HLN.out];rw [←HLN.out] at HQ;exact HQ.out,hxw⟩
attribute [local go_sem] Oper.semAt_some
def PNextPost (T:Tr) (L:List Syn) (n:Nat) (v:Nat→Int) (w:World) (e:Ending) (w':World):Prop:=Ext w w'∧∃ r:Int,PFault T L (n=T.n) (¬T.InR T.n v) r∧
 ((r≠0∧e=.returned (.tuple #[.slice none 0 0,.int .i64 r]))∨(r=0∧¬(T.IsCut T.n v∧PerP L v)∧e=.returned (.tuple #[.slice none 0 0,.int .i64 18]))∨
  (r=0∧(T.IsCut T.n v∧PerP L v)∧∃ (a:Option Addr) (c:Nat),e=.returned (.tuple #[.slice a (T.pnL L (fun p=>(v p).toNat) T.n).length c,.int .i64 0])∧Que w' w.heap.size 1 (.slice a (T.pnL L (fun p=>(v p).toNat) T.n).length c) (T.pnL L (fun p=>(v p).toNat) T.n).length (intCells (natInts (T.pnL L (fun p=>(v p).toNat) T.n)))))
set_option maxHeartbeats 1000000 in
theorem pnext_any (w : World) (T : TM) (hT : T.At w) (D : SyD) (hD : D.At w) (a : Option Addr) (g o n cap : Nat) (v : Nat → Int) (hC : NumAt w n a g o v) :
    Calls Tryz.prog 19 #[T.val,.slice D.s.a D.s.n D.s.c,.slice a n cap] w (PNextPost T.toTr D.l n v w):=by
 have HCK:=Lib.hid (fun W (h:Ext w W)=>check_any W T (hT.ext h) D (hD.ext h) a g o n cap v (hC.ext h))
 have HPM:=Lib.hid (fun W (h:Ext w W) (hn:n=T.n) (hL:SynOk T.toTr D.l)=>(show Calls Tryz.prog 63 #[T.val,.slice D.s.a D.s.n D.s.c,.slice a n cap] W (BoolPost (T.toTr.IsCut T.n v∧PerP D.l v) W) from by
  subst hn;exact permitted_any W T (hT.ext h) D (hD.ext h) hL a g o cap v (hC.ext h)))
 have HEN:=Lib.hid (fun W (h:Ext w W) (hn:n=T.n) (hV:T.toTr.Valid) (hL:SynOk T.toTr D.l) (hR:T.toTr.InR T.n v)=>(show Calls Tryz.prog 64 #[T.val,.slice D.s.a D.s.n D.s.c,.slice a n cap] W (fun e w'=>∃ v',e=.returned v'∧Que w' W.heap.size 1 v' (T.toTr.pnL D.l (fun p=>(v p).toNat) T.n).length (intCells (natInts (T.toTr.pnL D.l (fun p=>(v p).toNat) T.n)))∧Ext W w') from by
  subst hn
  exact enabled_any W T (hT.ext h) hV D (hD.ext h) hL a g o cap (fun p=>(v p).toNat) ⟨hC.hn,hC.pa,fun h0=>((hC.ext h).pb h0),fun k hk=>by
   have h1:=(hC.ext h).c k hk
   have h2:=(hR k hk).1
   rw [h1];congr 2;show v k=(((v k).toNat:Nat):Int);omega⟩ fun p hp=>by have:=hR p hp;show (v p).toNat≤_;omega))
 obtain ⟨ta,hta⟩:∃ z,z=T.a:=⟨_,rfl⟩
 obtain ⟨da,hda⟩:∃ z,z=D.s.a:=⟨_,rfl⟩
 obtain ⟨dn,hdn⟩:∃ z,z=D.s.n:=⟨_,rfl⟩
 simp only [TM.val,←hta] at HCK HPM HEN ⊢
 rw [←hda,←hdn] at HCK HPM HEN
 rw [←hda,←hdn]
 obtain ⟨P,hP⟩:∃ P:Prop,P=(n=T.n):=⟨_,rfl⟩
 unfold PNextPost
 rw [←hP] at HCK HPM HEN ⊢
 clear hT hD hC hta hda hdn hP
 go_enter Tryz.func19,Tryz.ntmps19
 go_upto_region 1 with fail
 refine boxed1 (w:=w) (G:=fun x=>Code.wp _ _ _ _ x) ?_
 intro w1 hx1 hs1 ⟨l0,c0,_,_⟩
 have hx11:Ext w1 w1:=Ext.refl _
 clear hs1
 go_wp2_with fail
 go_at_call 48
 refine (HCK.out w1 hx1).mono ?_
 rintro e w2 ⟨hx2,r,rfl,hf⟩
 have hxw2:=hx1.trans hx2
 have HF:=Lib.hid hf
 by_cases h0:r=0
 ·subst h0
  obtain ⟨⟨hV,hn⟩,_,hL,hR,_⟩:=hf.ok
  have hpm:=HPM.out w2 hxw2 hn hL
  have HH:=Lib.hid (And.intro hn (And.intro hV (And.intro hL (Classical.not_not.1 hR))))
  clear hf hn hL hV hR
  go_wp2_with fail
  go_at_call 63
  refine hpm.mono ?_
  rintro e w3 ⟨b,rfl,hb,hx3⟩
  have hxw3:=hxw2.trans hx3
  have hx13:=hx2.trans hx3
  cases b with
  | false =>
   have HN:=Lib.hid (show ¬(T.toTr.IsCut T.n v∧PerP D.l v) from fun h=>absurd (hb.2 h) (by decide))
   clear hb hpm
   go_wp2_with fail
   go_ret2
   exact ⟨hxw3,0,HF.out,.inr (.inl ⟨rfl,HN.out,rfl⟩)⟩
  | true =>
   have HY:=Lib.hid (hb.1 rfl)
   have hen:=HEN.out w3 hxw3 HH.out.1 HH.out.2.1 HH.out.2.2.1 HH.out.2.2.2
   clear hb hpm
   go_wp2_with fail
   go_at_call 64
   refine hen.mono ?_
   rintro e w4 ⟨v',rfl,hq,hx4⟩
   obtain ⟨qa,qc,rfl⟩:=hq.slice
   have HQ:=Lib.hid (hq.mono hxw3.le)
   clear hq hen
   go_wp2_with fail
   go_ret2
   exact ⟨hxw3.trans hx4,0,HF.out,.inr (.inr ⟨rfl,HY.out,qa,qc,rfl,HQ.out⟩)⟩
 ·have d0:(r == 0)=false:=by simpa using h0
  have H0:=Lib.hid h0
  clear hf h0
  go_wp2_with fail
  go_ret2
  exact ⟨hxw2,r,HF.out,.inl ⟨H0.out,rfl⟩⟩
def keyB (c:Nat→Nat) (n:Nat):ByteArray:=⟨((List.range n).map fun p=>UInt8.ofNat (c p)).toArray⟩
theorem keyB_eq {c d:Nat→Nat} {n:Nat} (hc:∀ p,p<n→c p<256) (hd:∀ p,p<n→d p<256):keyB c n=keyB d n↔∀ p,p<n→c p=d p:=by
 constructor
 ·intro h p hp
  have h1:(List.range n).map (fun p=>UInt8.ofNat (c p))=(List.range n).map fun p=>UInt8.ofNat (d p):=by
   have h2:=congrArg (fun b:ByteArray=>b.data.toList) h
   simpa [keyB] using h2
  have h3:=(List.map_inj_left.1 h1) p (List.mem_range.2 hp)
  have h4:=congrArg UInt8.toNat h3
  simp only [UInt8.toNat_ofNat'] at h4
  have:=hc p hp
  have:=hd p hp
  omega
 ·intro h
  unfold keyB
  congr 2
  exact List.map_congr_left fun p hp=>by rw [h p (List.mem_range.1 hp)]
structure BytRow (w:World) (g n:Nat) (f:Nat→Int):Prop where
 c:∀ k,k<n→w.cell? ⟨g,k,none⟩=some (.int .u8 (f k))
 fr:∀ o,w.frozen? ⟨g,o,none⟩=false
 lt:g<w.heap.size
theorem BytRow.block {w w':World} {g n:Nat} {f:Nat→Int} (h:BytRow w g n f) (e:w'.heap[g]?=w.heap[g]?) (hl:w.heap.size≤w'.heap.size):BytRow w' g n f:=
 ⟨fun k hk=>(World.cell?_of_block (w:=w) (a:=⟨g,k,none⟩) e).trans (h.c k hk),fun o=>(World.frozen?_of_block (w:=w) (a:=⟨g,o,none⟩) e).trans (h.fr o),Nat.lt_of_lt_of_le h.lt hl⟩
theorem BytRow.ext {w w':World} {g n:Nat} {f:Nat→Int} (h:BytRow w g n f) (x:Ext w w'):BytRow w' g n f:=h.block (x.block g h.lt) x.le
theorem BytRow.made {w:World} {base g n:Nat} (h:w.ownsRow base 5 1 (.slice (some ⟨g,0,none⟩) n n) n (madeCells (Value.int .u8 0).cells (n*1)).toList):BytRow w g n (fun _=>0):=by
 obtain ⟨h1,⟨hv,_⟩ | ⟨g',cap,cur,hv,hg,hh,hc,hm,hs,ht⟩⟩:=h
 ·cases hv
 ·simp only [Value.slice.injEq,Option.some.injEq,Addr.mk.injEq] at hv
  obtain ⟨⟨rfl,_⟩,_,rfl⟩:=hv
  have hb:=Box.of hh
  have hz:(Value.int .u8 0).cells=#[.int .u8 0]:=rfl
  rw [hz,toList_madeCells_one] at ht
  refine ⟨fun k hk=>?_,fun o=>hb.frozen w (Ext.refl _) o,hb.lt w (Ext.refl _)⟩
  rw [hb.cell w (Ext.refl _)]
  have:cur[k]?=(List.replicate (n*1) (Value.int .u8 0))[k]?:=by rw [←ht,List.getElem?_take_of_lt (by omega)];simp
  rw [this,List.getElem?_replicate,if_pos (by omega)]
theorem BytRow.set {w:World} {g n:Nat} {f:Nat→Int} (h:BytRow w g n f) (q:Nat) (v:Int):BytRow (w.setCell ⟨g,q,none⟩ (.int .u8 v)) g n (fun j=>if j=q then v else f j):=by
 refine ⟨fun k hk=>?_,fun o=>?_,by rw [World.size_setCell];exact h.lt⟩
 ·by_cases e:k=q
  ·subst e
   rw [if_pos rfl];exact World.cell?_setCell_same _ _ _ (h.c k hk)
  ·rw [if_neg e];refine Eq.trans ?_ (h.c k hk);apply World.cell?_setCell_other;intro h9;simp only [Addr.mk.injEq] at h9;exact e h9.2.1.symm
 ·rw [frozen_set];exact h.fr o
theorem BytRow.like {w:World} {g n:Nat} {f f':Nat→Int} (h:BytRow w g n f) (e:∀ k,k<n→f' k=f k):BytRow w g n f':=⟨fun k hk=>by rw [e k hk];exact h.c k hk,h.fr,h.lt⟩
theorem infoByt:(Tryz.prog.info? 5).map (fun i=>(i.zero,i.size,i.bytes))=some (some (.int .u8 0),1,1):=by kernel_rfl
set_option maxHeartbeats 1000000 in
theorem key_any (w : World) (g o n cap : Nat) (c : Nat → Nat) (hC : NumAt w n (some ⟨g, o, none⟩) g o (natV c)) (hn : n ≤ 1000) (hn1 : 0 < n) (h256 : ∀ p, p < n → c p < 256) :
    Calls Tryz.prog 66 #[.slice (some ⟨g,o,none⟩) n cap] w fun e w'=>e=.returned (.string (keyB c n))∧Ext w w':=by
 obtain ⟨j0,hj0,hy0,hy1,hy2⟩:=info_parts infoByt
 have HC:=Lib.hid hC
 have H256:=Lib.hid h256
 have gb:∀ w',Ext w w'→g<w'.heap.size:=fun w' x=>Nat.lt_of_lt_of_le (hC.pb hn1) x.le
 clear hC h256
 go_enter Tryz.func66,Tryz.ntmps66
 go_upto_region 2 with (at_make;refine wpList_make_full _ rfl _ _ 137 rfl w.heap.size 5 j0 (.int .u8 0) 1 Tryz.underlying137 hj0 hy0 hy1 .i64 .i64 _ _ n rfl rfl rfl rfl (by rw [hy2];omega) (by unfold maxLen;omega) (Nat.le_refl _) ?_;intro w2 hown2 hg2)
 have hx2:Ext w w2:=(Below.refl _ _).grown hg2 (Nat.le_refl _) (by simp)
 have HI2:=Lib.hid (BytRow.made hown2)
 obtain ⟨b,hb⟩:∃ z,z=w.heap.size:=⟨_,rfl⟩
 have HBB:=Lib.hid hb
 rw [←hb] at HI2 ⊢
 clear hown2 hg2 hb
 go_wp2_with fail
 go_loopg [11] n (fun gg v11 wr=>∃ k:Nat,k≤n∧gg=n - k∧v11=.int .i64 k∧Ext w wr∧BytRow wr b n (fun j=>if j<k then (c j:Int) else 0))
 case atStart=>exact ⟨0,by omega,rfl,rfl,hx2,HI2.out.like fun k hk=>if_neg (Nat.not_lt_zero k)⟩
 case round=>
  obtain ⟨k,hk,rfl,rfl,hxr,hB⟩:=hrel
  have HB:=Lib.hid hB
  clear hB hx2
  by_cases hlt:k<n
  ·have hlt':(k:Int)<(n:Int):=by omega
   obtain ⟨ck,hck⟩:∃ ck,ck=c k:=⟨_,rfl⟩
   have hck2:ck<256:=by rw [hck];exact H256.out k hlt
   have HCK:=Lib.hid hck
   have gc:∀ w',Ext w w'→w'.cell? ⟨g,o+k,none⟩=some (.int .i64 (ck:Int)):=fun w' x=>by rw [HCK.out];exact x.cell (HC.out.c k hlt)
   have cA:∀ w',Ext wr w'→w'.cell? ⟨b,k,none⟩=some (.int .u8 0):=fun w' h=>by
    have h1:=HB.out.c k hlt
    rw [if_neg (Nat.lt_irrefl k)] at h1
    exact h.cell h1
   have lA:∀ w',Ext wr w'→b<w'.heap.size:=fun w' h=>Nat.lt_of_lt_of_le HB.out.lt h.le
   have fA:∀ w',Ext wr w'→w'.frozen? ⟨b,k,none⟩=false:=fun w' h=>(h.frozen (p:=⟨b,k,none⟩) HB.out.lt).trans (HB.out.fr k)
   have hwk:IntKind.u8.wrap (ck:Int)=(ck:Int):=by simp only [IntKind.wrap,IntKind.bits,IntKind.signed];simp;omega
   have hrr:Ext wr wr:=Ext.refl _
   clear hck
   go_upto_region 6 with fail
   refine setm1 (G:=fun x=>Code.wp _ _ _ _ x) ?_
   intro w6 hw6
   have HB6:=Lib.hid (show BytRow w6 b n (fun j=>if j<k+1 then (c j:Int) else 0) from by
    rw [hw6]
    exact (HB.out.set k ck).like fun j hj=>by
     by_cases e:j=k
     ·subst e;rw [if_pos rfl,if_pos (Nat.lt_succ_self j),HCK.out]
     ·rw [if_neg e]
      by_cases e2:j<k
      ·rw [if_pos e2,if_pos (by omega)]
      ·rw [if_neg e2,if_neg (by omega)])
   have hx6:Ext w w6:=by rw [hw6];exact hxr.setCell (by show w.heap.size≤b;rw [HBB.out];exact Nat.le_refl _) _
   clear hw6 cA lA fA
   go_wp2_with fail
   go_roundg (n - (k+1))
   case rel=>exact ⟨k+1,by omega,rfl,by go_num,hx6,HB6.out⟩
   case measure=>omega
  ·obtain rfl:k=n:=by omega
   have hcv:=run_convert_bytes_back (P:=Tryz.prog) wr 137 9 5 ⟨b,0,none⟩ k ((List.range k).map fun p=>UInt8.ofNat (c p)) Tryz.underlying137 Tryz.underlying5 Tryz.underlying9 (fun j hj=>by
    have hj':j<k:=by simpa using hj
    rw [Addr.add_lit,Nat.zero_add,HB.out.c j hj',if_pos hj']
    simp only [List.getElem_map,List.getElem_range,UInt8.toNat_ofNat']
    have:=H256.out j hj'
    congr 2
    omega)
   rw [List.length_map,List.length_range] at hcv
   have hcv2:(convert 137 9 (.slice (some ⟨b,0,none⟩) k k)).run Tryz.prog wr=.ok (.string (keyB c k)) wr:=hcv
   clear hcv
   go_wp2_with fail
   go_ret
   exact ⟨rfl,hxr⟩
def StrAt (w:World) (b:Nat) (S:List ByteArray):Prop:=
 ∃ es clock,w.heap[b]?=some (.map es clock)∧es.toList.map (fun e=>(e.key,e.val))=S.map (fun x=>(.string x,.bool true))
theorem StrAt.ext {w w':World} {b:Nat} {S:List ByteArray} (h:StrAt w b S) (x:Ext w w'):StrAt w' b S:=by
 obtain ⟨es,c,hb,he⟩:=h
 exact ⟨es,c,(x.block b (Array.getElem?_eq_some_iff.1 hb).1).trans hb,he⟩
theorem StrAt.same {w w':World} {b:Nat} {S:List ByteArray} (h:StrAt w b S) (x:w'.heap[b]?=w.heap[b]?):StrAt w' b S:=by
 obtain ⟨es,c,hb,he⟩:=h;exact ⟨es,c,x.trans hb,he⟩
theorem StrAt.lt {w:World} {b:Nat} {S:List ByteArray} (h:StrAt w b S):b<w.heap.size:=by
 obtain ⟨es,c,hb,he⟩:=h;exact (Array.getElem?_eq_some_iff.1 hb).1
theorem StrAt.new (w:World):StrAt (w.alloc (.map #[] 0)) w.heap.size []:=⟨#[],0,by show (w.heap.push _)[w.heap.size]?=_;simp,rfl⟩
def placeS (y:ByteArray):List ByteArray→Nat→Option (Nat × Value)
 | [],_ => none
 | x :: S,i => if y=x then some (i,.bool true) else placeS y S (i+1)
theorem placeS_none {y:ByteArray}:∀ (S:List ByteArray) (i:Nat),y∉S→placeS y S i=none
 | [],_,_ => rfl
 | x :: S,i,h => by
  simp only [List.mem_cons,not_or] at h
  rw [placeS,if_neg h.1];exact placeS_none S (i+1) h.2
theorem placeS_some {y:ByteArray}:∀ (S:List ByteArray) (i:Nat),y∈S→∃ j,placeS y S i=some (j,.bool true)
 | [],_,h => by cases h
 | x :: S,i,h => by
  by_cases e:y=x
  ·exact ⟨i,by rw [placeS,if_pos e]⟩
  ·rcases List.mem_cons.1 h with h | h
   ·exact absurd h e
   ·obtain ⟨j,hj⟩:=placeS_some S (i+1) h
    exact ⟨j,by rw [placeS,if_neg e];exact hj⟩
theorem beqS (a b:ByteArray):(a == b)=decide (a=b):=by
 rw [beq_toListBytes]
 by_cases e:a=b
 ·subst e;simp
 ·rw [decide_eq_false e,beq_eq_false_iff_ne]
  intro h
  have h2:a.data.toList=b.data.toList:=by rw [←ByteArray.toList_eq,←ByteArray.toList_eq];exact h
  exact e (by cases a;cases b;congr 1;exact Array.toList_inj.1 h2)
def inS (y:ByteArray) (S:List ByteArray):Bool:=S.any fun x=>decide (y=x)
theorem inS_iff {y:ByteArray} {S:List ByteArray}:inS y S=true↔y∈S:=by simp [inS]
theorem findNow_str (y : ByteArray) : ∀ (es : List MapEntry) (S : List ByteArray) (i : Nat), es.map (fun e => (e.key, e.val)) = S.map (fun x => (Value.string x, Value.bool true)) →
    Instr.findNow .string (.string y) es i=some (placeS y S i)
 | [],[],i,_ => by simp [Instr.findNow,placeS]
 | [],_ :: _,_,h => by simp at h
 | _ :: _,[],_,h => by simp at h
 | e :: es,x :: S,i,h => by
  simp only [List.map_cons,List.cons.injEq,Prod.mk.injEq] at h
  obtain ⟨⟨h1,h2⟩,h3⟩:=h
  have ih:=findNow_str y es S (i+1) h3
  by_cases e':y=x
  ·subst e'
   have hb:(y == y)=true:=by rw [beqS];simp
   simp [Instr.findNow,Instr.sameNow,placeS,h1,h2,hb]
  ·have hb:(y == x)=false:=by rw [beqS];simpa using e'
   simp [Instr.findNow,Instr.sameNow,placeS,h1,e',ih,hb]
theorem run_findKey_str (y : ByteArray) (w : World) (es : List MapEntry) (S : List ByteArray) (h : es.map (fun e => (e.key, e.val)) = S.map (fun x => (Value.string x, Value.bool true))) :
    (Instr.findKey 9 (.string y) es).run Tryz.prog w=.ok (placeS y S 0) w:=by
 unfold Instr.findKey
 simp [Sem.run_bind,run_underlying Tryz.underlying9,findNow_str y es S 0 h]
theorem run_checkKey_str (b:Bool) (y:ByteArray) (w:World):(Instr.checkKey b 10000 9 (.string y)).run Tryz.prog w=.ok () w:=by
 show (Instr.checkKey b (9999+1) 9 (.string y)).run Tryz.prog w=_
 rw [Instr.checkKey];simp [go_sem,run_underlying Tryz.underlying9]
theorem run_lookup_str {w : World} {b : Nat} {S : List ByteArray} (h : StrAt w b S) (y : ByteArray) :
    (Instr.lookup 106 (.map (some b)) (.string y) false).run Tryz.prog w=.ok (.bool (inS y S)) w:=by
 obtain ⟨es,clock,hb,he⟩:=h
 have hk:=fun c=>run_checkKey_str c y w
 have hf:=run_findKey_str y w es.toList S he
 by_cases hy:y∈S
 ·obtain ⟨j,hj⟩:=placeS_some S 0 hy
  rw [hj] at hf
  rw [inS_iff.2 hy]
  simp [Instr.lookup,Sem.run_bind,run_underlying Tryz.underlying106,getObj,Sem.run,hb,hk,hf]
 ·rw [placeS_none S 0 hy] at hf
  have hz:(zeroValue 4).run Tryz.prog w=.ok (.bool false) w:=by kernel_rfl
  rw [show inS y S=false from by rw [Bool.eq_false_iff];intro h;exact hy (inS_iff.1 h)]
  simp [Instr.lookup,Sem.run_bind,run_underlying Tryz.underlying106,getObj,Sem.run,hb,hk,hf,hz]
theorem run_update_str {w : World} {b : Nat} {S : List ByteArray} (h : StrAt w b S) (y : ByteArray) (hy : y ∉ S) :
    ∃ o,(Instr.mapUpdate 106 (.map (some b)) (.string y) (.bool true)).run Tryz.prog w=.ok () (w.putObj b o)∧StrAt (w.putObj b o) b (S++[y]):=by
 obtain ⟨es,clock,hb,he⟩:=h
 have hk:=fun c=>run_checkKey_str c y w
 have hf:=run_findKey_str y w es.toList S he
 rw [placeS_none S 0 hy] at hf
 refine ⟨.map (es.push { key:=.string y,val:=.bool true,born:=clock }) (clock+1),?_,es.push { key:=.string y,val:=.bool true,born:=clock },clock+1,?_,by simp [he]⟩
 ·simp [Instr.mapUpdate,Sem.run_bind,run_underlying Tryz.underlying106,getObj,setObj,Sem.run,hb,hk,hf,World.putObj]
 ·have hlt:=(Array.getElem?_eq_some_iff.1 hb).1
  simp [World.putObj,hlt]
end Go.Proofs.YtkhgpockmaghjaaGreat
