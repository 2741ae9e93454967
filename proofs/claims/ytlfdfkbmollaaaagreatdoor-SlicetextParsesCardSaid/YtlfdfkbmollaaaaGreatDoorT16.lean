/- Contracts and laws in plain Lean for RApp: group T16. -/
import Derived.Test.YtlfdfkbmollaaaaGreatDoorT06
import Derived.Deep.LoopGhost
import Derived.Test.YtlfdfkbmollaaaaGreatDoorT15
import Derived.Deep.RegionHeld3
set_option maxRecDepth 100000
namespace Go.Proofs.YtlfdfkbmollaaaaGreatDoor
open Go.RowKit Go.Shelf
theorem BoolPost.no {p:Prop} {w w':World} (h:¬p) (x:Ext w w'):BoolPost p w (.returned (.bool false)) w':=⟨false,rfl,⟨(fun h=>by cases h),fun h'=>absurd h' h⟩,x⟩
theorem BoolPost.yes {p:Prop} {w w':World} (h:p) (x:Ext w w'):BoolPost p w (.returned (.bool true)) w':=⟨true,rfl,⟨fun _=>h,fun _=>rfl⟩,x⟩
structure AcW (T:TM) (w:World) (c:Nat→Nat) (wr:World):Prop where
 h0:Hold wr w.heap.size #[.slice (some ⟨T.b,T.off,none⟩) T.n T.cap]
 cn:CRow wr (w.heap.size+1) T.n c
 bl:Ext w wr
 pl:T.toTr.AcI c
theorem AcW.ext {T:TM} {w wr w':World} {c:Nat→Nat} (h:AcW T w c wr) (x:Ext wr w'):AcW T w c w':=⟨h.h0.ext x,h.cn.ext x,h.bl.trans x,h.pl⟩
theorem AcW.set {T:TM} {w wr:World} {c:Nat→Nat} {p:Nat} (h:AcW T w c wr) (hp:p<T.n) (hr:T.toTr.ReadyC c p):AcW T w (updC c p (c p+1)) (wr.setCell ⟨w.heap.size+1,p,none⟩ (.int .i64 (c p+1:Nat))):=
 ⟨h.h0.other _ _ (by show _≠w.heap.size+1;omega),h.cn.set p _ hp,h.bl.setCell (by show _≤w.heap.size+1;omega) _,h.pl.step hp hr⟩
def Tr.leftC (T:Tr) (c:Nat→Nat):Nat:=tot T.en T.n - tot c T.n
theorem AcW.less {T:TM} {w wr:World} {c:Nat→Nat} {p:Nat} (h:AcW T w c wr) (hp:p<T.n) (hr:T.toTr.ReadyC c p):T.toTr.leftC (updC c p (c p+1))<T.toTr.leftC c:=by
 have h2:=tot_le (n:=T.n) (h.pl.step hp hr).le
 have h3:=tot_upd (c:=c) (p:=p) (n:=T.n) hp
 unfold Tr.leftC;rw [h3] at h2 ⊢
 have h2:tot c T.n+1≤tot T.en T.n:=h2
 show tot T.en T.n - _<tot T.en T.n - _
 omega
theorem boxed1r {w : World} {c : Array Value} {t : TypeId} {G : World → Prop}
    (h:∀ w2,Ext w w2→w2.heap.size=w.heap.size+1→Box w2 w.heap.size c→G w2):G (w.alloc (.cells c t)).drew:=
 h _ (Ext.alloc _ _).drew (by simp) ((Box.of (t:=t) (by show (w.heap.push _)[w.heap.size]?=_;simp):Box (w.alloc (.cells c t)) w.heap.size c).ext (Ext.refl _).drew)
set_option maxHeartbeats 4000000 in
theorem racyclic_any (w : World) (T : TM) (hT : T.At w) (hP : T.toTr.Pre) :
    Calls Tryz.prog 94 #[T.val] w (BoolPost T.toTr.Acy w):=by
 obtain ⟨j0,hj0,hy0,hy1,hy2⟩:=info_parts infoInt
 have hn1:=hP.n1
 have hn8:=hP.n8
 have hE8:∀ k,k<T.n→T.en k≤64:=fun k hk=>(hP.pr k hk).2.2.2.2
 have pa:=hT.P.pa (by omega)
 have pb:=hT.P.pb (by omega)
 have p2:=hT.P.p2
 have hFd:=fun kd m W (h:Ext w W)=>rfind_any W T (hT.ext h) (by omega) kd m
 simp only [TM.val,pa] at hFd
 have HFd:=Lib.hid hFd
 have HT:=Lib.hid hT
 have HP:=Lib.hid hP
 clear hT hP hFd
 go_enter Tryz.func94,Tryz.ntmps94
 go_upto_region 1 with fail
 refine boxed1 (w:=w) (G:=fun x=>Code.wp _ _ _ _ x) ?_
 intro w1 hx1 hs1 ⟨l0,c0,_,k0⟩
 have hx11:Ext w1 w1:=Ext.refl _
 go_upto_region 2 with (at_make;refine wpList_make_full _ rfl _ _ 27 rfl w1.heap.size 3 j0 (.int .i64 0) 1 Tryz.underlying27 hj0 hy0 hy1 .i64 .i64 _ _ T.n rfl rfl rfl rfl (by rw [hy2];omega) (by unfold maxLen;omega) (Nat.le_refl _) ?_;intro w3 hown3 hg3)
 have hx3:Ext w1 w3:=(Below.refl _ _).grown hg3 (Nat.le_refl _) (by simp)
 rw [hs1] at hown3
 have HI0:=Lib.hid (AcW.mk (T:=T) (w:=w) (c:=fun _=>0) (wr:=w3) (Hold.ext k0 hx3) (CRow.made hown3) (hx1.trans hx3) (Tr.AcI.start T.toTr))
 clear hown3 hg3 k0 hs1 l0 c0 hx11 hx3 hx1
 go_wp2_with fail
 go_loopg [4] (T.toTr.leftC (fun _=>0)+1) (fun gg v wr=>∃ c:Nat→Nat,T.toTr.leftC c<gg∧AcW T w c wr)
 case atStart=>exact ⟨_,Nat.lt_succ_self _,HI0.out⟩
 case round=>
  obtain ⟨c,hgg,hI⟩:=hrel
  have HGG:=Lib.hid hgg
  have HI:=Lib.hid hI
  clear hgg hI
  go_wp2_with fail
  go_loopg [4,5] T.n (fun gg v4 v5 wi=>∃ (c2:Nat→Nat) (p:Nat) (mv:Bool),v4=.bool mv∧v5=.int .i64 p∧p≤T.n∧gg=T.n - p∧AcW T w c2 wi∧T.toTr.leftC c2≤T.toTr.leftC c∧(mv=true→T.toTr.leftC c2<T.toTr.leftC c)∧(mv=false→∀ q,q<p→¬T.toTr.ReadyC c2 q))
  case atStart=>exact ⟨c,0,false,rfl,rfl,by omega,rfl,HI.out,Nat.le_refl _,(fun h=>by cases h),fun _ q hq=>by omega⟩
  case round=>
   obtain ⟨c2,p,mv,rfl,rfl,hp,rfl,hI,hm0,hm1,hm2⟩:=hrel
   have HI2:=Lib.hid hI
   have HM:=Lib.hid (And.intro hm0 (And.intro hm1 hm2))
   obtain ⟨l0,c0,_,_⟩:=hI.h0.box
   have hxr:=hI.bl
   have hrr:Ext wr wr:=Ext.refl _
   clear hI hm0 hm1 hm2
   by_cases hpn:p<T.n
   ·have hpn':(p:Int)<(T.n:Int):=by omega
    have hen:=hE8 p hpn
    go_wp2_with fail
    go_loopg [4] (T.en p - c2 p) (fun gg v4 wx=>∃ (c3:Nat→Nat) (mv:Bool),v4=.bool mv∧gg=T.en p - c3 p∧AcW T w c3 wx∧T.toTr.leftC c3≤T.toTr.leftC c∧(mv=true→T.toTr.leftC c3<T.toTr.leftC c)∧(mv=false→∀ q,q<p→¬T.toTr.ReadyC c3 q))
    case atStart=>exact ⟨c2,mv,rfl,rfl,HI2.out,HM.out.1,HM.out.2.1,HM.out.2.2⟩
    case round=>
     obtain ⟨c3,mv,rfl,rfl,hI,hm0,hm1,hm2⟩:=hrel
     have HI3:=Lib.hid hI
     have HM3:=Lib.hid (And.intro hm0 (And.intro hm1 hm2))
     obtain ⟨l0,c0,_,_⟩:=hI.h0.box
     have hxr:=hI.bl
     have hrr:Ext wr wr:=Ext.refl _
     have hle:=hI.pl.le p hpn
     have hcn:∀ w',Ext wr w'→w'.cell? ⟨w.heap.size+1,p,none⟩=some (.int .i64 (c3 p)):=fun w' h=>h.cell (hI.cn.c p hpn)
     have hcl:∀ w',Ext wr w'→w.heap.size+1<w'.heap.size:=fun w' h=>Nat.lt_of_lt_of_le hI.cn.lt h.le
     clear hI hm0 hm1 hm2
     by_cases hlt:c3 p<T.en p
     ·have dl:decide ((c3 p:Int)<(T.en p:Int))=true:=decide_eq_true (by omega)
      have dl':decide (c3 p<T.en p)=true:=decide_eq_true hlt
      have hlt':(c3 p:Int)<(T.en p:Int):=by omega
      go_upto_region 6 with fail
      go_quiet (fail)
      go_upto_region 7 with fail
      refine drewd (w:=wr) (G:=fun x=>Code.wp _ _ _ _ x) ?_
      intro w4 hx4
      have hx44:Ext w4 w4:=Ext.refl _
      have hxw4:=hxr.trans hx4
      have ea:=HT.out.E.ea p hpn (by omega)
      have eb:=HT.out.E.eb p hpn (by omega)
      have e0:∀ w',Ext w4 w'→w'.cell? ⟨T.eb p,T.eo p+c3 p*5,none⟩=some (.int .i64 (T.kind p (c3 p))):=fun w' h=>HT.out.E.e0 w' (hxw4.trans h) p (c3 p) hpn hlt
      have e1:∀ w',Ext w4 w'→w'.cell? ⟨T.eb p,T.eo p+c3 p*5+1,none⟩=some (.int .i64 (T.peer p (c3 p))):=fun w' h=>HT.out.E.e1 w' (hxw4.trans h) p (c3 p) hpn hlt
      have e2:∀ w',Ext w4 w'→w'.cell? ⟨T.eb p,T.eo p+c3 p*5+2,none⟩=some (.int .i64 (T.msg p (c3 p))):=fun w' h=>HT.out.E.e2 w' (hxw4.trans h) p (c3 p) hpn hlt
      have e3:∀ w',Ext w4 w'→w'.cell? ⟨T.eb p,T.eo p+c3 p*5+3,none⟩=some (.int .i64 (T.time p (c3 p))):=fun w' h=>HT.out.E.e3 w' (hxw4.trans h) p (c3 p) hpn hlt
      have e4:∀ w',Ext w4 w'→w'.cell? ⟨T.eb p,T.eo p+c3 p*5+4,none⟩=some (.slice (T.aa p (c3 p)) (T.an p (c3 p)) (T.ac p (c3 p))):=fun w' h=>HT.out.E.e4 w' (hxw4.trans h) p (c3 p) hpn hlt
      have p24:∀ w',Ext w4 w'→w'.cell? ⟨T.b,T.off+p*3+2,none⟩=some (.slice (T.ea p) (T.en p) (T.ec p)):=fun w' h=>HT.out.P.p2 w' (hxw4.trans h) p hpn
      have cn4:∀ w',Ext w4 w'→w'.cell? ⟨w.heap.size+1,p,none⟩=some (.int .i64 (c3 p)):=fun w' h=>hcn w' (hx4.trans h)
      have c04:∀ w',Ext w4 w'→w'.cell? ⟨w.heap.size,0,none⟩=some (.slice (some ⟨T.b,T.off,none⟩) T.n T.cap):=fun w' h=>c0 w' (hx4.trans h) 0
      clear c0 hcn p2 dl dl'
      go_region_held3 (fun w'=>Ext w4 w') (first | exact (Ext.refl w4).drew | exact ((Ext.refl w4).alloc' _).drew) (first | fail)
      simp only [Exit.then]
      go_upto_region 8 with fail
      refine boxed1r (w:=w4) (G:=fun x=>Code.wp _ _ _ _ x) ?_
      intro w5 hx5 hs5 ⟨l5,c5,_,_⟩
      have hx55:Ext w5 w5:=Ext.refl _
      have hxr5:=hx4.trans hx5
      have hxw5:=hxw4.trans hx5
      clear e0 e1 e2 e3 e4 p24 cn4 c04 eb ea hs5
      generalize w4.heap.size=xb at l5 c5 ⊢
      obtain ⟨l0,c0,_,_⟩:=(HI3.out.ext hxr5).h0.box
      by_cases hk3:T.kind p (c3 p)=3
      ·have k1:(T.kind p (c3 p) == 3)=true:=by simpa using hk3
       have hsV:T.toTr.V (T.toTr.sndN (p,c3 p)):=T.toTr.sndN_V (y:=(p,c3 p)) ⟨hpn,hlt⟩
       have hFd2:=HFd.out 2 (T.msg p (c3 p)) w5 hxw5
       rw [HP.out.first_snd ⟨(p,c3 p),hpn,hlt⟩ hk3,←T.toTr.sndN_eq ⟨(p,c3 p),hpn,hlt⟩] at hFd2
       obtain ⟨⟨sk,si⟩,hss⟩:∃ s,s=T.toTr.sndN (p,c3 p):=⟨_,rfl⟩
       rw [←hss] at hFd2 hsV
       have HSS:=Lib.hid hss
       have HK3:=Lib.hid hk3
       have hsk:sk<T.n:=hsV.1
       have hsi:si<T.en sk:=hsV.2
       have hes:=hE8 sk hsk
       simp only [evV] at hFd2
       clear hk3 hss hsV
       go_upto_region 10 with (go_at_call 144;refine hFd2.mono ?_;rintro e w6 ⟨rfl,hx6⟩)
       refine boxed1 (w:=w6) (G:=fun x=>Code.wp _ _ _ _ x) ?_
       intro w7 hx7 hs7 ⟨l7,c7,_,_⟩
       have hx77:Ext w7 w7:=Ext.refl _
       have hxr7:=hxr5.trans (hx6.trans hx7)
       have hxw7:=hxw5.trans (hx6.trans hx7)
       have cn7:∀ w',Ext w7 w'→w'.cell? ⟨w.heap.size+1,sk,none⟩=some (.int .i64 (c3 sk)):=fun w' h=>h.cell ((HI3.out.ext hxr7).cn.c sk hsk)
       have cl7:∀ w',Ext w7 w'→w.heap.size+1<w'.heap.size:=fun w' h=>Nat.lt_of_lt_of_le (HI3.out.ext hxr7).cn.lt h.le
       have hsk':(sk:Int)<(T.n:Int):=by omega
       clear hs7 hFd2
       generalize w6.heap.size=yb at l7 c7 ⊢
       by_cases hw8:c3 sk<si+1
       ·have b1:decide ((c3 sk:Int)<(si:Int)+1)=true:=decide_eq_true (by omega)
        have HNR:=Lib.hid (show ¬T.toTr.ReadyC c3 p from fun h=>by have:=h.2 HK3.out;rw [←HSS.out] at this;exact absurd this (by show ¬si<c3 sk;omega))
        go_quiet (fail)
        go_wp2_with fail
        go_roundg (T.n - (p+1))
        case rel=>exact ⟨c3,p+1,mv,rfl,by go_num,by omega,rfl,(HI3.out.ext hxr7).ext (hx77.drewN _),HM3.out.1,HM3.out.2.1,fun h q hq=>by
         rcases Nat.lt_or_ge q p with h' | h'
         ·exact HM3.out.2.2 h q h'
         ·obtain rfl:q=p:=by omega
          exact HNR.out⟩
        case measure=>omega
       ·have b1:decide ((c3 sk:Int)<(si:Int)+1)=false:=decide_eq_false (by omega)
        have HRD:=Lib.hid (show T.toTr.ReadyC c3 p from ⟨hlt,fun _=>by rw [←HSS.out];show si<c3 sk;omega⟩)
        go_quiet (fail)
        go_upto_region 11 with fail
        refine drewd (w:=w7) (G:=fun x=>Code.wp _ _ _ _ x) ?_
        intro w8 hx8
        have hxr8:=hxr7.trans hx8
        clear cn7 cl7 b1
        have hII:=HI3.out.ext hxr8
        have cnW:∀ w',Ext w8 w'→w'.cell? ⟨w.heap.size+1,p,none⟩=some (.int .i64 (c3 p)):=fun w' h=>h.cell (hII.cn.c p hpn)
        have clW:∀ w',Ext w8 w'→w.heap.size+1<w'.heap.size:=fun w' h=>Nat.lt_of_lt_of_le hII.cn.lt h.le
        have cfW:=hII.cn.fr
        have hWW:Ext w8 w8:=Ext.refl _
        have HII:=Lib.hid hII
        clear hII
        go_wp2_with fail
        go_roundg (T.en p - (c3 p+1))
        case rel=>exact ⟨updC c3 p (c3 p+1),true,rfl,by unfold updC;rw [if_pos rfl],by have:=HII.out.set hpn HRD.out;rw [Int.natCast_add] at this;exact this,Nat.le_trans (Nat.le_of_lt (HII.out.less hpn HRD.out)) HM3.out.1,(fun _=>Nat.lt_of_lt_of_le (HII.out.less hpn HRD.out) HM3.out.1),(fun h=>by cases h)⟩
        case measure=>omega
      ·have k1:(T.kind p (c3 p) == 3)=false:=by simpa using hk3
       have HRD:=Lib.hid (show T.toTr.ReadyC c3 p from ⟨hlt,fun h=>absurd h hk3⟩)
       clear hk3
       have hII:=HI3.out.ext hxr5
       have cnW:∀ w',Ext w5 w'→w'.cell? ⟨w.heap.size+1,p,none⟩=some (.int .i64 (c3 p)):=fun w' h=>h.cell (hII.cn.c p hpn)
       have clW:∀ w',Ext w5 w'→w.heap.size+1<w'.heap.size:=fun w' h=>Nat.lt_of_lt_of_le hII.cn.lt h.le
       have cfW:=hII.cn.fr
       have hWW:Ext w5 w5:=Ext.refl _
       have HII:=Lib.hid hII
       clear hII
       go_wp2_with fail
       go_roundg (T.en p - (c3 p+1))
       case rel=>exact ⟨updC c3 p (c3 p+1),true,rfl,by unfold updC;rw [if_pos rfl],by have:=HII.out.set hpn HRD.out;rw [Int.natCast_add] at this;exact this,Nat.le_trans (Nat.le_of_lt (HII.out.less hpn HRD.out)) HM3.out.1,(fun _=>Nat.lt_of_lt_of_le (HII.out.less hpn HRD.out) HM3.out.1),(fun h=>by cases h)⟩
       case measure=>omega
     ·have dl:decide ((c3 p:Int)<(T.en p:Int))=false:=decide_eq_false (by omega)
      have dl':decide (c3 p<T.en p)=false:=decide_eq_false hlt
      have HNR:=Lib.hid (show ¬T.toTr.ReadyC c3 p from fun h=>hlt h.1)
      go_upto_region 6 with fail
      go_quiet (fail)
      go_wp2_with fail
      go_roundg (T.n - (p+1))
      case rel=>exact ⟨c3,p+1,mv,rfl,by go_num,by omega,rfl,(HI3.out.ext hrr).ext (hrr.drewN _),HM3.out.1,HM3.out.2.1,fun h q hq=>by
       rcases Nat.lt_or_ge q p with h' | h'
       ·exact HM3.out.2.2 h q h'
       ·obtain rfl:q=p:=by omega
        exact HNR.out⟩
      case measure=>omega
   ·have hpn':¬(p:Int)<(T.n:Int):=by omega
    cases mv with
    | true =>
     go_wp2_with fail
     go_roundg (T.toTr.leftC c)
     case rel=>exact ⟨c2,(by have:=HM.out.2.1;simpa using this),HI2.out⟩
     case measure=>exact HGG.out
    | false =>
     have HNO:=Lib.hid (show ∀ q,q<T.n→¬T.toTr.ReadyC c2 q from fun q hq=>HM.out.2.2 rfl q (by omega))
     go_wp2_with fail
     clear hpn'
     go_loopg [8] T.n (fun gg v8 wx=>∃ k:Nat,k≤T.n∧gg=T.n - k∧v8=.int .i64 k∧Ext wr wx∧∀ j,j<k→¬c2 j<T.en j)
     case atStart=>exact ⟨0,by omega,rfl,rfl,hrr,fun j hj=>by omega⟩
     case round=>
      obtain ⟨k,hk,rfl,rfl,hxx,hok⟩:=hrel
      have HOK:=Lib.hid hok
      clear hok
      have hI4:=HI2.out.ext hxx
      have hx4:=hI4.bl
      obtain ⟨l0,c0,_,_⟩:=hI4.h0.box
      have h44:Ext wr wr:=Ext.refl _
      have cn4:k<T.n→∀ w',Ext wr w'→w'.cell? ⟨w.heap.size+1,k,none⟩=some (.int .i64 (c2 k)):=fun hk w' h=>h.cell (hI4.cn.c k hk)
      have cl4:∀ w',Ext wr w'→w.heap.size+1<w'.heap.size:=fun w' h=>Nat.lt_of_lt_of_le hI4.cn.lt h.le
      clear hI4
      by_cases hlk:k<T.n
      ·have hlk':(k:Int)<(T.n:Int):=by omega
       have cn5:=cn4 hlk
       have p2k:∀ w',Ext w w'→w'.cell? ⟨T.b,T.off+k*3+2,none⟩=some (.slice (T.ea k) (T.en k) (T.ec k)):=fun w' h=>p2 w' h k hlk
       clear cn4
       by_cases hce:c2 k<T.en k
       ·have b1:decide ((c2 k:Int)<(T.en k:Int))=true:=decide_eq_true (by omega)
        have b2:decide (c2 k<T.en k)=true:=decide_eq_true hce
        have HCE:=Lib.hid hce
        clear hce
        go_upto_region 17 with fail
        go_quiet (fail)
        go_wp2_with fail
        go_ret
        exact BoolPost.no (fun hA=>by have:=HI2.out.pl.full HP.out hA HNO.out k hlk;have:=HCE.out;omega) (hx4.drewN _)
       ·have b1:decide ((c2 k:Int)<(T.en k:Int))=false:=decide_eq_false (by omega)
        have b2:decide (c2 k<T.en k)=false:=decide_eq_false hce
        have HCE:=Lib.hid hce
        clear hce
        go_upto_region 17 with fail
        go_quiet (fail)
        go_wp2_with fail
        go_roundg (T.n - (k+1))
        case rel=>exact ⟨k+1,by omega,rfl,by go_num,hxx.drewN _,fun j hj=>by
         by_cases e:j=k
         ·subst e;exact HCE.out
         ·exact HOK.out j (by omega)⟩
        case measure=>omega
      ·have hke:k=T.n:=by omega
       subst hke
       clear cn4
       go_wp2_with fail
       go_ret
       exact BoolPost.yes (HI2.out.pl.acy HP.out fun q hq=>by have:=HOK.out q hq;have:=HI2.out.pl.le q hq;omega) hx4
theorem rfault_results (tmps : Array Value) (W : World) (b : Nat) (x y z : Value) (t2 : tmps[2]? = some (.pointer (some ⟨b, 0, none⟩))) (t3 : tmps[3]? = some z) (c : W.cell? ⟨b, 0, none⟩ = some x) (c' : W.cell? ⟨b, 1, none⟩ = some y) :
    (results Tryz.f37 tmps).run Tryz.prog W=.ok (.tuple #[.agg #[x,y],z]) W:=by
 simp [results,Tryz.results37,go_sem,t2,t3,c,c']
set_option maxHeartbeats 4000000 in
theorem rfault_any (w:World) (T:TM) (hT:T.At w):Calls Tryz.prog 37 #[T.val] w (FaultPost T w):=by
 have hn:=hT.P.hn
 by_cases h1:T.n<1
 ·have d1:decide ((T.n:Int)<1)=true:=decide_eq_true (by omega)
  have d1':decide (T.n<1)=true:=decide_eq_true h1
  have HV:=Lib.hid (show (1:Int)=0↔T.toTr.Valid from ⟨fun h=>absurd h (by decide),fun h=>absurd h.n1 (by omega)⟩)
  clear hT h1
  go_enter Tryz.func37,Tryz.ntmps37
  go_upto_region 1 with fail
  refine boxed2 (w:=w) (G:=fun x=>Code.wp _ _ _ _ x) ?_
  intro w1 hx1 hs1 ⟨l0,c0,_,_⟩ ⟨l1,c1,f1,k1⟩
  have hx11:Ext w1 w1:=Ext.refl _
  have HK1:=Lib.hid (show Hold w1 (w.heap.size+1) #[.int .i64 0,.int .i64 0] from k1)
  clear hs1 k1
  have hh:=Hold.ext HK1.out hx11
  obtain ⟨l9,c9,f9,_⟩:=hh.box
  have hh9:=Hold.set (Hold.set hh 0 (.int .i64 0)) 1 (.int .i64 0)
  have G4:=Lib.hid hh9
  have hWW:Ext w1 w1:=Ext.refl _
  clear hh hh9 l1 c1 f1
  go_wp2_with fail
  refine bodyPost_ret (rfault_results _ _ _ _ _ _ rfl rfl (G4.out.cell0 0) (G4.out.cell0 1)) rfl ?_
  have hb:w.heap.size≤w.heap.size+1:=by omega
  exact ⟨Ext.setCell (Ext.setCell (hx1.trans hx11) hb _) hb _,_,_,_,rfl,HV.out⟩
 ·by_cases h8:8<T.n
  ·have d1:decide ((T.n:Int)<1)=false:=decide_eq_false (by omega)
   have d2:decide ((8:Int)<(T.n:Int))=true:=decide_eq_true (by omega)
   have d2':decide (8<T.n)=true:=decide_eq_true h8
   have HV:=Lib.hid (show (1:Int)=0↔T.toTr.Valid from ⟨fun h=>absurd h (by decide),fun h=>absurd h.n8 (by omega)⟩)
   clear hT h1 h8
   go_enter Tryz.func37,Tryz.ntmps37
   go_upto_region 1 with fail
   refine boxed2 (w:=w) (G:=fun x=>Code.wp _ _ _ _ x) ?_
   intro w1 hx1 hs1 ⟨l0,c0,_,_⟩ ⟨l1,c1,f1,k1⟩
   have hx11:Ext w1 w1:=Ext.refl _
   have HK1:=Lib.hid (show Hold w1 (w.heap.size+1) #[.int .i64 0,.int .i64 0] from k1)
   clear hs1 k1
   have hh:=Hold.ext HK1.out hx11
   obtain ⟨l9,c9,f9,_⟩:=hh.box
   have hh9:=Hold.set (Hold.set hh 0 (.int .i64 0)) 1 (.int .i64 0)
   have G4:=Lib.hid hh9
   have hWW:Ext w1 w1:=Ext.refl _
   clear hh hh9 l1 c1 f1
   go_wp2_with fail
   refine bodyPost_ret (rfault_results _ _ _ _ _ _ rfl rfl (G4.out.cell0 0) (G4.out.cell0 1)) rfl ?_
   have hb:w.heap.size≤w.heap.size+1:=by omega
   exact ⟨Ext.setCell (Ext.setCell (hx1.trans hx11) hb _) hb _,_,_,_,rfl,HV.out⟩
  ·have hn1:1≤T.n:=by omega
   have hn8:T.n≤8:=by omega
   have d1:decide ((T.n:Int)<1)=false:=decide_eq_false (by omega)
   have d2:decide ((8:Int)<(T.n:Int))=false:=decide_eq_false (by omega)
   have d2':decide (8<T.n)=false:=decide_eq_false h8
   have pa:=hT.P.pa (by omega)
   have pb:=hT.P.pb (by omega)
   have p2:=hT.P.p2
   have hHd:=fun W (hx:Ext w W) p hp=>rhead_any W T (hT.ext hx) p hp
   have hFm:=fun W (hx:Ext w W) p i hp hi=>rform_any W T (hT.ext hx) p i hp hi
   have hPd:=fun W (hx:Ext w W) hF p i hp hi=>rpaired_any W T (hT.ext hx) hF p i hp hi
   have hAc:=fun W (hx:Ext w W) hP=>racyclic_any W T (hT.ext hx) hP
   have hPs:=fun W (hx:Ext w W) hP x hx'=>rpast_any W T (hT.ext hx) hP x hx'
   simp only [TM.val,pa] at hHd hFm hPd hAc hPs
   have HHd:=Lib.hid hHd
   have HFm:=Lib.hid hFm
   have HPd:=Lib.hid hPd
   have HAc:=Lib.hid hAc
   have HPs:=Lib.hid hPs
   clear hT h1 h8 hHd hFm hPd hAc hPs
   go_enter Tryz.func37,Tryz.ntmps37
   go_upto_region 1 with fail
   refine boxed2 (w:=w) (G:=fun x=>Code.wp _ _ _ _ x) ?_
   intro w1 hx1 hs1 ⟨l0,c0,_,_⟩ ⟨l1,c1,f1,k1⟩
   have hx11:Ext w1 w1:=Ext.refl _
   have HK1:=Lib.hid (show Hold w1 (w.heap.size+1) #[.int .i64 0,.int .i64 0] from k1)
   clear hs1 k1
   go_wp2_with fail
   clear d1 d2 d2'
   go_loopg [4] T.n (fun gg v wr=>∃ k:Nat,k≤T.n∧gg=T.n - k∧v=.int .i64 k∧Ext w1 wr∧∀ j,j<k→T.toTr.PrOk j)
   case atStart=>exact ⟨0,by omega,rfl,rfl,hx11,fun j hj=>by omega⟩
   case round=>
    obtain ⟨k,hk,rfl,rfl,hxr,hok⟩:=hrel
    have HOK:=Lib.hid hok
    clear hok
    have hxw:=hx1.trans hxr
    by_cases hlt:k<T.n
    ·have hlt':(k:Int)<(T.n:Int):=by omega
     have hC:=HHd.out wr hxw k hlt
     go_upto_region 7 with (go_at_call 91;refine hC.mono ?_;rintro e w3 ⟨c,rfl,hc,hx3⟩)
     have hx13:=hxr.trans hx3
     clear hC
     by_cases h0:c=0
     ·subst h0
      have HC:=Lib.hid (hc.1 rfl)
      clear hc
      go_wp2_with fail
      go_roundg (T.n - (k+1))
      case rel=>exact ⟨k+1,by omega,rfl,by go_num,hx13,fun j hj=>by
       by_cases e:j=k
       ·subst e;exact HC.out
       ·exact HOK.out j (by omega)⟩
      case measure=>omega
     ·have hb0:(c != 0)=true:=by simpa using h0
      have HV:=Lib.hid (show c=0↔T.toTr.Valid from ⟨fun h=>absurd h h0,fun h=>absurd (hc.2 (h.pr k hlt)) h0⟩)
      clear hc h0
      have hh:=Hold.ext HK1.out hx13
      obtain ⟨l9,c9,f9,_⟩:=hh.box
      have hh9:=Hold.set (Hold.set hh 0 (.int .i64 k)) 1 (.int .i64 0)
      have G4:=Lib.hid hh9
      have hWW:Ext w3 w3:=Ext.refl _
      clear hh hh9 l1 c1 f1
      go_wp2_with fail
      refine bodyPost_ret (rfault_results _ _ _ _ _ _ rfl rfl (G4.out.cell0 0) (G4.out.cell0 1)) rfl ?_
      have hb:w.heap.size≤w.heap.size+1:=by omega
      exact ⟨Ext.setCell (Ext.setCell (hx1.trans hx13) hb _) hb _,_,_,_,rfl,HV.out⟩
    ·have hke:k=T.n:=by omega
     subst hke
     have HPR:=Lib.hid HOK.out
     have hE8:∀ k,k<T.n→T.en k≤64:=fun k hk=>(HPR.out k hk).2.2.2.2
     clear HOK
     go_wp2_with fail
     go_loopg [6] T.n (fun gg v wr=>∃ k:Nat,k≤T.n∧gg=T.n - k∧v=.int .i64 k∧Ext w1 wr∧∀ j i,j<k→i<T.en j→T.toTr.EvOk j i)
     case atStart=>exact ⟨0,by omega,rfl,rfl,hxr,fun j i hj=>by omega⟩
     case round=>
      obtain ⟨k,hk,rfl,rfl,hxr,hok⟩:=hrel
      have HOK:=Lib.hid hok
      clear hok
      have hxw:=hx1.trans hxr
      by_cases hlt:k<T.n
      ·have hlt':(k:Int)<(T.n:Int):=by omega
       have hen:=hE8 k hlt
       go_wp2_with fail
       go_loopg [7] (T.en k) (fun gg v wr=>∃ i:Nat,i≤T.en k∧gg=T.en k - i∧v=.int .i64 i∧Ext w1 wr∧∀ j,j<i→T.toTr.EvOk k j)
       case atStart=>exact ⟨0,by omega,rfl,rfl,hxr,fun j hj=>by omega⟩
       case round=>
        obtain ⟨i,hi,rfl,rfl,hxr,hok⟩:=hrel
        have HOI:=Lib.hid hok
        clear hok
        have hxw:=hx1.trans hxr
        by_cases hli:i<T.en k
        ·have hli':(i:Int)<(T.en k:Int):=by omega
         have hC:=HFm.out wr hxw k i hlt hli
         go_upto_region 16 with (go_at_call 92;refine hC.mono ?_;rintro e w3 ⟨c,rfl,hc,hx3⟩)
         have hx13:=hxr.trans hx3
         clear hC
         by_cases h0:c=0
         ·subst h0
          have HC:=Lib.hid (hc.1 rfl)
          clear hc
          go_wp2_with fail
          go_roundg (T.en k - (i+1))
          case rel=>exact ⟨i+1,by omega,rfl,by go_num,hx13,fun j hj=>by
           by_cases e:j=i
           ·subst e;exact HC.out
           ·exact HOI.out j (by omega)⟩
          case measure=>omega
         ·have hb0:(c != 0)=true:=by simpa using h0
          have HV:=Lib.hid (show c=0↔T.toTr.Valid from ⟨fun h=>absurd h h0,fun h=>absurd (hc.2 (h.ev k i hlt hli)) h0⟩)
          clear hc h0
          have hh:=Hold.ext HK1.out hx13
          obtain ⟨l9,c9,f9,_⟩:=hh.box
          have hh9:=Hold.set (Hold.set hh 0 (.int .i64 k)) 1 (.int .i64 (i+1))
          have G4:=Lib.hid hh9
          have hWW:Ext w3 w3:=Ext.refl _
          clear hh hh9 l1 c1 f1
          go_wp2_with fail
          refine bodyPost_ret (rfault_results _ _ _ _ _ _ rfl rfl (G4.out.cell0 0) (G4.out.cell0 1)) rfl ?_
          have hb:w.heap.size≤w.heap.size+1:=by omega
          exact ⟨Ext.setCell (Ext.setCell (hx1.trans hx13) hb _) hb _,_,_,_,rfl,HV.out⟩
        ·have hie:i=T.en k:=by omega
         subst hie
         go_wp2_with fail
         go_roundg (T.n - (k+1))
         case rel=>exact ⟨k+1,by omega,rfl,by go_num,hxr,fun j i2 hj hi2=>by
          by_cases e:j=k
          ·subst e;exact HOI.out i2 hi2
          ·exact HOK.out j i2 (by omega) hi2⟩
         case measure=>omega
      ·have hke:k=T.n:=by omega
       subst hke
       have HEV:=Lib.hid HOK.out
       have HFO:=Lib.hid (show T.toTr.Formed from fun x=>(HEV.out x.1.1 x.1.2 x.2.1 x.2.2).1)
       clear HOK
       go_wp2_with fail
       go_loopg [9] T.n (fun gg v wr=>∃ k:Nat,k≤T.n∧gg=T.n - k∧v=.int .i64 k∧Ext w1 wr∧T.toTr.OkList (T.toTr.evsTo k 0))
       case atStart=>exact ⟨0,by omega,rfl,rfl,hxr,fun pre x hp=>by have:=hp.length_le;rw [Tr.evsTo_zero] at this;simp at this⟩
       case round=>
        obtain ⟨k,hk,rfl,rfl,hxr,hok⟩:=hrel
        have HOK:=Lib.hid hok
        clear hok
        have hxw:=hx1.trans hxr
        by_cases hlt:k<T.n
        ·have hlt':(k:Int)<(T.n:Int):=by omega
         have hen:=hE8 k hlt
         go_wp2_with fail
         go_loopg [10] (T.en k) (fun gg v wr=>∃ i:Nat,i≤T.en k∧gg=T.en k - i∧v=.int .i64 i∧Ext w1 wr∧T.toTr.OkList (T.toTr.evsTo k i))
         case atStart=>exact ⟨0,by omega,rfl,rfl,hxr,HOK.out⟩
         case round=>
          obtain ⟨i,hi,rfl,rfl,hxr,hok⟩:=hrel
          have HOI:=Lib.hid hok
          clear hok
          have hxw:=hx1.trans hxr
          by_cases hli:i<T.en k
          ·have hli':(i:Int)<(T.en k:Int):=by omega
           go_upto_region 25 with fail
           refine boxed1 (w:=wr) (G:=fun x=>Code.wp _ _ _ _ x) ?_
           intro w4 hx4 hs4 ⟨l4,c4,_,_⟩
           have hx44:Ext w4 w4:=Ext.refl _
           have hx14:=hxr.trans hx4
           have hxw4:=hx1.trans hx14
           have hC:=HPd.out w4 hxw4 HFO.out k i hlt hli
           have HPI:=Lib.hid (Tr.pair_iff HFO.out hlt hli)
           clear hs4
           go_upto_region 26 with (go_at_call 93;refine hC.mono ?_;rintro e w3 ⟨c,rfl,hc,hx3⟩)
           have hx13:=hx14.trans hx3
           clear hC
           by_cases h0:c=0
           ·subst h0
            have HC:=Lib.hid (HPI.out.1 (hc.1 rfl))
            clear hc
            go_wp2_with fail
            go_roundg (T.en k - (i+1))
            case rel=>exact ⟨i+1,by omega,rfl,by go_num,hx13,by rw [T.toTr.evsTo_succ k i hlt hli];exact HOI.out.snoc HC.out⟩
            case measure=>omega
           ·have hb0:(c != 0)=true:=by simpa using h0
            have HV:=Lib.hid (show c=0↔T.toTr.Valid from ⟨fun h=>absurd h h0,fun h=>absurd (hc.2 (HPI.out.2 (h.msg _ _ (by rw [←T.toTr.evsTo_succ k i hlt hli];exact T.toTr.evsTo_prefix k (i+1) hlt hli)))) h0⟩)
            clear hc h0
            have hh:=Hold.ext HK1.out hx13
            obtain ⟨l9,c9,f9,_⟩:=hh.box
            have hh9:=Hold.set (Hold.set hh 0 (.int .i64 k)) 1 (.int .i64 (i+1))
            have G4:=Lib.hid hh9
            have hWW:Ext w3 w3:=Ext.refl _
            clear hh hh9 l1 c1 f1
            go_wp2_with fail
            refine bodyPost_ret (rfault_results _ _ _ _ _ _ rfl rfl (G4.out.cell0 0) (G4.out.cell0 1)) rfl ?_
            have hb:w.heap.size≤w.heap.size+1:=by omega
            exact ⟨Ext.setCell (Ext.setCell (hx1.trans hx13) hb _) hb _,_,_,_,rfl,HV.out⟩
          ·have hie:i=T.en k:=by omega
           subst hie
           go_wp2_with fail
           go_roundg (T.n - (k+1))
           case rel=>exact ⟨k+1,by omega,rfl,by go_num,hxr,by rw [←Tr.evsTo_next];exact HOI.out⟩
           case measure=>omega
        ·have hke:k=T.n:=by omega
         subst hke
         have HPR2:=Lib.hid (show T.toTr.Pre from ⟨hn1,hn8,HPR.out,HEV.out,HOK.out⟩)
         clear HOK
         have hC:=HAc.out wr hxw HPR2.out
         go_upto_region 28 with fail
         go_wp2_with fail
         go_at_call 94
         refine hC.mono ?_
         rintro e w3 ⟨b,rfl,hb,hx3⟩
         have hx13:=hxr.trans hx3
         clear hC
         cases b with
         | true =>
          have HV:=Lib.hid (show (0:Int)=0↔T.toTr.Valid from ⟨fun _=>Tr.valid_iff.2 ⟨HPR2.out,hb.1 rfl⟩,fun _=>rfl⟩)
          clear hb
          have hh:=Hold.ext HK1.out hx13
          obtain ⟨l9,c9,f9,_⟩:=hh.box
          have hh9:=Hold.set (Hold.set hh 0 (.int .i64 0)) 1 (.int .i64 0)
          have G4:=Lib.hid hh9
          have hWW:Ext w3 w3:=Ext.refl _
          clear hh hh9 l1 c1 f1
          go_wp2_with fail
          refine bodyPost_ret (rfault_results _ _ _ _ _ _ rfl rfl (G4.out.cell0 0) (G4.out.cell0 1)) rfl ?_
          have hb:w.heap.size≤w.heap.size+1:=by omega
          exact ⟨Ext.setCell (Ext.setCell (hx1.trans hx13) hb _) hb _,_,_,_,rfl,(by simpa using HV.out)⟩
         | false =>
          have HNA:=Lib.hid (show ¬T.toTr.Acy from fun h=>by have:=hb.2 h;cases this)
          clear hb
          go_wp2_with fail
          go_loopg [13] T.n (fun gg v wr=>∃ k:Nat,k≤T.n∧gg=T.n - k∧v=.int .i64 k∧Ext w1 wr∧∀ j i,j<k→i<T.en j→¬T.toTr.SP (j,i) (j,i))
          case atStart=>exact ⟨0,by omega,rfl,rfl,hx13,fun j i hj=>by omega⟩
          case round=>
           obtain ⟨k,hk,rfl,rfl,hxr,hok⟩:=hrel
           have HOK:=Lib.hid hok
           clear hok
           have hxw:=hx1.trans hxr
           by_cases hlt:k<T.n
           ·have hlt':(k:Int)<(T.n:Int):=by omega
            have hen:=hE8 k hlt
            go_wp2_with fail
            go_loopg [14] (T.en k) (fun gg v wr=>∃ i:Nat,i≤T.en k∧gg=T.en k - i∧v=.int .i64 i∧Ext w1 wr∧∀ j,j<i→¬T.toTr.SP (k,j) (k,j))
            case atStart=>exact ⟨0,by omega,rfl,rfl,hxr,fun j hj=>by omega⟩
            case round=>
             obtain ⟨i,hi,rfl,rfl,hxr,hok⟩:=hrel
             have HOI:=Lib.hid hok
             clear hok
             have hxw:=hx1.trans hxr
             by_cases hli:i<T.en k
             ·have hli':(i:Int)<(T.en k:Int):=by omega
              go_upto_region 37 with fail
              refine boxed1 (w:=wr) (G:=fun x=>Code.wp _ _ _ _ x) ?_
              intro w4 hx4 hs4 ⟨l4,c4,_,_⟩
              have hx44:Ext w4 w4:=Ext.refl _
              have hx14:=hxr.trans hx4
              have hxw4:=hx1.trans hx14
              have hC:=HPs.out w4 hxw4 HPR2.out (k,i) ⟨hlt,hli⟩
              dsimp only at hC
              clear hs4
              go_wp2_with fail
              go_at_call 95
              refine hC.mono ?_
              rintro e w5 ⟨hx5,g,cap,rb,f,rfl,hcap,hbo,hf⟩
              have hx55:Ext w5 w5:=Ext.refl _
              have hx15:=hx14.trans hx5
              have b0:∀ w',Ext w5 w'→w'.cell? ⟨g,k,none⟩=some (.slice (some ⟨rb k,0,none⟩) (T.en k+1) (T.en k+1)):=fun w' h=>h.cell (hbo.c0 k hlt)
              have b1:∀ w',Ext w5 w'→g<w'.heap.size:=fun w' h=>Nat.lt_of_lt_of_le hbo.lt h.le
              have b2:∀ w',Ext w5 w'→rb k<w'.heap.size:=fun w' h=>Nat.lt_of_lt_of_le (hbo.rl k hlt) h.le
              have b3:∀ w',Ext w5 w'→w'.cell? ⟨rb k,i+1,none⟩=some (.bool (f k (i+1))):=fun w' h=>h.cell (hbo.c1 k (i+1) hlt (by show i+1<T.en k+1;omega))
              have hfk:=hf k i
              have hi2:(0:Int)≤(i:Int)+1:=by omega
              have hi3:((i:Int)+1).toNat=i+1:=by omega
              have hi4:(i:Int)+1<(T.en k:Int)+1:=by omega
              clear hC hbo hf
              cases hfb:f k (i+1) with
              | true =>
               have HV:=Lib.hid (show (10:Int)=0↔T.toTr.Valid from ⟨fun h=>absurd h (by decide),fun h=>absurd (hfk.1 hfb) (HPR2.out.acy_iff.1 (Tr.valid_iff.1 h).2 _ ⟨hlt,hli⟩)⟩)
               rw [hfb] at b3
               clear hfk hfb
               have hh:=Hold.ext HK1.out hx15
               obtain ⟨l9,c9,f9,_⟩:=hh.box
               have hh9:=Hold.set (Hold.set hh 0 (.int .i64 k)) 1 (.int .i64 (i+1))
               have G4:=Lib.hid hh9
               have hWW:Ext w5 w5:=Ext.refl _
               clear hh hh9 l1 c1 f1
               go_wp2_with fail
               refine bodyPost_ret (rfault_results _ _ _ _ _ _ rfl rfl (G4.out.cell0 0) (G4.out.cell0 1)) rfl ?_
               have hb:w.heap.size≤w.heap.size+1:=by omega
               exact ⟨Ext.setCell (Ext.setCell (hx1.trans hx15) hb _) hb _,_,_,_,rfl,HV.out⟩
              | false =>
               have HC:=Lib.hid (show ¬T.toTr.SP (k,i) (k,i) from fun h=>by have:=hfk.2 h;rw [hfb] at this;cases this)
               rw [hfb] at b3
               clear hfk hfb
               go_wp2_with fail
               go_roundg (T.en k - (i+1))
               case rel=>exact ⟨i+1,by omega,rfl,by go_num,hx15,fun j hj=>by
                by_cases e:j=i
                ·subst e;exact HC.out
                ·exact HOI.out j (by omega)⟩
               case measure=>omega
             ·have hie:i=T.en k:=by omega
              subst hie
              go_wp2_with fail
              go_roundg (T.n - (k+1))
              case rel=>exact ⟨k+1,by omega,rfl,by go_num,hxr,fun j i2 hj hi2=>by
               by_cases e:j=k
               ·subst e;exact HOI.out i2 hi2
               ·exact HOK.out j i2 (by omega) hi2⟩
              case measure=>omega
           ·have hke:k=T.n:=by omega
            exact absurd (HPR2.out.acy_iff.2 fun x hx=>HOK.out x.1 x.2 (by rw [hke];exact hx.1) hx.2) HNA.out
set_option maxHeartbeats 1000000 in
theorem rvalid_any (w:World) (T:TM) (hT:T.At w):Calls Tryz.prog 11 #[T.val] w (BoolPost T.toTr.Valid w):=by
 go_enter Tryz.func11,Tryz.ntmps11
 go_upto_region 1 with fail
 refine boxed1 (w:=w) (G:=fun x=>Code.wp _ _ _ _ x) ?_
 intro w1 hx1 hs1 ⟨l0,c0,_,_⟩
 have hx11:Ext w1 w1:=Ext.refl _
 have hF:=rfault_any w1 T (hT.ext hx1)
 clear hs1 hT
 go_wp2_with fail
 go_at_call 37
 refine hF.mono ?_
 rintro e w2 ⟨hx2,p,q,c,rfl,hc⟩
 by_cases h0:c=0
 ·subst h0
  have HV:=Lib.hid (hc.1 rfl)
  clear hc hF
  go_wp2_with fail
  go_ret
  exact BoolPost.yes HV.out ((hx1.trans hx2).alloc' _)
 ·have hb0:(c == 0)=false:=by simpa using h0
  have HV:=Lib.hid (show ¬T.toTr.Valid from fun h=>h0 (hc.2 h))
  clear hc hF h0
  go_wp2_with fail
  go_ret
  exact BoolPost.no HV.out ((hx1.trans hx2).alloc' _)
end Go.Proofs.YtlfdfkbmollaaaaGreatDoor
