/- Contracts and laws in plain Lean for RApp: group T73. -/
import Derived.Test.YtlfdfkbmollaaaaGreatDoorT72
import Derived.Test.YtlfdfkbmollaaaaGreatDoorT70
import Derived.Test.YtlfdfkbmollaaaaGreatDoorT05
set_option maxRecDepth 100000
namespace Go.Proofs.YtlfdfkbmollaaaaGreatDoor
open Go.RowKit Go.Shelf
theorem rotF_rot0 (d:Nat→EvE) (m b:Nat):rotF d m m b=d:=by
 funext k
 unfold rotF
 repeat' split
 all_goals first | omega | (congr 1 <;> omega)
theorem rotF_rot1 (d:Nat→EvE) (a m:Nat):rotF d a m m=d:=by
 funext k
 unfold rotF
 repeat' split
 all_goals first | omega | (congr 1 <;> omega)
theorem merge_end {L:EvE→EvE→Prop} {d e0 e1 e2:Nat→EvE} {a mid b:Nat} (hB:Bef2 L e0 a mid mid b) (i1:Im e0 e1 a mid) (s1:Srtd L e1 a mid) (i2:Im e1 e2 mid b) (s2:Srtd L e2 mid b) (i0:Im d e0 a b) (h1:a≤mid) (h2:mid≤b):Im d e2 a b∧Srtd L e2 a b:=
 ⟨(i0.trans (i1.wide (Nat.le_refl _) h2)).trans (i2.wide h1 (Nat.le_refl _)),Srtd.join (s1.congr fun k _ hk=>i2.out k (by omega)) s2 ((hB.im i1 (Nat.le_refl _)).im2 i2 (Nat.le_refl _))⟩
theorem Bef2.congr {L:EvE→EvE→Prop} {d d':Nat→EvE} {a m b c:Nat} (h:Bef2 L d a m b c) (e1:∀ k,a≤k→k<m→d' k=d k) (e2:∀ k,b≤k→k<c→d' k=d k):Bef2 L d' a m b c:=fun i j ia im jb jc=>by
 rw [e1 i ia im,e2 j jb jc];exact h i j ia im jb jc
set_option maxHeartbeats 8000000 in
theorem symC_gen (w0 : World) (g o n cap : Nat) (hg : w0.heap.size ≤ g) (hn : n ≤ 1000) {f : Nat} {lb : Array Value} {A : EvE → Prop} {cf : EvE → EvE → Int} {L lx : EvE → EvE → Prop} (C : CmpE w0 f lb A cf) (O : OrdE A cf L lx) (w : World) (d : Nat → EvE) (a m b : Nat) (h : SrtW w0 g o n d w) (ham : a < m) (hmb : m < b) (hbn : b ≤ n) (hA : ∀ k, a ≤ k → k < b → A (d k)) (hs1 : Srtd L d a m) (hs2 : Srtd L d m b) (hlx : Bef2 lx d a m m b) (h0 : m ≠ a + 1) (h1 : b ≠ m + 1) {N : Nat} (hN : b - a ≤ N + 1) (hIH : ∀ (w : World) (d : Nat → EvE) (a m b : Nat), b - a ≤ N → SrtW w0 g o n d w → a < m → m < b → b ≤ n → (∀ k, a ≤ k → k < b → A (d k)) → Srtd L d a m → Srtd L d m b → Bef2 lx d a m m b → Calls Tryz.prog 199 #[.slice (some ⟨g, o, none⟩) n cap, .int .i64 (a : Int), .int .i64 (m : Int), .int .i64 (b : Int), .func (.func f) #[] lb] w (SrtPost w0 g o n a b L d)) :
    Calls Tryz.prog 199 #[.slice (some ⟨g,o,none⟩) n cap,.int .i64 (a:Int),.int .i64 (m:Int),.int .i64 (b:Int),.func (.func f) #[] lb] w (SrtPost w0 g o n a b L d):=by
 have HIH:=Lib.hid hIH
 have H0:=Lib.hid h
 have HC:=Lib.hid C
 have HO:=Lib.hid O
 have HA:=Lib.hid hA
 have HS1:=Lib.hid hs1
 have HS2:=Lib.hid hs2
 have HLX:=Lib.hid hlx
 have HSR:=Lib.hid (fun W (e:Nat→EvE) (H:SrtW w0 g o n e W) x y k h1 h2 h3=>rotateC_any w0 W g o n cap e hg H x y k h1 h2 h3 hn (.func (.func f) #[] lb))
 have eg:=C.en
 unfold Enters at eg
 clear h hg C O hA hs1 hs2 hlx hIH
 go_enter Tryz.func199,Tryz.ntmps199
 have d0:((m:Int) - (a:Int) == 1)=false:=by simp;omega
 have d1:((b:Int) - (m:Int) == 1)=false:=by simp;omega
 have hN':=hN
 obtain ⟨mid,hmid⟩:∃ mid,mid=(a+b) / 2:=⟨_,rfl⟩
 have em:((a:Int)+(b:Int)) / 2=(mid:Int):=by omega
 have hm1:a<mid∧mid<b∧2*mid≤a+b∧a+b≤2*mid+1:=by omega
 obtain ⟨nn,hnn⟩:∃ nn,nn=mid+m:=⟨_,rfl⟩
 have en1:(mid:Int)+(m:Int)=(nn:Int):=by omega
 obtain ⟨p,hp⟩:∃ p,p=nn - 1:=⟨_,rfl⟩
 have ep:(nn:Int) - 1=(p:Int):=by omega
 obtain ⟨s0,r0,hsr⟩:∃ s0 r0:Nat,(mid<m→s0=nn - b∧r0=mid)∧(¬mid<m→s0=a∧r0=m):=by
  by_cases h:mid<m
  ·exact ⟨nn - b,mid,fun _=>⟨rfl,rfl⟩,fun h2=>absurd h h2⟩
  ·exact ⟨a,m,fun h2=>absurd h2 h,fun _=>⟨rfl,rfl⟩⟩
 have hb1:a≤s0∧s0≤r0∧r0≤m∧r0≤mid∧(r0=m∨r0=mid)∧(s0=a∨s0+b=nn)∧nn≤b+s0:=by
  by_cases h:mid<m
  ·have:=hsr.1 h;omega
  ·have:=hsr.2 h;omega
 have es:mid<m→(nn:Int) - (b:Int)=(s0:Int):=fun h=>by have:=hsr.1 h;omega
 clear hmid h0 h1 hN
 have hnb:nn≤2000:=by omega
 have hpb:p≤2000:=by omega
 have hmb2:mid≤1000:=by omega
 have HM1:=Lib.hid hm1
 have HP1:=Lib.hid (And.intro hnn hp)
 clear hm1 hnn hp
 go_upto_if 140 with (fail)
 go_cut [20,21] from 25 (fun s20 s21 wx=>wx=w∧s20=.int .i64 s0∧s21=.int .i64 r0)
 case first=>
  by_cases h:mid<m
  ·have hd:decide ((mid:Int)<(m:Int))=true:=decide_eq_true (by omega)
   have e1:=es h
   have HR:=Lib.hid (hsr.1 h)
   clear es hsr hb1
   go_wp2_with fail
   go_meet
   exact ⟨rfl,rfl,by rw [HR.out.2]⟩
  ·have hd:decide ((mid:Int)<(m:Int))=false:=decide_eq_false (by omega)
   have HR:=Lib.hid (hsr.2 h)
   clear es hsr hb1
   go_wp2_with fail
   go_meet
   exact ⟨rfl,by rw [HR.out.1],by rw [HR.out.2]⟩
 case rest=>
 obtain ⟨rfl,rfl,rfl⟩:=hcut
 clear es hsr
 go_wp2_with fail
 go_loopg [20,21] (r0 - s0) (fun gg v20 v21 wr=>∃ i j:Nat,s0≤i∧i≤j∧j≤r0∧gg=j - i∧v20=.int .i64 i∧v21=.int .i64 j∧Hid (SrtW w0 g o n d wr)∧Hid (i=s0∨L (d (i - 1)) (d (nn - i)))∧Hid (j=r0∨L (d (nn - 1 - j)) (d j)))
 case atStart=>exact ⟨s0,r0,by omega,by omega,by omega,rfl,rfl,rfl,H0,Lib.hid (.inl rfl),Lib.hid (.inl rfl)⟩
 case round=>
  clear H0
  obtain ⟨i,j,hai,hij,hjb,rfl,rfl,rfl,HW,HI,HJ⟩:=hrel
  have hm1:=HM1.out
  have hnn:=HP1.out.1
  have hp:=HP1.out.2
  by_cases hlt:i<j
  ·have hlt':(i:Int)<(j:Int):=by omega
   obtain ⟨c,hc⟩:∃ c,c=(i+j) / 2:=⟨_,rfl⟩
   have hc1:((i:Int)+(j:Int)) / 2=(c:Int):=by omega
   have hc2:i≤c∧c<j:=by omega
   obtain ⟨hc3,hc4⟩:=hc2
   obtain ⟨q,hq⟩:∃ q,q=p - c:=⟨_,rfl⟩
   have eq1:(p:Int) - (c:Int)=(q:Int):=by omega
   have eq1w:IntKind.i64.wrap ((p:Int) - (c:Int))=(q:Int):=by rw [IntWalk.i64_in _ (by omega)];omega
   obtain ⟨hqm,hqm2⟩:m≤q∧q<b:=by omega
   obtain ⟨hcm,hcm2⟩:a≤c∧c<m:=by omega
   have HQ:=Lib.hid (show q=nn - 1 - c from by omega)
   have HQ2:=Lib.hid (show q=nn - (c+1) from by omega)
   have hs0c:a≤s0:=by omega
   clear hc hq hnn hp hm1
   have hpn:q<n:=by omega
   have hqn:c<n:=by omega
   have q0:∀ w',Ext wr w'→w'.cell? ⟨g,o+q*2,none⟩=some (.int .i64 (d q).1):=fun w' x=>x.cell (HW.out.m.c0 q hpn)
   have q1:∀ w',Ext wr w'→w'.cell? ⟨g,o+q*2+1,none⟩=some (.int .i64 (d q).2):=fun w' x=>x.cell (HW.out.m.c1 q hpn)
   have q2:∀ w',Ext wr w'→w'.cell? ⟨g,o+c*2,none⟩=some (.int .i64 (d c).1):=fun w' x=>x.cell (HW.out.m.c0 c hqn)
   have q3:∀ w',Ext wr w'→w'.cell? ⟨g,o+c*2+1,none⟩=some (.int .i64 (d c).2):=fun w' x=>x.cell (HW.out.m.c1 c hqn)
   have qb:∀ w',Ext wr w'→g<w'.heap.size:=fun w' x=>Nat.lt_of_lt_of_le HW.out.m.lt x.le
   have hxw:=HW.out.x
   have HCC:=Lib.hid (fun W (x:Ext w0 W)=>HC.out.go W x (d q) (d c) (HA.out q (by omega) (by omega)) (HA.out c (by omega) (by omega)))
   obtain ⟨r,hr⟩:∃ r,r=cf (d q) (d c):=⟨_,rfl⟩
   rw [←hr] at HCC
   have HR:=Lib.hid hr
   clear hr
   by_cases hneg:r<0
   ·have d2:decide (r<0)=true:=decide_eq_true hneg
    have HL:=Lib.hid (show L (d q) (d c) from HO.out.yes _ _ (HA.out c (by omega) (by omega)) (HA.out q (by omega) (by omega)) (HLX.out c q (by omega) (by omega) (by omega) (by omega)) (by rw [←HR.out];exact hneg))
    clear hneg
    go_upto_region 35 with fail
    have hg0:∀ d os,Ext w0 (Sort.grow (redrawn wr d) os):=fun d os=>hxw.trans (below_regrown wr d os)
    have hg1:∀ d os,Ext wr (Sort.grow (redrawn wr d) os):=fun d os=>below_regrown wr d os
    refine wp_region_quiet_below (by kernel_rfl) (by kernel_rfl) ?_
    repeat (go_big_quiet_step ((go_at_fn f;exact Calls.regrown_of (HCC.out _ (hg0 _ _)))))
    refine wpQuiet_nil ?_
    intro _ hw'
    obtain ⟨⟨dq,osq⟩,hw''⟩:=hw'
    subst hw''
    have hxq:=hg1 dq osq
    clear hg0 hg1
    generalize Sort.grow (redrawn wr dq) osq=w2 at hxq ⊢
    have HW2:=Lib.hid (HW.out.ext hxq)
    clear HW q0 q1 q2 q3 hxw HCC hxq
    go_wp2_with fail
    go_roundg (c - i)
    case rel=>exact ⟨i,c,hai,by omega,by omega,rfl,rfl,rfl,HW2,HI,Lib.hid (.inr (by rw [←HQ.out];exact HL.out))⟩
    case measure=>omega
   ·have d2:decide (r<0)=false:=decide_eq_false hneg
    have HL:=Lib.hid (show L (d c) (d q) from HO.out.no _ _ (HA.out c (by omega) (by omega)) (HA.out q (by omega) (by omega)) (HLX.out c q (by omega) (by omega) (by omega) (by omega)) (by rw [←HR.out];exact hneg))
    clear hneg
    go_upto_region 35 with fail
    have hg0:∀ d os,Ext w0 (Sort.grow (redrawn wr d) os):=fun d os=>hxw.trans (below_regrown wr d os)
    have hg1:∀ d os,Ext wr (Sort.grow (redrawn wr d) os):=fun d os=>below_regrown wr d os
    refine wp_region_quiet_below (by kernel_rfl) (by kernel_rfl) ?_
    repeat (go_big_quiet_step ((go_at_fn f;exact Calls.regrown_of (HCC.out _ (hg0 _ _)))))
    refine wpQuiet_nil ?_
    intro _ hw'
    obtain ⟨⟨dq,osq⟩,hw''⟩:=hw'
    subst hw''
    have hxq:=hg1 dq osq
    clear hg0 hg1
    generalize Sort.grow (redrawn wr dq) osq=w2 at hxq ⊢
    have HW2:=Lib.hid (HW.out.ext hxq)
    clear HW q0 q1 q2 q3 hxw HCC hxq
    go_wp2_with fail
    go_roundg (j - (c+1))
    case rel=>exact ⟨c+1,j,by omega,by omega,hjb,rfl,by go_num,rfl,HW2,Lib.hid (.inr (by rw [←HQ2.out];exact HL.out)),HJ⟩
    case measure=>omega
  ·obtain rfl:j=i:=by omega
   obtain ⟨s,hs⟩:∃ s,s=j:=⟨_,rfl⟩
   rw [←hs] at HI HJ
   obtain ⟨en,hen⟩:∃ en,en=nn - s:=⟨_,rfl⟩
   have ee:(nn:Int) - (j:Int)=(en:Int):=by omega
   have hse:s≤m∧s≤mid∧a≤s∧m≤en∧en≤b∧s+en=mid+m∧mid≤en:=by omega
   have HMC:=Lib.hid (merge_cut (mid:=mid) (start:=s) (en:=en) HS1.out HS2.out HO.out HA.out hse.2.2.1 hse.1 hse.2.1 hse.2.2.2.1 hse.2.2.2.2.1 hse.2.2.2.2.2.1
    (by
     rcases HI.out with h | h
     ·rcases hb1.2.2.2.2.2.1 with h2 | h2
      ·left;omega
      ·right;left;omega
     ·right;right;rw [hen];exact h)
    (by
     rcases HJ.out with h | h
     ·rcases hb1.2.2.2.2.1 with h2 | h2
      ·left;omega
      ·right;left;omega
     ·right;right;rw [hen,show nn - s - 1=nn - 1 - s by omega];exact h))
   have HML:=Lib.hid (merge_lx (start:=s) (en:=en) (mid:=mid) HLX.out hse.2.2.1 hse.1 hse.2.2.2.1 hse.2.2.2.2.1 hse.2.2.2.2.2.1)
   have HI0:=Lib.hid ((Im.rot d hse.1 hse.2.2.2.1).wide hse.2.2.1 hse.2.2.2.2.1)
   have HA0:=Lib.hid (HI0.out.all HA.out)
   obtain ⟨e0,he0⟩:∃ e0,e0=rotF d s m en:=⟨_,rfl⟩
   rw [←he0] at HMC HML HI0 HA0
   have HEQ:=Lib.hid he0
   obtain ⟨hse1,hse2,hse3,hse4,hse5,_,hse7⟩:=hse
   have ham2:a≤mid:=by omega
   have hmid2:mid≤b:=by omega
   have hNl:mid - a≤N:=by omega
   have hNr:b - mid≤N:=by omega
   have hsn:s≤1000:=by omega
   have hen2:en≤1000:=by omega
   clear hen hnn hp hm1 he0
   subst hs
   by_cases p1:s<m∧m<en
   ·have g1:decide ((s:Int)<(m:Int))=true:=decide_eq_true (by omega)
    have g1':decide (s<m)=true:=decide_eq_true (by omega)
    have g1p:(s:Int)<(m:Int):=by omega
    have g2:decide ((m:Int)<(en:Int))=true:=decide_eq_true (by omega)
    have g2':decide (m<en)=true:=decide_eq_true (by omega)
    have hc:=HSR.out wr d HW.out s m en p1.1 p1.2 (by omega)
    rw [←HEQ.out] at hc
    clear p1
    go_upto_region 41 with (go_at_call 240;refine hc.mono ?_;rintro r w3 ⟨rfl,hw3⟩;have HW0:=Lib.hid hw3;clear hc hw3 HW)
    clear g1 g1' g1p g2 g2'
    by_cases p2:a<s∧s<mid
    ·have f3:decide ((a:Int)<(s:Int))=true:=decide_eq_true (by omega)
     have f3':decide (a<s)=true:=decide_eq_true (by omega)
     have f4:decide ((s:Int)<(mid:Int))=true:=decide_eq_true (by omega)
     have f4':decide (s<mid)=true:=decide_eq_true (by omega)
     have hc:=HIH.out w3 e0 a s mid (by omega) HW0.out p2.1 p2.2 (by omega) (fun k k1 k2=>HA0.out k k1 (by omega)) HMC.out.2.1 HMC.out.2.2.1 HML.out.1
     clear p2
     go_upto_region 43 with (go_at_call 199;refine hc.mono ?_;rintro r w4 ⟨rfl,e1,hw4,hi4,hs4⟩;have HW1:=Lib.hid hw4;have HI1:=Lib.hid hi4;have HL1:=Lib.hid hs4;clear hc hw4 hi4 hs4)
     by_cases p3:mid<en∧en<b
     ·have f1:decide ((mid:Int)<(en:Int))=true:=decide_eq_true (by omega)
      have f1':decide (mid<en)=true:=decide_eq_true (by omega)
      have f2:decide ((en:Int)<(b:Int))=true:=decide_eq_true (by omega)
      have f2':decide (en<b)=true:=decide_eq_true (by omega)
      have hc:=HIH.out w4 e1 mid en b (by omega) HW1.out p3.1 p3.2 hbn (fun k k1 k2=>by rw [HI1.out.out k (by omega)];exact HA0.out k (by omega) k2)
       (HMC.out.2.2.2.1.congr fun k k1 k2=>HI1.out.out k (by omega)) (HMC.out.2.2.2.2.congr fun k k1 k2=>HI1.out.out k (by omega)) (HML.out.2.congr (fun k k1 k2=>HI1.out.out k (by omega)) (fun k k1 k2=>HI1.out.out k (by omega)))
      clear p3
      go_wp2_with fail
      go_at_call 199
      refine hc.mono ?_
      rintro r w5 ⟨rfl,e2,hw5,hi5,hs5⟩
      have HW5:=Lib.hid hw5
      have HI5:=Lib.hid hi5
      have HS5:=Lib.hid hs5
      clear hc hw5 hi5 hs5
      have HME:=Lib.hid (merge_end HMC.out.1 HI1.out HL1.out HI5.out HS5.out HI0.out (by omega) (by omega))
      go_wp2_with fail
      go_end0
      exact ⟨rfl,_,HW5.out,HME.out.1,HME.out.2⟩
     ·have HS5 := Lib.hid (show Srtd L e1 mid b from by
        rcases (show en=mid∨en=b by omega) with h | h
        ·rw [←h];exact HMC.out.2.2.2.2.congr fun k k1 k2=>HI1.out.out k (by omega)
        ·rw [←h];exact HMC.out.2.2.2.1.congr fun k k1 k2=>HI1.out.out k (by omega))
      by_cases p4:mid<en
      ·have f1:decide ((mid:Int)<(en:Int))=true:=decide_eq_true (by omega)
       have f1':decide (mid<en)=true:=decide_eq_true (by omega)
       have f2:decide ((en:Int)<(b:Int))=false:=decide_eq_false (by omega)
       have f2':decide (en<b)=false:=decide_eq_false (by omega)
       clear p3 p4
       have HME:=Lib.hid (merge_end HMC.out.1 HI1.out HL1.out (Im.refl _ _ _) HS5.out HI0.out (by omega) (by omega))
       go_wp2_with fail
       go_end0
       exact ⟨rfl,_,HW1.out,HME.out.1,HME.out.2⟩
      ·have f1:decide ((mid:Int)<(en:Int))=false:=decide_eq_false (by omega)
       have f1':decide (mid<en)=false:=decide_eq_false (by omega)
       clear p3 p4
       have HME:=Lib.hid (merge_end HMC.out.1 HI1.out HL1.out (Im.refl _ _ _) HS5.out HI0.out (by omega) (by omega))
       go_wp2_with fail
       go_end0
       exact ⟨rfl,_,HW1.out,HME.out.1,HME.out.2⟩
    ·have HL1 := Lib.hid (show Srtd L e0 a mid from by
       rcases (show s=a∨s=mid by omega) with h | h
       ·have:=HMC.out.2.2.1;rw [h] at this;exact this
       ·have:=HMC.out.2.1;rw [h] at this;exact this)
     have HI1:=Lib.hid (Im.refl e0 a mid)
     have HW1:=HW0
     obtain ⟨e1,he1⟩:∃ e1,e1=e0:=⟨_,rfl⟩
     have HL1:=Lib.hid (show Srtd L e1 a mid from by rw [he1];exact HL1.out)
     have HI1:=Lib.hid (show Im e0 e1 a mid from by rw [he1];exact HI1.out)
     have HW1:=Lib.hid (show SrtW w0 g o n e1 w3 from by rw [he1];exact HW1.out)
     clear he1
     by_cases p4:a<s
     ·have f3:decide ((a:Int)<(s:Int))=true:=decide_eq_true (by omega)
      have f3':decide (a<s)=true:=decide_eq_true (by omega)
      have f4:decide ((s:Int)<(mid:Int))=false:=decide_eq_false (by omega)
      have f4':decide (s<mid)=false:=decide_eq_false (by omega)
      clear p2 p4
      go_upto_region 43 with fail
      by_cases p3:mid<en∧en<b
      ·have f1:decide ((mid:Int)<(en:Int))=true:=decide_eq_true (by omega)
       have f1':decide (mid<en)=true:=decide_eq_true (by omega)
       have f2:decide ((en:Int)<(b:Int))=true:=decide_eq_true (by omega)
       have f2':decide (en<b)=true:=decide_eq_true (by omega)
       have hc:=HIH.out w3 e1 mid en b (by omega) HW1.out p3.1 p3.2 hbn (fun k k1 k2=>by rw [HI1.out.out k (by omega)];exact HA0.out k (by omega) k2)
        (HMC.out.2.2.2.1.congr fun k k1 k2=>HI1.out.out k (by omega)) (HMC.out.2.2.2.2.congr fun k k1 k2=>HI1.out.out k (by omega)) (HML.out.2.congr (fun k k1 k2=>HI1.out.out k (by omega)) (fun k k1 k2=>HI1.out.out k (by omega)))
       clear p3
       go_wp2_with fail
       go_at_call 199
       refine hc.mono ?_
       rintro r w5 ⟨rfl,e2,hw5,hi5,hs5⟩
       have HW5:=Lib.hid hw5
       have HI5:=Lib.hid hi5
       have HS5:=Lib.hid hs5
       clear hc hw5 hi5 hs5
       have HME:=Lib.hid (merge_end HMC.out.1 HI1.out HL1.out HI5.out HS5.out HI0.out (by omega) (by omega))
       go_wp2_with fail
       go_end0
       exact ⟨rfl,_,HW5.out,HME.out.1,HME.out.2⟩
      ·have HS5 := Lib.hid (show Srtd L e1 mid b from by
         rcases (show en=mid∨en=b by omega) with h | h
         ·rw [←h];exact HMC.out.2.2.2.2.congr fun k k1 k2=>HI1.out.out k (by omega)
         ·rw [←h];exact HMC.out.2.2.2.1.congr fun k k1 k2=>HI1.out.out k (by omega))
       by_cases p4:mid<en
       ·have f1:decide ((mid:Int)<(en:Int))=true:=decide_eq_true (by omega)
        have f1':decide (mid<en)=true:=decide_eq_true (by omega)
        have f2:decide ((en:Int)<(b:Int))=false:=decide_eq_false (by omega)
        have f2':decide (en<b)=false:=decide_eq_false (by omega)
        clear p3 p4
        have HME:=Lib.hid (merge_end HMC.out.1 HI1.out HL1.out (Im.refl _ _ _) HS5.out HI0.out (by omega) (by omega))
        go_wp2_with fail
        go_end0
        exact ⟨rfl,_,HW1.out,HME.out.1,HME.out.2⟩
       ·have f1:decide ((mid:Int)<(en:Int))=false:=decide_eq_false (by omega)
        have f1':decide (mid<en)=false:=decide_eq_false (by omega)
        clear p3 p4
        have HME:=Lib.hid (merge_end HMC.out.1 HI1.out HL1.out (Im.refl _ _ _) HS5.out HI0.out (by omega) (by omega))
        go_wp2_with fail
        go_end0
        exact ⟨rfl,_,HW1.out,HME.out.1,HME.out.2⟩
     ·have f3:decide ((a:Int)<(s:Int))=false:=decide_eq_false (by omega)
      have f3':decide (a<s)=false:=decide_eq_false (by omega)
      clear p2 p4
      go_upto_region 43 with fail
      by_cases p3:mid<en∧en<b
      ·have f1:decide ((mid:Int)<(en:Int))=true:=decide_eq_true (by omega)
       have f1':decide (mid<en)=true:=decide_eq_true (by omega)
       have f2:decide ((en:Int)<(b:Int))=true:=decide_eq_true (by omega)
       have f2':decide (en<b)=true:=decide_eq_true (by omega)
       have hc:=HIH.out w3 e1 mid en b (by omega) HW1.out p3.1 p3.2 hbn (fun k k1 k2=>by rw [HI1.out.out k (by omega)];exact HA0.out k (by omega) k2)
        (HMC.out.2.2.2.1.congr fun k k1 k2=>HI1.out.out k (by omega)) (HMC.out.2.2.2.2.congr fun k k1 k2=>HI1.out.out k (by omega)) (HML.out.2.congr (fun k k1 k2=>HI1.out.out k (by omega)) (fun k k1 k2=>HI1.out.out k (by omega)))
       clear p3
       go_wp2_with fail
       go_at_call 199
       refine hc.mono ?_
       rintro r w5 ⟨rfl,e2,hw5,hi5,hs5⟩
       have HW5:=Lib.hid hw5
       have HI5:=Lib.hid hi5
       have HS5:=Lib.hid hs5
       clear hc hw5 hi5 hs5
       have HME:=Lib.hid (merge_end HMC.out.1 HI1.out HL1.out HI5.out HS5.out HI0.out (by omega) (by omega))
       go_wp2_with fail
       go_end0
       exact ⟨rfl,_,HW5.out,HME.out.1,HME.out.2⟩
      ·have HS5 := Lib.hid (show Srtd L e1 mid b from by
         rcases (show en=mid∨en=b by omega) with h | h
         ·rw [←h];exact HMC.out.2.2.2.2.congr fun k k1 k2=>HI1.out.out k (by omega)
         ·rw [←h];exact HMC.out.2.2.2.1.congr fun k k1 k2=>HI1.out.out k (by omega))
       by_cases p4:mid<en
       ·have f1:decide ((mid:Int)<(en:Int))=true:=decide_eq_true (by omega)
        have f1':decide (mid<en)=true:=decide_eq_true (by omega)
        have f2:decide ((en:Int)<(b:Int))=false:=decide_eq_false (by omega)
        have f2':decide (en<b)=false:=decide_eq_false (by omega)
        clear p3 p4
        have HME:=Lib.hid (merge_end HMC.out.1 HI1.out HL1.out (Im.refl _ _ _) HS5.out HI0.out (by omega) (by omega))
        go_wp2_with fail
        go_end0
        exact ⟨rfl,_,HW1.out,HME.out.1,HME.out.2⟩
       ·have f1:decide ((mid:Int)<(en:Int))=false:=decide_eq_false (by omega)
        have f1':decide (mid<en)=false:=decide_eq_false (by omega)
        clear p3 p4
        have HME:=Lib.hid (merge_end HMC.out.1 HI1.out HL1.out (Im.refl _ _ _) HS5.out HI0.out (by omega) (by omega))
        go_wp2_with fail
        go_end0
        exact ⟨rfl,_,HW1.out,HME.out.1,HME.out.2⟩
   ·have HW0 := Lib.hid (show SrtW w0 g o n e0 wr from by
      rw [HEQ.out]
      rcases (show s=m∨en=m by omega) with h | h
      ·rw [h,rotF_rot0];exact HW.out
      ·rw [h,rotF_rot1];exact HW.out)
    by_cases p5:s<m
    ·have g1:decide ((s:Int)<(m:Int))=true:=decide_eq_true (by omega)
     have g1':decide (s<m)=true:=decide_eq_true (by omega)
     have g2:decide ((m:Int)<(en:Int))=false:=decide_eq_false (by omega)
     have g2':decide (m<en)=false:=decide_eq_false (by omega)
     clear p1 p5 HW
     go_upto_region 41 with fail
     clear g1 g1' g2 g2'
     by_cases p2:a<s∧s<mid
     ·have f3:decide ((a:Int)<(s:Int))=true:=decide_eq_true (by omega)
      have f3':decide (a<s)=true:=decide_eq_true (by omega)
      have f4:decide ((s:Int)<(mid:Int))=true:=decide_eq_true (by omega)
      have f4':decide (s<mid)=true:=decide_eq_true (by omega)
      have hc:=HIH.out wr e0 a s mid (by omega) HW0.out p2.1 p2.2 (by omega) (fun k k1 k2=>HA0.out k k1 (by omega)) HMC.out.2.1 HMC.out.2.2.1 HML.out.1
      clear p2
      go_upto_region 43 with (go_at_call 199;refine hc.mono ?_;rintro r w4 ⟨rfl,e1,hw4,hi4,hs4⟩;have HW1:=Lib.hid hw4;have HI1:=Lib.hid hi4;have HL1:=Lib.hid hs4;clear hc hw4 hi4 hs4)
      by_cases p3:mid<en∧en<b
      ·have f1:decide ((mid:Int)<(en:Int))=true:=decide_eq_true (by omega)
       have f1':decide (mid<en)=true:=decide_eq_true (by omega)
       have f2:decide ((en:Int)<(b:Int))=true:=decide_eq_true (by omega)
       have f2':decide (en<b)=true:=decide_eq_true (by omega)
       have hc:=HIH.out w4 e1 mid en b (by omega) HW1.out p3.1 p3.2 hbn (fun k k1 k2=>by rw [HI1.out.out k (by omega)];exact HA0.out k (by omega) k2)
        (HMC.out.2.2.2.1.congr fun k k1 k2=>HI1.out.out k (by omega)) (HMC.out.2.2.2.2.congr fun k k1 k2=>HI1.out.out k (by omega)) (HML.out.2.congr (fun k k1 k2=>HI1.out.out k (by omega)) (fun k k1 k2=>HI1.out.out k (by omega)))
       clear p3
       go_wp2_with fail
       go_at_call 199
       refine hc.mono ?_
       rintro r w5 ⟨rfl,e2,hw5,hi5,hs5⟩
       have HW5:=Lib.hid hw5
       have HI5:=Lib.hid hi5
       have HS5:=Lib.hid hs5
       clear hc hw5 hi5 hs5
       have HME:=Lib.hid (merge_end HMC.out.1 HI1.out HL1.out HI5.out HS5.out HI0.out (by omega) (by omega))
       go_wp2_with fail
       go_end0
       exact ⟨rfl,_,HW5.out,HME.out.1,HME.out.2⟩
      ·have HS5 := Lib.hid (show Srtd L e1 mid b from by
         rcases (show en=mid∨en=b by omega) with h | h
         ·rw [←h];exact HMC.out.2.2.2.2.congr fun k k1 k2=>HI1.out.out k (by omega)
         ·rw [←h];exact HMC.out.2.2.2.1.congr fun k k1 k2=>HI1.out.out k (by omega))
       by_cases p4:mid<en
       ·have f1:decide ((mid:Int)<(en:Int))=true:=decide_eq_true (by omega)
        have f1':decide (mid<en)=true:=decide_eq_true (by omega)
        have f2:decide ((en:Int)<(b:Int))=false:=decide_eq_false (by omega)
        have f2':decide (en<b)=false:=decide_eq_false (by omega)
        clear p3 p4
        have HME:=Lib.hid (merge_end HMC.out.1 HI1.out HL1.out (Im.refl _ _ _) HS5.out HI0.out (by omega) (by omega))
        go_wp2_with fail
        go_end0
        exact ⟨rfl,_,HW1.out,HME.out.1,HME.out.2⟩
       ·have f1:decide ((mid:Int)<(en:Int))=false:=decide_eq_false (by omega)
        have f1':decide (mid<en)=false:=decide_eq_false (by omega)
        clear p3 p4
        have HME:=Lib.hid (merge_end HMC.out.1 HI1.out HL1.out (Im.refl _ _ _) HS5.out HI0.out (by omega) (by omega))
        go_wp2_with fail
        go_end0
        exact ⟨rfl,_,HW1.out,HME.out.1,HME.out.2⟩
     ·have HL1 := Lib.hid (show Srtd L e0 a mid from by
        rcases (show s=a∨s=mid by omega) with h | h
        ·have:=HMC.out.2.2.1;rw [h] at this;exact this
        ·have:=HMC.out.2.1;rw [h] at this;exact this)
      have HI1:=Lib.hid (Im.refl e0 a mid)
      have HW1:=HW0
      obtain ⟨e1,he1⟩:∃ e1,e1=e0:=⟨_,rfl⟩
      have HL1:=Lib.hid (show Srtd L e1 a mid from by rw [he1];exact HL1.out)
      have HI1:=Lib.hid (show Im e0 e1 a mid from by rw [he1];exact HI1.out)
      have HW1:=Lib.hid (show SrtW w0 g o n e1 wr from by rw [he1];exact HW1.out)
      clear he1
      by_cases p4:a<s
      ·have f3:decide ((a:Int)<(s:Int))=true:=decide_eq_true (by omega)
       have f3':decide (a<s)=true:=decide_eq_true (by omega)
       have f4:decide ((s:Int)<(mid:Int))=false:=decide_eq_false (by omega)
       have f4':decide (s<mid)=false:=decide_eq_false (by omega)
       clear p2 p4
       go_upto_region 43 with fail
       by_cases p3:mid<en∧en<b
       ·have f1:decide ((mid:Int)<(en:Int))=true:=decide_eq_true (by omega)
        have f1':decide (mid<en)=true:=decide_eq_true (by omega)
        have f2:decide ((en:Int)<(b:Int))=true:=decide_eq_true (by omega)
        have f2':decide (en<b)=true:=decide_eq_true (by omega)
        have hc:=HIH.out wr e1 mid en b (by omega) HW1.out p3.1 p3.2 hbn (fun k k1 k2=>by rw [HI1.out.out k (by omega)];exact HA0.out k (by omega) k2)
         (HMC.out.2.2.2.1.congr fun k k1 k2=>HI1.out.out k (by omega)) (HMC.out.2.2.2.2.congr fun k k1 k2=>HI1.out.out k (by omega)) (HML.out.2.congr (fun k k1 k2=>HI1.out.out k (by omega)) (fun k k1 k2=>HI1.out.out k (by omega)))
        clear p3
        go_wp2_with fail
        go_at_call 199
        refine hc.mono ?_
        rintro r w5 ⟨rfl,e2,hw5,hi5,hs5⟩
        have HW5:=Lib.hid hw5
        have HI5:=Lib.hid hi5
        have HS5:=Lib.hid hs5
        clear hc hw5 hi5 hs5
        have HME:=Lib.hid (merge_end HMC.out.1 HI1.out HL1.out HI5.out HS5.out HI0.out (by omega) (by omega))
        go_wp2_with fail
        go_end0
        exact ⟨rfl,_,HW5.out,HME.out.1,HME.out.2⟩
       ·have HS5 := Lib.hid (show Srtd L e1 mid b from by
          rcases (show en=mid∨en=b by omega) with h | h
          ·rw [←h];exact HMC.out.2.2.2.2.congr fun k k1 k2=>HI1.out.out k (by omega)
          ·rw [←h];exact HMC.out.2.2.2.1.congr fun k k1 k2=>HI1.out.out k (by omega))
        by_cases p4:mid<en
        ·have f1:decide ((mid:Int)<(en:Int))=true:=decide_eq_true (by omega)
         have f1':decide (mid<en)=true:=decide_eq_true (by omega)
         have f2:decide ((en:Int)<(b:Int))=false:=decide_eq_false (by omega)
         have f2':decide (en<b)=false:=decide_eq_false (by omega)
         clear p3 p4
         have HME:=Lib.hid (merge_end HMC.out.1 HI1.out HL1.out (Im.refl _ _ _) HS5.out HI0.out (by omega) (by omega))
         go_wp2_with fail
         go_end0
         exact ⟨rfl,_,HW1.out,HME.out.1,HME.out.2⟩
        ·have f1:decide ((mid:Int)<(en:Int))=false:=decide_eq_false (by omega)
         have f1':decide (mid<en)=false:=decide_eq_false (by omega)
         clear p3 p4
         have HME:=Lib.hid (merge_end HMC.out.1 HI1.out HL1.out (Im.refl _ _ _) HS5.out HI0.out (by omega) (by omega))
         go_wp2_with fail
         go_end0
         exact ⟨rfl,_,HW1.out,HME.out.1,HME.out.2⟩
      ·have f3:decide ((a:Int)<(s:Int))=false:=decide_eq_false (by omega)
       have f3':decide (a<s)=false:=decide_eq_false (by omega)
       clear p2 p4
       go_upto_region 43 with fail
       by_cases p3:mid<en∧en<b
       ·have f1:decide ((mid:Int)<(en:Int))=true:=decide_eq_true (by omega)
        have f1':decide (mid<en)=true:=decide_eq_true (by omega)
        have f2:decide ((en:Int)<(b:Int))=true:=decide_eq_true (by omega)
        have f2':decide (en<b)=true:=decide_eq_true (by omega)
        have hc:=HIH.out wr e1 mid en b (by omega) HW1.out p3.1 p3.2 hbn (fun k k1 k2=>by rw [HI1.out.out k (by omega)];exact HA0.out k (by omega) k2)
         (HMC.out.2.2.2.1.congr fun k k1 k2=>HI1.out.out k (by omega)) (HMC.out.2.2.2.2.congr fun k k1 k2=>HI1.out.out k (by omega)) (HML.out.2.congr (fun k k1 k2=>HI1.out.out k (by omega)) (fun k k1 k2=>HI1.out.out k (by omega)))
        clear p3
        go_wp2_with fail
        go_at_call 199
        refine hc.mono ?_
        rintro r w5 ⟨rfl,e2,hw5,hi5,hs5⟩
        have HW5:=Lib.hid hw5
        have HI5:=Lib.hid hi5
        have HS5:=Lib.hid hs5
        clear hc hw5 hi5 hs5
        have HME:=Lib.hid (merge_end HMC.out.1 HI1.out HL1.out HI5.out HS5.out HI0.out (by omega) (by omega))
        go_wp2_with fail
        go_end0
        exact ⟨rfl,_,HW5.out,HME.out.1,HME.out.2⟩
       ·have HS5 := Lib.hid (show Srtd L e1 mid b from by
          rcases (show en=mid∨en=b by omega) with h | h
          ·rw [←h];exact HMC.out.2.2.2.2.congr fun k k1 k2=>HI1.out.out k (by omega)
          ·rw [←h];exact HMC.out.2.2.2.1.congr fun k k1 k2=>HI1.out.out k (by omega))
        by_cases p4:mid<en
        ·have f1:decide ((mid:Int)<(en:Int))=true:=decide_eq_true (by omega)
         have f1':decide (mid<en)=true:=decide_eq_true (by omega)
         have f2:decide ((en:Int)<(b:Int))=false:=decide_eq_false (by omega)
         have f2':decide (en<b)=false:=decide_eq_false (by omega)
         clear p3 p4
         have HME:=Lib.hid (merge_end HMC.out.1 HI1.out HL1.out (Im.refl _ _ _) HS5.out HI0.out (by omega) (by omega))
         go_wp2_with fail
         go_end0
         exact ⟨rfl,_,HW1.out,HME.out.1,HME.out.2⟩
        ·have f1:decide ((mid:Int)<(en:Int))=false:=decide_eq_false (by omega)
         have f1':decide (mid<en)=false:=decide_eq_false (by omega)
         clear p3 p4
         have HME:=Lib.hid (merge_end HMC.out.1 HI1.out HL1.out (Im.refl _ _ _) HS5.out HI0.out (by omega) (by omega))
         go_wp2_with fail
         go_end0
         exact ⟨rfl,_,HW1.out,HME.out.1,HME.out.2⟩
    ·have g1:decide ((s:Int)<(m:Int))=false:=decide_eq_false (by omega)
     have g1':decide (s<m)=false:=decide_eq_false (by omega)
     clear p1 p5 HW
     go_upto_region 41 with fail
     clear g1 g1'
     by_cases p2:a<s∧s<mid
     ·have f3:decide ((a:Int)<(s:Int))=true:=decide_eq_true (by omega)
      have f3':decide (a<s)=true:=decide_eq_true (by omega)
      have f4:decide ((s:Int)<(mid:Int))=true:=decide_eq_true (by omega)
      have f4':decide (s<mid)=true:=decide_eq_true (by omega)
      have hc:=HIH.out wr e0 a s mid (by omega) HW0.out p2.1 p2.2 (by omega) (fun k k1 k2=>HA0.out k k1 (by omega)) HMC.out.2.1 HMC.out.2.2.1 HML.out.1
      clear p2
      go_upto_region 43 with (go_at_call 199;refine hc.mono ?_;rintro r w4 ⟨rfl,e1,hw4,hi4,hs4⟩;have HW1:=Lib.hid hw4;have HI1:=Lib.hid hi4;have HL1:=Lib.hid hs4;clear hc hw4 hi4 hs4)
      by_cases p3:mid<en∧en<b
      ·have f1:decide ((mid:Int)<(en:Int))=true:=decide_eq_true (by omega)
       have f1':decide (mid<en)=true:=decide_eq_true (by omega)
       have f2:decide ((en:Int)<(b:Int))=true:=decide_eq_true (by omega)
       have f2':decide (en<b)=true:=decide_eq_true (by omega)
       have hc:=HIH.out w4 e1 mid en b (by omega) HW1.out p3.1 p3.2 hbn (fun k k1 k2=>by rw [HI1.out.out k (by omega)];exact HA0.out k (by omega) k2)
        (HMC.out.2.2.2.1.congr fun k k1 k2=>HI1.out.out k (by omega)) (HMC.out.2.2.2.2.congr fun k k1 k2=>HI1.out.out k (by omega)) (HML.out.2.congr (fun k k1 k2=>HI1.out.out k (by omega)) (fun k k1 k2=>HI1.out.out k (by omega)))
       clear p3
       go_wp2_with fail
       go_at_call 199
       refine hc.mono ?_
       rintro r w5 ⟨rfl,e2,hw5,hi5,hs5⟩
       have HW5:=Lib.hid hw5
       have HI5:=Lib.hid hi5
       have HS5:=Lib.hid hs5
       clear hc hw5 hi5 hs5
       have HME:=Lib.hid (merge_end HMC.out.1 HI1.out HL1.out HI5.out HS5.out HI0.out (by omega) (by omega))
       go_wp2_with fail
       go_end0
       exact ⟨rfl,_,HW5.out,HME.out.1,HME.out.2⟩
      ·have HS5 := Lib.hid (show Srtd L e1 mid b from by
         rcases (show en=mid∨en=b by omega) with h | h
         ·rw [←h];exact HMC.out.2.2.2.2.congr fun k k1 k2=>HI1.out.out k (by omega)
         ·rw [←h];exact HMC.out.2.2.2.1.congr fun k k1 k2=>HI1.out.out k (by omega))
       by_cases p4:mid<en
       ·have f1:decide ((mid:Int)<(en:Int))=true:=decide_eq_true (by omega)
        have f1':decide (mid<en)=true:=decide_eq_true (by omega)
        have f2:decide ((en:Int)<(b:Int))=false:=decide_eq_false (by omega)
        have f2':decide (en<b)=false:=decide_eq_false (by omega)
        clear p3 p4
        have HME:=Lib.hid (merge_end HMC.out.1 HI1.out HL1.out (Im.refl _ _ _) HS5.out HI0.out (by omega) (by omega))
        go_wp2_with fail
        go_end0
        exact ⟨rfl,_,HW1.out,HME.out.1,HME.out.2⟩
       ·have f1:decide ((mid:Int)<(en:Int))=false:=decide_eq_false (by omega)
        have f1':decide (mid<en)=false:=decide_eq_false (by omega)
        clear p3 p4
        have HME:=Lib.hid (merge_end HMC.out.1 HI1.out HL1.out (Im.refl _ _ _) HS5.out HI0.out (by omega) (by omega))
        go_wp2_with fail
        go_end0
        exact ⟨rfl,_,HW1.out,HME.out.1,HME.out.2⟩
     ·have HL1 := Lib.hid (show Srtd L e0 a mid from by
        rcases (show s=a∨s=mid by omega) with h | h
        ·have:=HMC.out.2.2.1;rw [h] at this;exact this
        ·have:=HMC.out.2.1;rw [h] at this;exact this)
      have HI1:=Lib.hid (Im.refl e0 a mid)
      have HW1:=HW0
      obtain ⟨e1,he1⟩:∃ e1,e1=e0:=⟨_,rfl⟩
      have HL1:=Lib.hid (show Srtd L e1 a mid from by rw [he1];exact HL1.out)
      have HI1:=Lib.hid (show Im e0 e1 a mid from by rw [he1];exact HI1.out)
      have HW1:=Lib.hid (show SrtW w0 g o n e1 wr from by rw [he1];exact HW1.out)
      clear he1
      by_cases p4:a<s
      ·have f3:decide ((a:Int)<(s:Int))=true:=decide_eq_true (by omega)
       have f3':decide (a<s)=true:=decide_eq_true (by omega)
       have f4:decide ((s:Int)<(mid:Int))=false:=decide_eq_false (by omega)
       have f4':decide (s<mid)=false:=decide_eq_false (by omega)
       clear p2 p4
       go_upto_region 43 with fail
       by_cases p3:mid<en∧en<b
       ·have f1:decide ((mid:Int)<(en:Int))=true:=decide_eq_true (by omega)
        have f1':decide (mid<en)=true:=decide_eq_true (by omega)
        have f2:decide ((en:Int)<(b:Int))=true:=decide_eq_true (by omega)
        have f2':decide (en<b)=true:=decide_eq_true (by omega)
        have hc:=HIH.out wr e1 mid en b (by omega) HW1.out p3.1 p3.2 hbn (fun k k1 k2=>by rw [HI1.out.out k (by omega)];exact HA0.out k (by omega) k2)
         (HMC.out.2.2.2.1.congr fun k k1 k2=>HI1.out.out k (by omega)) (HMC.out.2.2.2.2.congr fun k k1 k2=>HI1.out.out k (by omega)) (HML.out.2.congr (fun k k1 k2=>HI1.out.out k (by omega)) (fun k k1 k2=>HI1.out.out k (by omega)))
        clear p3
        go_wp2_with fail
        go_at_call 199
        refine hc.mono ?_
        rintro r w5 ⟨rfl,e2,hw5,hi5,hs5⟩
        have HW5:=Lib.hid hw5
        have HI5:=Lib.hid hi5
        have HS5:=Lib.hid hs5
        clear hc hw5 hi5 hs5
        have HME:=Lib.hid (merge_end HMC.out.1 HI1.out HL1.out HI5.out HS5.out HI0.out (by omega) (by omega))
        go_wp2_with fail
        go_end0
        exact ⟨rfl,_,HW5.out,HME.out.1,HME.out.2⟩
       ·have HS5 := Lib.hid (show Srtd L e1 mid b from by
          rcases (show en=mid∨en=b by omega) with h | h
          ·rw [←h];exact HMC.out.2.2.2.2.congr fun k k1 k2=>HI1.out.out k (by omega)
          ·rw [←h];exact HMC.out.2.2.2.1.congr fun k k1 k2=>HI1.out.out k (by omega))
        by_cases p4:mid<en
        ·have f1:decide ((mid:Int)<(en:Int))=true:=decide_eq_true (by omega)
         have f1':decide (mid<en)=true:=decide_eq_true (by omega)
         have f2:decide ((en:Int)<(b:Int))=false:=decide_eq_false (by omega)
         have f2':decide (en<b)=false:=decide_eq_false (by omega)
         clear p3 p4
         have HME:=Lib.hid (merge_end HMC.out.1 HI1.out HL1.out (Im.refl _ _ _) HS5.out HI0.out (by omega) (by omega))
         go_wp2_with fail
         go_end0
         exact ⟨rfl,_,HW1.out,HME.out.1,HME.out.2⟩
        ·have f1:decide ((mid:Int)<(en:Int))=false:=decide_eq_false (by omega)
         have f1':decide (mid<en)=false:=decide_eq_false (by omega)
         clear p3 p4
         have HME:=Lib.hid (merge_end HMC.out.1 HI1.out HL1.out (Im.refl _ _ _) HS5.out HI0.out (by omega) (by omega))
         go_wp2_with fail
         go_end0
         exact ⟨rfl,_,HW1.out,HME.out.1,HME.out.2⟩
      ·have f3:decide ((a:Int)<(s:Int))=false:=decide_eq_false (by omega)
       have f3':decide (a<s)=false:=decide_eq_false (by omega)
       clear p2 p4
       go_upto_region 43 with fail
       by_cases p3:mid<en∧en<b
       ·have f1:decide ((mid:Int)<(en:Int))=true:=decide_eq_true (by omega)
        have f1':decide (mid<en)=true:=decide_eq_true (by omega)
        have f2:decide ((en:Int)<(b:Int))=true:=decide_eq_true (by omega)
        have f2':decide (en<b)=true:=decide_eq_true (by omega)
        have hc:=HIH.out wr e1 mid en b (by omega) HW1.out p3.1 p3.2 hbn (fun k k1 k2=>by rw [HI1.out.out k (by omega)];exact HA0.out k (by omega) k2)
         (HMC.out.2.2.2.1.congr fun k k1 k2=>HI1.out.out k (by omega)) (HMC.out.2.2.2.2.congr fun k k1 k2=>HI1.out.out k (by omega)) (HML.out.2.congr (fun k k1 k2=>HI1.out.out k (by omega)) (fun k k1 k2=>HI1.out.out k (by omega)))
        clear p3
        go_wp2_with fail
        go_at_call 199
        refine hc.mono ?_
        rintro r w5 ⟨rfl,e2,hw5,hi5,hs5⟩
        have HW5:=Lib.hid hw5
        have HI5:=Lib.hid hi5
        have HS5:=Lib.hid hs5
        clear hc hw5 hi5 hs5
        have HME:=Lib.hid (merge_end HMC.out.1 HI1.out HL1.out HI5.out HS5.out HI0.out (by omega) (by omega))
        go_wp2_with fail
        go_end0
        exact ⟨rfl,_,HW5.out,HME.out.1,HME.out.2⟩
       ·have HS5 := Lib.hid (show Srtd L e1 mid b from by
          rcases (show en=mid∨en=b by omega) with h | h
          ·rw [←h];exact HMC.out.2.2.2.2.congr fun k k1 k2=>HI1.out.out k (by omega)
          ·rw [←h];exact HMC.out.2.2.2.1.congr fun k k1 k2=>HI1.out.out k (by omega))
        by_cases p4:mid<en
        ·have f1:decide ((mid:Int)<(en:Int))=true:=decide_eq_true (by omega)
         have f1':decide (mid<en)=true:=decide_eq_true (by omega)
         have f2:decide ((en:Int)<(b:Int))=false:=decide_eq_false (by omega)
         have f2':decide (en<b)=false:=decide_eq_false (by omega)
         clear p3 p4
         have HME:=Lib.hid (merge_end HMC.out.1 HI1.out HL1.out (Im.refl _ _ _) HS5.out HI0.out (by omega) (by omega))
         go_wp2_with fail
         go_end0
         exact ⟨rfl,_,HW1.out,HME.out.1,HME.out.2⟩
        ·have f1:decide ((mid:Int)<(en:Int))=false:=decide_eq_false (by omega)
         have f1':decide (mid<en)=false:=decide_eq_false (by omega)
         clear p3 p4
         have HME:=Lib.hid (merge_end HMC.out.1 HI1.out HL1.out (Im.refl _ _ _) HS5.out HI0.out (by omega) (by omega))
         go_wp2_with fail
         go_end0
         exact ⟨rfl,_,HW1.out,HME.out.1,HME.out.2⟩
theorem symC_any (w0 : World) (g o n cap : Nat) (hg : w0.heap.size ≤ g) (hn : n ≤ 1000) {f : Nat} {lb : Array Value} {A : EvE → Prop} {cf : EvE → EvE → Int} {L lx : EvE → EvE → Prop} (C : CmpE w0 f lb A cf) (O : OrdE A cf L lx) :
    ∀ (N:Nat) (w:World) (d:Nat→EvE) (a m b:Nat),b - a≤N→SrtW w0 g o n d w→a<m→m<b→b≤n→(∀ k,a≤k→k<b→A (d k))→Srtd L d a m→Srtd L d m b→Bef2 lx d a m m b→
     Calls Tryz.prog 199 #[.slice (some ⟨g,o,none⟩) n cap,.int .i64 (a:Int),.int .i64 (m:Int),.int .i64 (b:Int),.func (.func f) #[] lb] w (SrtPost w0 g o n a b L d)
 | 0,_,_,_,_,_,hN,_,ham,hmb,_,_,_,_,_ => absurd hN (by omega)
 | N+1,w,d,a,m,b,hN,h,ham,hmb,hbn,hA,hs1,hs2,hlx => by
  by_cases h1:m=a+1
  ·exact symC_first w0 g o n cap hg hn C O w d a m b h ham hmb hbn hA hs1 hs2 hlx h1
  ·by_cases h2:b=m+1
   ·exact symC_last w0 g o n cap hg hn C O w d a m b h ham hmb hbn hA hs1 hs2 hlx h1 h2
   ·exact symC_gen w0 g o n cap hg hn C O w d a m b h ham hmb hbn hA hs1 hs2 hlx h1 h2 hN (symC_any w0 g o n cap hg hn C O N)
set_option maxHeartbeats 1000000 in
theorem insertC_none (w : World) (ao : Option Addr) (n cap a : Nat) (ha : a ≤ 1000) (fv : Value) :
    Calls Tryz.prog 198 #[.slice ao n cap,.int .i64 (a:Int),.int .i64 (a:Int),fv] w fun e w'=>e=.returned (.tuple #[])∧w=w':=by
 have haw:IntKind.i64.wrap ((a:Int)+1)=(a:Int)+1:=by rw [IntWalk.i64_in _ (by omega)]
 have hd:decide ((a:Int)+1<(a:Int))=false:=decide_eq_false (by omega)
 have hd2:decide (a+1<a)=false:=decide_eq_false (by omega)
 have hd3:¬(a:Int)+1<(a:Int):=by omega
 go_enter Tryz.func198,Tryz.ntmps198
 go_wp2_with fail
 refine wp_loop_rounds 1 ?_
 rw [rounds_succ]
 go_wp2_with fail
 go_end0
 exact ⟨rfl,rfl⟩
theorem insC_any (w0 w : World) (g o n cap : Nat) (d : Nat → EvE) (hg : w0.heap.size ≤ g) (h : SrtW w0 g o n d w) (a b : Nat) (hab : a ≤ b) (hb : b ≤ n) (hn : n ≤ 1000)
    {f:Nat} {lb:Array Value} {A:EvE→Prop} {cf:EvE→EvE→Int} {L lx:EvE→EvE→Prop} (C:CmpE w0 f lb A cf) (O:OrdE A cf L lx) (hA:∀ k,a≤k→k<b→A (d k)) (hlx:Srtd lx d a b) :
    Calls Tryz.prog 198 #[.slice (some ⟨g,o,none⟩) n cap,.int .i64 (a:Int),.int .i64 (b:Int),.func (.func f) #[] lb] w (SrtPost w0 g o n a b L d):=by
 by_cases e:a<b
 ·exact insertC_any w0 w g o n cap d hg h a b e hb hn C O hA hlx
 ·obtain rfl:a=b:=by omega
  refine (insertC_none w _ n cap a (by omega) _).mono ?_
  rintro r w' ⟨rfl,rfl⟩
  exact ⟨rfl,d,h,Im.refl _ _ _,fun i j h1 h2 h3=>by omega⟩
set_option maxHeartbeats 4000000 in
theorem stable_any (w0 w : World) (g o n cap : Nat) (d : Nat → EvE) (hg : w0.heap.size ≤ g) (h : SrtW w0 g o n d w) (hn : n ≤ 39)
    {f:Nat} {lb:Array Value} {A:EvE→Prop} {cf:EvE→EvE→Int} {L lx:EvE→EvE→Prop} (C:CmpE w0 f lb A cf) (O:OrdE A cf L lx) (hA:∀ k,k<n→A (d k)) (hlx:Srtd lx d 0 n) :
    Calls Tryz.prog 153 #[.slice (some ⟨g,o,none⟩) n cap,.int .i64 (n:Int),.func (.func f) #[] lb] w (SrtPost w0 g o n 0 n L d):=by
 by_cases h20:n<20
 ·have hc : Calls Tryz.prog 198 #[.slice (some ⟨g, o, none⟩) n cap, .int .i64 0, .int .i64 (n : Int), .func (.func f) #[] lb] w (SrtPost w0 g o n 0 n L d) :=
    insC_any w0 w g o n cap d hg h 0 n (by omega) (Nat.le_refl _) (by omega) C O (fun k _ hk=>hA k hk) hlx
  have HC:=Lib.hid hc
  have d1:decide ((20:Int)≤(n:Int))=false:=decide_eq_false (by omega)
  have d1':decide (20≤n)=false:=decide_eq_false (by omega)
  have d2:decide ((20:Int)<(n:Int))=false:=decide_eq_false (by omega)
  have d2':decide (20<n)=false:=decide_eq_false (by omega)
  clear hc h C O hA hlx
  go_enter Tryz.func153,Tryz.ntmps153
  go_wp2_with fail
  refine wp_loop_rounds 1 ?_
  rw [rounds_succ]
  go_wp2_with fail
  go_at_call 198
  refine HC.out.mono ?_
  rintro r w2 ⟨rfl,e2,h1,h2,h3⟩
  have HF:=Lib.hid (And.intro h1 (And.intro h2 h3))
  clear h1 h2 h3 HC
  go_wp2_with fail
  refine wp_loop_rounds 1 ?_
  rw [rounds_succ]
  go_wp2_with fail
  go_end0
  exact ⟨rfl,e2,HF.out.1,HF.out.2.1,HF.out.2.2⟩
 ·have HC := Lib.hid (show Calls Tryz.prog 198 #[.slice (some ⟨g, o, none⟩) n cap, .int .i64 0, .int .i64 20, .func (.func f) #[] lb] w (SrtPost w0 g o n 0 20 L d) from
    insC_any w0 w g o n cap d hg h 0 20 (by omega) (by omega) (by omega) C O (fun k _ hk=>hA k (by omega)) (fun i j h1 h2 h3=>hlx i j h1 h2 (by omega)))
  have HC2:=Lib.hid (fun (W:World) (d1:Nat→EvE) (H:SrtW w0 g o n d1 W) (I:Im d d1 0 20)=>(show Calls Tryz.prog 198 #[.slice (some ⟨g,o,none⟩) n cap,.int .i64 20,.int .i64 (n:Int),.func (.func f) #[] lb] W (SrtPost w0 g o n 20 n L d1) from
   insC_any w0 W g o n cap d1 hg H 20 n (by omega) (Nat.le_refl _) (by omega) C O (fun k k1 k2=>by rw [I.out k (by omega)];exact hA k k2) ((show Srtd lx d 20 n from fun i j h1 h2 h3=>hlx i j (by omega) h2 h3).congr fun k k1 _=>I.out k (by omega))))
  have HC3:=Lib.hid (fun (hlt:20<n) (W:World) (d1 d2:Nat→EvE) (H:SrtW w0 g o n d2 W) (I:Im d d1 0 20) (S:Srtd L d1 0 20) (I2:Im d1 d2 20 n) (S2:Srtd L d2 20 n)=>(show Calls Tryz.prog 199 #[.slice (some ⟨g,o,none⟩) n cap,.int .i64 0,.int .i64 20,.int .i64 (n:Int),.func (.func f) #[] lb] W (SrtPost w0 g o n 0 n L d2) from
   symC_any w0 g o n cap hg (by omega) C O n W d2 0 20 n (by omega) H (by omega) hlt (Nat.le_refl _) (((I.wide (Nat.le_refl _) (by omega)).trans (I2.wide (by omega) (Nat.le_refl _))).all fun k _ hk=>hA k hk) (S.congr fun k _ hk=>I2.out k (by omega)) S2
    (((show Bef2 lx d 0 20 20 n from fun i j h1 h2 h3 h4=>hlx i j h1 (by omega) h4).im I (Nat.le_refl _)).im2 I2 (Nat.le_refl _))))
  have d1:decide ((20:Int)≤(n:Int))=true:=decide_eq_true (by omega)
  have d1':decide (20≤n)=true:=decide_eq_true (by omega)
  have d3:decide ((40:Int)≤(n:Int))=false:=decide_eq_false (by omega)
  have d3':decide (40≤n)=false:=decide_eq_false (by omega)
  clear h C O hA hlx
  go_enter Tryz.func153,Tryz.ntmps153
  go_wp2_with fail
  refine wp_loop_rounds 2 ?_
  rw [rounds_succ]
  go_wp2_with fail
  go_at_call 198
  refine HC.out.mono ?_
  rintro r w2 ⟨rfl,e2,h1,h2,h3⟩
  have HF:=Lib.hid (And.intro h1 (And.intro h2 h3))
  have HC2:=Lib.hid (HC2.out w2 e2 h1 h2)
  clear h1 h2 h3 HC
  go_wp2_with fail
  rw [rounds_succ]
  go_wp2_with fail
  go_at_call 198
  refine HC2.out.mono ?_
  rintro r w3 ⟨rfl,e3,h1,h2,h3⟩
  have HF3:=Lib.hid (And.intro h1 (And.intro h2 h3))
  clear h1 h2 h3 HC2
  by_cases hlt:20<n
  ·have HC3:=Lib.hid (HC3.out hlt w3 e2 e3 HF3.out.1 HF.out.2.1 HF.out.2.2 HF3.out.2.1 HF3.out.2.2)
   have d2:decide ((20:Int)<(n:Int))=true:=decide_eq_true (by omega)
   have d2':decide (20<n)=true:=decide_eq_true (by omega)
   have d4:decide ((40:Int)<(n:Int))=false:=decide_eq_false (by omega)
   have d4':decide (40<n)=false:=decide_eq_false (by omega)
   go_wp2_with fail
   refine wp_loop_rounds 2 ?_
   rw [rounds_succ]
   go_wp2_with fail
   refine wp_loop_rounds 1 ?_
   rw [rounds_succ]
   go_wp2_with fail
   go_at_call 199
   refine HC3.out.mono ?_
   rintro r w4 ⟨rfl,e4,h1,h2,h3⟩
   have HF4:=Lib.hid (And.intro h1 (And.intro h2 h3))
   clear h1 h2 h3 HC3
   go_wp2_with fail
   rw [rounds_succ]
   go_wp2_with fail
   go_end0
   exact ⟨rfl,e4,HF4.out.1,((HF.out.2.1.wide (Nat.le_refl _) (by omega)).trans (HF3.out.2.1.wide (by omega) (Nat.le_refl _))).trans HF4.out.2.1,HF4.out.2.2⟩
  ·obtain rfl:n=20:=by omega
   clear HC3
   go_wp2_with fail
   refine wp_loop_rounds 1 ?_
   rw [rounds_succ]
   go_wp2_with fail
   go_end0
   exact ⟨rfl,e3,HF3.out.1,HF.out.2.1.trans (HF3.out.2.1.wide (by omega) (Nat.le_refl _)),HF.out.2.2.congr fun k _ hk=>HF3.out.2.1.out k (by omega)⟩
set_option maxHeartbeats 1000000 in
theorem sortS_any (w0 w : World) (g o n cap : Nat) (d : Nat → EvE) (hg : w0.heap.size ≤ g) (h : SrtW w0 g o n d w) (hn : n ≤ 39)
    {f:Nat} {lb:Array Value} {A:EvE→Prop} {cf:EvE→EvE→Int} {L lx:EvE→EvE→Prop} (C:CmpE w0 f lb A cf) (O:OrdE A cf L lx) (hA:∀ k,k<n→A (d k)) (hlx:Srtd lx d 0 n) :
    Calls Tryz.prog 113 #[.slice (some ⟨g,o,none⟩) n cap,.func (.func f) #[] lb] w (SrtPost w0 g o n 0 n L d):=by
 have HC:=Lib.hid (stable_any w0 w g o n cap d hg h hn C O hA hlx)
 clear h C O hA hlx
 go_enter Tryz.func113,Tryz.ntmps113
 go_wp2_with fail
 go_at_call 153
 refine HC.out.mono ?_
 rintro r w2 ⟨rfl,h1⟩
 have HF:=Lib.hid h1
 clear h1 HC
 go_wp2_with fail
 go_end0
 exact ⟨rfl,HF.out⟩
theorem sortS_none (w : World) (ao : Option Addr) (cap : Nat) (fv : Value) :
    Calls Tryz.prog 113 #[.slice ao 0 cap,fv] w fun e w'=>e=.returned (.tuple #[])∧w=w':=by
 have hc:Calls Tryz.prog 153 #[.slice ao 0 cap,.int .i64 0,fv] w fun e w'=>e=.returned (.tuple #[])∧w=w':=by
  have hi:Calls Tryz.prog 198 #[.slice ao 0 cap,.int .i64 0,.int .i64 0,fv] w fun e w'=>e=.returned (.tuple #[])∧w=w':=insertC_none w ao 0 cap 0 (by omega) fv
  have HI:=Lib.hid hi
  clear hi
  go_enter Tryz.func153,Tryz.ntmps153
  go_wp2_with fail
  refine wp_loop_rounds 1 ?_
  rw [rounds_succ]
  go_wp2_with fail
  go_at_call 198
  refine HI.out.mono ?_
  rintro r w2 ⟨rfl,rfl⟩
  go_wp2_with fail
  refine wp_loop_rounds 1 ?_
  rw [rounds_succ]
  go_wp2_with fail
  go_end0
  exact ⟨rfl,rfl⟩
 have HC:=Lib.hid hc
 clear hc
 go_enter Tryz.func113,Tryz.ntmps113
 go_wp2_with fail
 go_at_call 153
 refine HC.out.mono ?_
 rintro r w2 ⟨rfl,rfl⟩
 go_wp2_with fail
 go_end0
 exact ⟨rfl,rfl⟩
def ownP (u:Nat→Int) (p m:Nat):List EvE:=(List.range m).map fun (k:Nat)=>((p:Int),u p+1+(k:Int))
theorem ownP_succ (u:Nat→Int) (p m:Nat):ownP u p (m+1)=ownP u p m++[((p:Int),u p+1+(m:Int))]:=by simp [ownP,List.range_succ]
theorem ownP_len (u:Nat→Int) (p m:Nat):(ownP u p m).length=m:=by simp [ownP]
def ownL (u v:Nat→Int):Nat→List EvE
 | 0 => []
 | n+1 => ownL u v n++ownP u n (v n - u n).toNat
theorem ownL_len {u v:Nat→Int} {c:Nat}:∀ {n:Nat},(∀ p,p<n→v p - u p≤c)→(ownL u v n).length≤n*c
 | 0,_ => by simp [ownL]
 | n+1,h => by
  have h1:=ownL_len (n:=n) fun p hp=>h p (by omega)
  have h2:=h n (by omega)
  unfold ownL
  rw [List.length_append,ownP_len,Nat.succ_mul];omega
def OwnPost (u v:Nat→Int) (n:Nat) (w:World) (e:Ending) (w':World):Prop:=Ext w w'∧∃ a c,e=.returned (.slice a (ownL u v n).length c)∧Que w' w.heap.size 2 (.slice a (ownL u v n).length c) (ownL u v n).length (evCells (ownL u v n))
set_option maxHeartbeats 2000000 in
theorem own_any (w : World) (a1 a2 : Option Addr) (g1 o1 g2 o2 n c1 c2 : Nat) (u v : Nat → Int) (h1 : NumAt w n a1 g1 o1 u) (h2 : NumAt w n a2 g2 o2 v) (hn : n ≤ 100) (hb : ∀ p, p < n → 0 ≤ u p ∧ u p ≤ 1000 ∧ v p ≤ 1000) :
    Calls Tryz.prog 51 #[.slice a1 n c1,.slice a2 n c2] w (OwnPost u v n w):=by
 obtain ⟨j0,hj0,hy0,hy1,hy2⟩:=info_parts infoEv
 have HB:=Lib.hid hb
 have HLN:=Lib.hid (show ∀ k,k≤n→(ownL u v k).length≤100000 from fun k hk=>by
  have h1:=ownL_len (u:=u) (v:=v) (c:=1000) (n:=k) fun p hp=>by have:=hb p (by omega);omega
  have h2:k*1000≤100*1000:=Nat.mul_le_mul_right _ (by omega)
  omega)
 have H1:=Lib.hid h1
 have H2:=Lib.hid h2
 have HB0:=Lib.hid (Nat.le_refl w.heap.size)
 have hww:=Ext.refl w
 unfold OwnPost
 clear h1 h2 hb
 go_enter Tryz.func51,Tryz.ntmps51
 go_wp2_with fail
 go_loopg [5,10] n (fun gg v5 v10 wr=>∃ k:Nat,k≤n∧gg=n - k∧v10=.int .i64 k∧Ext w wr∧Que wr w.heap.size 2 v5 (ownL u v k).length (evCells (ownL u v k)))
 case atStart=>exact ⟨0,by omega,rfl,rfl,Ext.refl _,Que.nil _ _ _⟩
 case round=>
  obtain ⟨k,hk,rfl,rfl,hxr,hq⟩:=hrel
  have HQ:=Lib.hid hq
  clear hq
  by_cases hlt:k<n
  ·have hlt':(k:Int)<(n:Int):=by omega
   obtain rfl:=H1.out.pa (by omega)
   obtain rfl:=H2.out.pa (by omega)
   have pb1:∀ w',Ext w w'→g1<w'.heap.size:=fun w' x=>Nat.lt_of_lt_of_le (H1.out.pb (by omega)) x.le
   have pb2:∀ w',Ext w w'→g2<w'.heap.size:=fun w' x=>Nat.lt_of_lt_of_le (H2.out.pb (by omega)) x.le
   obtain ⟨x,hx⟩:∃ x,x=u k:=⟨_,rfl⟩
   obtain ⟨y,hy⟩:∃ y,y=v k:=⟨_,rfl⟩
   have p1:∀ w',Ext w w'→w'.cell? ⟨g1,o1+k,none⟩=some (.int .i64 x):=fun w' h=>by rw [hx];exact h.cell (H1.out.c k hlt)
   have q1:∀ w',Ext w w'→w'.cell? ⟨g2,o2+k,none⟩=some (.int .i64 y):=fun w' h=>by rw [hy];exact h.cell (H2.out.c k hlt)
   have hxb:0≤x∧x≤1000∧y≤1000:=by rw [hx,hy];exact HB.out k hlt
   obtain ⟨hx0,hx9,hy9⟩:=hxb
   have HXY:=Lib.hid (And.intro hx hy)
   have HLK:=Lib.hid (show (ownL u v k).length≤100000 from HLN.out k (by omega))
   clear hx hy
   have hxw1:IntKind.i64.wrap (x+1)=x+1:=IntWalk.i64_in _ (by omega)
   go_wp2_with fail
   go_loopg [5,7] (y - x).toNat (fun gg v5 v7 wi=>∃ m:Nat,m≤(y - x).toNat∧gg=(y - x).toNat - m∧v7=.int .i64 (x+1+(m:Int))∧Ext w wi∧Que wi w.heap.size 2 v5 ((ownL u v k).length+m) (evCells (ownL u v k++ownP u k m)))
   case atStart=>exact ⟨0,by omega,by omega,by first | rfl | go_num | (congr 1;omega),hxr,by simpa [ownP] using HQ.out⟩
   case round=>
    clear HQ
    obtain ⟨m,hm,rfl,rfl,hxi,hqi⟩:=hrel
    obtain ⟨a6,c6,rfl⟩:=hqi.slice
    have HQI:=Lib.hid hqi
    clear hqi
    have hlk:=HLK.out
    obtain ⟨z,hz⟩:∃ z,z=x+1+(m:Int):=⟨_,rfl⟩
    rw [←hz]
    have hz1:z≤2000∧0<z:=by omega
    obtain ⟨hz2,hz3⟩:=hz1
    obtain ⟨N,hN⟩:∃ N,N=(ownL u v k).length:=⟨_,rfl⟩
    have HN:=Lib.hid hN
    rw [←hN] at HQI hlk ⊢
    obtain ⟨M,hM⟩:∃ M,M=N+m:=⟨_,rfl⟩
    rw [←hM] at HQI ⊢
    have hM9:M≤101000:=by omega
    by_cases hli:m<(y - x).toNat
    ·have hzy:z≤y:=by omega
     have HZ:=Lib.hid (And.intro hz hM)
     clear hz hM hN hm
     go_wp2_with (at_builtin;refine wpList_append_que _ rfl _ _ 68 68 rfl (base:=w.heap.size) (e:=70) (size:=2) j0 (.agg #[.int .i64 0,.int .i64 0]) 16 Tryz.underlying68 hj0 hy0 hy1 hy2 rfl rfl (v:=.slice a6 M c6) (n:=M) (xs:=evCells (ownL u v k++ownP u k m)) (by exact HQI.out.ext (Ext.alloc _ _)) (by rw [World.size_alloc];have:=hxi.le;omega) _ 1 [.int .i64 k,.int .i64 z] rfl (by exact Src.ofSlice _ Tryz.underlying68 ⟨wr.heap.size,0,none⟩ 1 1 _ rfl (news_ok wr _ _) (by intro u hu;simp at hu;rcases hu with rfl | rfl <;> rfl)) (by unfold maxLen;omega) (by omega) ?_;rintro v8 w8 hq8 hg8 -;obtain ⟨a8,cp8,rfl⟩:=hq8.slice;have H8:=Lib.hid (And.intro hq8 hg8);clear hq8 hg8)
     go_roundg ((y - x).toNat - (m+1))
     case rel=>
      have hzz:=HZ.out
      refine ⟨m+1,by omega,rfl,by first | (congr 1;omega) | (go_num;omega),(hxi.alloc' _).below.grown H8.out.2 (by rw [World.size_alloc];have:=hxi.le;omega) HQI.out.block,?_⟩
      rw [ownP_succ,←List.append_assoc,evCells_snoc,show (ownL u v k).length+(m+1)=M+1 by have:=HN.out;omega,←HXY.out.1,←hzz.1];exact H8.out.1
     case measure=>omega
    ·have hme:m=(y - x).toNat:=by omega
     have hzy:¬z≤y:=by omega
     have hMN:M=(ownL u v (k+1)).length:=by unfold ownL;rw [List.length_append,ownP_len,←HXY.out.1,←HXY.out.2,←hN,←hme];exact hM
     have HQK:=Lib.hid (show Que wr w.heap.size 2 (.slice a6 M c6) (ownL u v (k+1)).length (evCells (ownL u v (k+1))) from by
      rw [←hMN];unfold ownL;rw [←HXY.out.1,←HXY.out.2,←hme];exact HQI.out)
     clear hz hM hN hm hme hMN hlk
     go_wp2_with fail
     go_roundg (n - (k+1))
     case rel=>exact ⟨k+1,by omega,rfl,by go_num,hxi,HQK.out⟩
     case measure=>omega
  ·obtain rfl:k=n:=by omega
   obtain ⟨a6,c6,hu⟩:=HQ.out.slice
   subst hu
   have HQM:=Lib.hid (HQ.out.mono HB0.out)
   go_wp2_with fail
   go_ret
   exact ⟨hxr,a6,c6,rfl,HQM.out⟩
set_option maxHeartbeats 2000000 in
theorem rown_any (w : World) (T : TM) (a1 a2 : Option Addr) (g1 o1 g2 o2 n c1 c2 : Nat) (u v : Nat → Int) (h1 : NumAt w n a1 g1 o1 u) (h2 : NumAt w n a2 g2 o2 v) (hT : T.n = n) (hn : n ≤ 100) (hb : ∀ p, p < n → 0 ≤ u p ∧ u p ≤ 1000 ∧ v p ≤ 1000) :
    Calls Tryz.prog 44 #[T.val,.slice a1 n c1,.slice a2 n c2] w (OwnPost u v n w):=by
 obtain ⟨j0,hj0,hy0,hy1,hy2⟩:=info_parts infoEv
 have HB:=Lib.hid hb
 have HLN:=Lib.hid (show ∀ k,k≤n→(ownL u v k).length≤100000 from fun k hk=>by
  have h1:=ownL_len (u:=u) (v:=v) (c:=1000) (n:=k) fun p hp=>by have:=hb p (by omega);omega
  have h2:k*1000≤100*1000:=Nat.mul_le_mul_right _ (by omega)
  omega)
 simp only [TM.val]
 rw [hT]
 unfold OwnPost
 clear hb hT
 go_enter Tryz.func44,Tryz.ntmps44
 go_upto_region 1 with fail
 refine boxed1 (w:=w) (G:=fun x=>Code.wp _ _ _ _ x) ?_
 intro w1 hx1 hs1 ⟨l0,c0,_,_⟩
 have hx11:Ext w1 w1:=Ext.refl _
 have H1:=Lib.hid (h1.ext hx1)
 have H2:=Lib.hid (h2.ext hx1)
 have HB0:=Lib.hid hx1.le
 clear h1 h2 hs1
 go_wp2_with fail
 go_loopg [7,8] n (fun gg v7 v8 wr=>∃ k:Nat,k≤n∧gg=n - k∧v8=.int .i64 k∧Ext w1 wr∧Que wr w1.heap.size 2 v7 (ownL u v k).length (evCells (ownL u v k)))
 case atStart=>exact ⟨0,by omega,rfl,rfl,Ext.refl _,Que.nil _ _ _⟩
 case round=>
  obtain ⟨k,hk,rfl,rfl,hxr,hq⟩:=hrel
  have HQ:=Lib.hid hq
  clear hq
  by_cases hlt:k<n
  ·have hlt':(k:Int)<(n:Int):=by omega
   obtain rfl:=H1.out.pa (by omega)
   obtain rfl:=H2.out.pa (by omega)
   have pb1:∀ w',Ext w1 w'→g1<w'.heap.size:=fun w' x=>Nat.lt_of_lt_of_le (H1.out.pb (by omega)) x.le
   have pb2:∀ w',Ext w1 w'→g2<w'.heap.size:=fun w' x=>Nat.lt_of_lt_of_le (H2.out.pb (by omega)) x.le
   obtain ⟨x,hx⟩:∃ x,x=u k:=⟨_,rfl⟩
   obtain ⟨y,hy⟩:∃ y,y=v k:=⟨_,rfl⟩
   have p1:∀ w',Ext w1 w'→w'.cell? ⟨g1,o1+k,none⟩=some (.int .i64 x):=fun w' h=>by rw [hx];exact h.cell (H1.out.c k hlt)
   have q1:∀ w',Ext w1 w'→w'.cell? ⟨g2,o2+k,none⟩=some (.int .i64 y):=fun w' h=>by rw [hy];exact h.cell (H2.out.c k hlt)
   have hxb:0≤x∧x≤1000∧y≤1000:=by rw [hx,hy];exact HB.out k hlt
   obtain ⟨hx0,hx9,hy9⟩:=hxb
   have HXY:=Lib.hid (And.intro hx hy)
   have HLK:=Lib.hid (show (ownL u v k).length≤100000 from HLN.out k (by omega))
   clear hx hy
   have hxw1:IntKind.i64.wrap (x+1)=x+1:=IntWalk.i64_in _ (by omega)
   go_wp2_with fail
   go_loopg [7,9] (y - x).toNat (fun gg v7 v9 wi=>∃ m:Nat,m≤(y - x).toNat∧gg=(y - x).toNat - m∧v9=.int .i64 (x+1+(m:Int))∧Ext w1 wi∧Que wi w1.heap.size 2 v7 ((ownL u v k).length+m) (evCells (ownL u v k++ownP u k m)))
   case atStart=>exact ⟨0,by omega,by omega,by first | rfl | go_num | (congr 1;omega),hxr,by simpa [ownP] using HQ.out⟩
   case round=>
    clear HQ
    obtain ⟨m,hm,rfl,rfl,hxi,hqi⟩:=hrel
    obtain ⟨a6,c6,rfl⟩:=hqi.slice
    have HQI:=Lib.hid hqi
    clear hqi
    have hlk:=HLK.out
    obtain ⟨z,hz⟩:∃ z,z=x+1+(m:Int):=⟨_,rfl⟩
    rw [←hz]
    have hz1:z≤2000∧0<z:=by omega
    obtain ⟨hz2,hz3⟩:=hz1
    obtain ⟨N,hN⟩:∃ N,N=(ownL u v k).length:=⟨_,rfl⟩
    have HN:=Lib.hid hN
    rw [←hN] at HQI hlk ⊢
    obtain ⟨M,hM⟩:∃ M,M=N+m:=⟨_,rfl⟩
    rw [←hM] at HQI ⊢
    have hM9:M≤101000:=by omega
    by_cases hli:m<(y - x).toNat
    ·have hzy:z≤y:=by omega
     have HZ:=Lib.hid (And.intro hz hM)
     clear hz hM hN hm
     go_wp2_with (at_builtin;refine wpList_append_que _ rfl _ _ 68 68 rfl (base:=w1.heap.size) (e:=70) (size:=2) j0 (.agg #[.int .i64 0,.int .i64 0]) 16 Tryz.underlying68 hj0 hy0 hy1 hy2 rfl rfl (v:=.slice a6 M c6) (n:=M) (xs:=evCells (ownL u v k++ownP u k m)) (by exact HQI.out.ext (Ext.alloc _ _)) (by rw [World.size_alloc];have:=hxi.le;omega) _ 1 [.int .i64 k,.int .i64 z] rfl (by exact Src.ofSlice _ Tryz.underlying68 ⟨wr.heap.size,0,none⟩ 1 1 _ rfl (news_ok wr _ _) (by intro u hu;simp at hu;rcases hu with rfl | rfl <;> rfl)) (by unfold maxLen;omega) (by omega) ?_;rintro v8 w8 hq8 hg8 -;obtain ⟨a8,cp8,rfl⟩:=hq8.slice;have H8:=Lib.hid (And.intro hq8 hg8);clear hq8 hg8)
     go_roundg ((y - x).toNat - (m+1))
     case rel=>
      have hzz:=HZ.out
      refine ⟨m+1,by omega,rfl,by first | (congr 1;omega) | (go_num;omega),(hxi.alloc' _).below.grown H8.out.2 (by rw [World.size_alloc];have:=hxi.le;omega) HQI.out.block,?_⟩
      rw [ownP_succ,←List.append_assoc,evCells_snoc,show (ownL u v k).length+(m+1)=M+1 by have:=HN.out;omega,←HXY.out.1,←hzz.1];exact H8.out.1
     case measure=>omega
    ·have hme:m=(y - x).toNat:=by omega
     have hzy:¬z≤y:=by omega
     have hMN:M=(ownL u v (k+1)).length:=by unfold ownL;rw [List.length_append,ownP_len,←HXY.out.1,←HXY.out.2,←hN,←hme];exact hM
     have HQK:=Lib.hid (show Que wr w1.heap.size 2 (.slice a6 M c6) (ownL u v (k+1)).length (evCells (ownL u v (k+1))) from by
      rw [←hMN];unfold ownL;rw [←HXY.out.1,←HXY.out.2,←hme];exact HQI.out)
     clear hz hM hN hm hme hMN hlk
     go_wp2_with fail
     go_roundg (n - (k+1))
     case rel=>exact ⟨k+1,by omega,rfl,by go_num,hxi,HQK.out⟩
     case measure=>omega
  ·obtain rfl:k=n:=by omega
   obtain ⟨a6,c6,hu⟩:=HQ.out.slice
   subst hu
   have HQM:=Lib.hid (HQ.out.mono HB0.out)
   go_wp2_with fail
   go_ret
   exact ⟨(hx1.trans hxr),a6,c6,rfl,HQM.out⟩
end Go.Proofs.YtlfdfkbmollaaaaGreatDoor
