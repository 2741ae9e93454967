/- Contracts and laws in plain Lean for RApp: group T71. -/
import Derived.Test.YtlfdfkbmollaaaaGreatDoorT34
import Derived.Test.YtlfdfkbmollaaaaGreatDoorT70
set_option maxRecDepth 100000
namespace Go.Proofs.YtlfdfkbmollaaaaGreatDoor
open Go.RowKit Go.Shelf
set_option maxHeartbeats 2000000 in
theorem rsent22_any (w : World) (T : TM) (hT : T.At w) (hV : T.toTr.Valid) (a : Option Addr) (g o cap : Nat) (v : Nat → Int) (hC : NumAt w T.n a g o v) (k i : Nat) (hk : k < T.n) (hi : i < T.en k) :
    Calls Tryz.prog 154 #[T.val,.slice a T.n cap,.int .i64 (k:Int),.int .i64 (i:Int)] w (BoolPost (T.kind k i=3→((T.toTr.sndN (k,i)).2:Int)<v (T.toTr.sndN (k,i)).1) w):=by
 have HT:=Lib.hid hT
 have HV:=Lib.hid hV
 have HC:=Lib.hid hC
 have hn8:=hV.n8
 have hn1:=hV.n1
 have HFI:=Lib.hid (fun W (h:Ext w W) m=>rfind_any W T (hT.ext h) (by omega) 2 m)
 have hva:T.val=.agg #[.slice (some ⟨T.b,T.off,none⟩) T.n T.cap]:=by rw [TM.val,hT.P.pa (by omega)]
 rw [hva] at HFI ⊢
 have hck:a=some ⟨g,o,none⟩:=hC.pa (by omega)
 subst hck
 clear hT hV hC hva
 have hk':(k:Int)<(T.n:Int):=by omega
 have hen:=HV.out.en64 hk
 have hie':(i:Int)<(T.en k:Int):=by omega
 have pb:=HT.out.P.pb (by omega)
 have p2:∀ w',Ext w w'→w'.cell? ⟨T.b,T.off+k*3+2,none⟩=some (.slice (some ⟨T.eb k,T.eo k,none⟩) (T.en k) (T.ec k)):=fun w' h=>by rw [←HT.out.E.ea k hk (by omega)];exact HT.out.P.p2 w' h k hk
 have gb:∀ w',Ext w w'→g<w'.heap.size:=fun w' x=>Nat.lt_of_lt_of_le (HC.out.pb (by omega)) x.le
 have eb:=HT.out.E.eb k hk (by omega)
 have e0:∀ w',Ext w w'→w'.cell? ⟨T.eb k,T.eo k+i*5,none⟩=some (.int .i64 (T.kind k i)):=fun w' x=>HT.out.E.e0 w' x k i hk hi
 have e1:∀ w',Ext w w'→w'.cell? ⟨T.eb k,T.eo k+i*5+1,none⟩=some (.int .i64 (T.peer k i)):=fun w' x=>HT.out.E.e1 w' x k i hk hi
 have e2:∀ w',Ext w w'→w'.cell? ⟨T.eb k,T.eo k+i*5+2,none⟩=some (.int .i64 (T.msg k i)):=fun w' x=>HT.out.E.e2 w' x k i hk hi
 have e3:∀ w',Ext w w'→w'.cell? ⟨T.eb k,T.eo k+i*5+3,none⟩=some (.int .i64 (T.time k i)):=fun w' x=>HT.out.E.e3 w' x k i hk hi
 have e4:∀ w',Ext w w'→w'.cell? ⟨T.eb k,T.eo k+i*5+4,none⟩=some (.slice (T.aa k i) (T.an k i) (T.ac k i)):=fun w' x=>HT.out.E.e4 w' x k i hk hi
 obtain ⟨kd,hkd⟩:∃ z,z=T.kind k i:=⟨_,rfl⟩
 rw [←hkd] at e0
 rw [←hkd]
 have HKD:=Lib.hid hkd
 have HKI:=Lib.hid (And.intro hk hi)
 clear hkd hk hi
 generalize hP:(kd=3→((T.toTr.sndN (k,i)).2:Int)<v (T.toTr.sndN (k,i)).1)=P
 have HP:=Lib.hid hP
 clear hP
 go_enter Tryz.func154,Tryz.ntmps154
 go_upto_region 1 with fail
 refine boxed1 (w:=w) (G:=fun x=>Code.wp _ _ _ _ x) ?_
 intro w1 hx1 hs1 ⟨l0,c0,_,_⟩
 have hx11:Ext w1 w1:=Ext.refl _
 clear hs1
 go_upto_region 2 with fail
 refine boxed1 (w:=w1) (G:=fun x=>Code.wp _ _ _ _ x) ?_
 intro w4 hx4 hs4 ⟨l4,c4,_,_⟩
 have hx44:Ext w4 w4:=Ext.refl _
 have hx14:=hx4
 have hxw4:=hx1.trans hx14
 clear hs4 e0 e1 e2 e3 e4 eb p2 pb
 by_cases h3:kd=3
 ·subst h3
  obtain ⟨⟨sp,si⟩,hsn⟩:∃ s,s=T.toTr.sndN (k,i):=⟨_,rfl⟩
  have hsv:=Tr.sndN_V (T:=T.toTr) (y:=(k,i)) HKI.out
  rw [←hsn] at hsv
  have hsp:sp<T.n:=hsv.1
  have hsi:si<T.en sp:=hsv.2
  have hse:=HV.out.en64 hsp
  have hFi:Calls Tryz.prog 144 #[.agg #[.slice (some ⟨T.b,T.off,none⟩) T.n T.cap],.int .i64 2,.int .i64 (T.msg k i)] w4 fun e w'=>e=.returned (.agg #[.int .i64 sp,.int .i64 (si+1)])∧Ext w4 w':=by
   have h1:=HFI.out w4 hxw4 (T.msg k i)
   have h2:=Tr.Pre.first_snd (T:=T.toTr) (Tr.valid_iff.1 HV.out).1 ⟨(k,i),HKI.out.1,HKI.out.2⟩ HKD.out.symm
   rw [h2,←Tr.sndN_eq,←hsn] at h1
   exact h1
  have HSN:=Lib.hid hsn
  obtain ⟨cs,hcs⟩:∃ z:Int,z=v sp:=⟨_,rfl⟩
  have gs:∀ w',Ext w w'→w'.cell? ⟨g,o+sp,none⟩=some (.int .i64 cs):=fun w' x=>by rw [hcs];exact x.cell (HC.out.c sp hsp)
  have hsp':(sp:Int)<(T.n:Int):=by omega
  have HPP:=Lib.hid (show P↔(si:Int)<cs from by rw [←HP.out,←HSN.out,hcs];exact ⟨fun h=>h rfl,fun h _=>h⟩)
  clear hsn hsv hcs
  go_upto_region 5 with (go_at_call 144;refine hFi.mono ?_;rintro e w5 ⟨rfl,hx5⟩;have hx45:Ext w4 w5:=hx5)
  refine boxed1 (w:=w5) (G:=fun x=>Code.wp _ _ _ _ x) ?_
  intro w6 hx6 hs6 ⟨l6,c6,_,_⟩
  have hx46:=hx45.trans hx6
  have hx16:=hx14.trans hx46
  have hxw6:=hxw4.trans hx46
  have hx66:Ext w6 w6:=Ext.refl _
  clear hs6 hFi
  go_quiet (fail)
  have hq:=hxw6.drewN nq
  go_wp2_with fail
  go_ret
  exact ⟨decide ((si:Int)+1≤cs),rfl,by rw [decide_eq_true_iff,HPP.out];omega,hq⟩
 ·have d1:(kd == 3)=false:=by simpa using h3
  have d2:(kd != 3)=true:=by simpa using h3
  have HPT:=Lib.hid (show P from by rw [←HP.out];exact fun h=>absurd h h3)
  go_wp2_with fail
  go_ret
  exact ⟨true,rfl,⟨fun _=>HPT.out,fun _=>rfl⟩,hxw4⟩
set_option maxHeartbeats 2000000 in
theorem rclosed22_any (w : World) (T : TM) (hT : T.At w) (hV : T.toTr.Valid) (a : Option Addr) (g o cap : Nat) (v : Nat → Int) (hC : NumAt w T.n a g o v) (hR : T.toTr.InR T.n v) :
    Calls Tryz.prog 118 #[T.val,.slice a T.n cap] w (BoolPost (T.toTr.ClC v) w):=by
 have HSE:=Lib.hid (fun W (x:Ext w W) k i (hk:k<T.n) (hi:i<T.en k)=>rsent22_any W T (hT.ext x) hV a g o cap v (hC.ext x) k i hk hi)
 have HV:=Lib.hid hV
 have HC:=Lib.hid hC
 have HR:=Lib.hid hR
 have hn8:=hV.n8
 have hn1:=hV.n1
 have hck:a=some ⟨g,o,none⟩:=hC.pa (by omega)
 subst hck
 simp only [TM.val] at HSE ⊢
 clear hT hV hC hR
 go_enter Tryz.func118,Tryz.ntmps118
 go_upto_region 1 with fail
 refine boxed1 (w:=w) (G:=fun x=>Code.wp _ _ _ _ x) ?_
 intro w1 hx1 hs1 ⟨l0,c0,_,_⟩
 have hx11:Ext w1 w1:=Ext.refl _
 clear hs1
 go_wp2_with fail
 go_loopg [5] T.n (fun gg v5 wr=>∃ k:Nat,k≤T.n∧gg=T.n - k∧v5=.int .i64 k∧Ext w1 wr∧∀ x,T.toTr.V x→x.1<k→(x.2:Int)<v x.1→T.kind x.1 x.2=3→((T.toTr.sndN x).2:Int)<v (T.toTr.sndN x).1)
 case atStart=>exact ⟨0,by omega,rfl,rfl,hx11,fun x _ h=>by omega⟩
 case round=>
  obtain ⟨k,hk,rfl,rfl,hxr,hall⟩:=hrel
  have HA:=Lib.hid hall
  have hxw:=hx1.trans hxr
  clear hall
  by_cases hlt:k<T.n
  ·have hlt':(k:Int)<(T.n:Int):=by omega
   have hen:=HV.out.en64 hlt
   have gb:∀ w',Ext w w'→g<w'.heap.size:=fun w' x=>Nat.lt_of_lt_of_le (HC.out.pb (by omega)) x.le
   have hrk:=HR.out k hlt
   obtain ⟨ck,hck⟩:∃ ck:Nat,v k=ck:=⟨(v k).toNat,by omega⟩
   have gc:∀ w',Ext w w'→w'.cell? ⟨g,o+k,none⟩=some (.int .i64 (ck:Int)):=fun w' x=>by rw [←hck];exact x.cell (HC.out.c k hlt)
   rw [hck] at hrk
   have hck64:ck≤T.en k:=by omega
   have HCK:=Lib.hid hck
   clear hck
   go_wp2_with fail
   go_loopg [6] ck (fun gg v6 wr=>∃ i:Nat,i≤ck∧gg=ck - i∧v6=.int .i64 i∧Ext w1 wr∧∀ x,T.toTr.V x→(x.1<k∨(x.1=k∧x.2<i))→(x.2:Int)<v x.1→T.kind x.1 x.2=3→((T.toTr.sndN x).2:Int)<v (T.toTr.sndN x).1)
   case atStart=>exact ⟨0,by omega,rfl,rfl,hxr,fun x hx h=>HA.out x hx (by omega)⟩
   case round=>
    obtain ⟨i,hi,rfl,rfl,hxi,hall⟩:=hrel
    have HA2:=Lib.hid hall
    have hxwi:=hx1.trans hxi
    clear hall
    by_cases hli:i<ck
    ·have hli':(i:Int)<(ck:Int):=by omega
     have hse:=HSE.out wr hxwi k i hlt (by omega)
     have HVV:=Lib.hid (show T.toTr.V (k,i) from ⟨hlt,by show i<T.en k;omega⟩)
     have HLI:=Lib.hid hli'
     generalize hP:(T.kind k i=3→((T.toTr.sndN (k,i)).2:Int)<v (T.toTr.sndN (k,i)).1)=P at hse
     have HP:=Lib.hid hP
     clear hP
     go_wp2_with fail
     go_at_call 154
     refine hse.mono ?_
     rintro e w2 ⟨b,rfl,hb,hx2⟩
     have HB:=Lib.hid hb
     have hx12:=hxi.trans hx2
     have hxw2:=hxwi.trans hx2
     clear hb hse
     cases b with
     | false =>
      go_wp2_with fail
      go_ret
      exact ⟨false,rfl,⟨fun h=>(by cases h),fun h=>absurd (HB.out.2 (by rw [←HP.out];exact h (k,i) HVV.out (by rw [HCK.out];exact HLI.out))) (by decide)⟩,hxw2⟩
     | true =>
      go_wp2_with fail
      go_roundg (ck - (i+1))
      case rel=>exact ⟨i+1,by omega,rfl,by go_num,hx12,fun x hx h1 h2 h4=>by
       by_cases e:x=(k,i)
       ·subst e
        exact (HP.out▸HB.out.1 (by first | rfl | trivial)) h4
       ·refine HA2.out x hx ?_ h2 h4
        rcases h1 with h1 | ⟨h1,h5⟩
        ·exact .inl h1
        ·refine .inr ⟨h1,?_⟩
         have h6:x.2≠i:=fun h7=>e (Prod.ext h1 h7)
         omega⟩
      case measure=>omega
    ·obtain rfl:i=ck:=by omega
     go_wp2_with fail
     go_roundg (T.n - (k+1))
     case rel=>exact ⟨k+1,by omega,rfl,by go_num,hxi,fun x hx h1 h2=>HA2.out x hx (by
      rcases Nat.lt_or_ge x.1 k with h | h
      ·exact .inl h
      ·have e:x.1=k:=by omega
       refine .inr ⟨e,?_⟩
       rw [e,HCK.out] at h2;omega) h2⟩
     case measure=>omega
  ·obtain rfl:k=T.n:=by omega
   go_wp2_with fail
   go_ret
   exact ⟨true,rfl,⟨fun _ x hx=>HA.out x hx hx.1,fun _=>rfl⟩,hxw⟩
set_option maxHeartbeats 1000000 in
theorem rrange22_any (w : World) (T : TM) (hT : T.At w) (a : Option Addr) (g o cap : Nat) (v : Nat → Int) (hC : NumAt w T.n a g o v) :
    Calls Tryz.prog 117 #[T.val,.slice a T.n cap] w (BoolPost (T.toTr.InR T.n v) w):=by
 generalize hP:T.toTr.InR T.n v=P
 have HP:=Lib.hid (show P↔T.toTr.InR T.n v from by rw [←hP])
 clear hP
 have HT:=Lib.hid hT
 have HC:=Lib.hid hC
 have hn0:=hT.P.hn
 have hcn:=hC.hn
 obtain ⟨ta,hta⟩:∃ z,z=T.a:=⟨_,rfl⟩
 have HTA:=Lib.hid hta
 simp only [TM.val]
 rw [←hta]
 clear hT hC hta
 go_enter Tryz.func117,Tryz.ntmps117
 go_upto_region 1 with fail
 refine boxed1 (w:=w) (G:=fun x=>Code.wp _ _ _ _ x) ?_
 intro w1 hx1 hs1 ⟨l0,c0,_,_⟩
 have hx11:Ext w1 w1:=Ext.refl _
 clear hs1
 go_wp2_with fail
 go_loopg [5] T.n (fun gg v5 wr=>∃ k:Nat,k≤T.n∧gg=T.n - k∧v5=.int .i64 k∧Ext w1 wr∧∀ p,p<k→0≤v p∧v p≤T.en p)
 case atStart=>exact ⟨0,by omega,rfl,rfl,hx11,fun p h=>by omega⟩
 case round=>
  obtain ⟨k,hk,rfl,rfl,hxr,hall⟩:=hrel
  have HA:=Lib.hid hall
  have hxw:=hx1.trans hxr
  clear hall
  by_cases hlt:k<T.n
  ·have hlt':(k:Int)<(T.n:Int):=by omega
   obtain rfl:ta=some ⟨T.b,T.off,none⟩:=by rw [HTA.out];exact HT.out.P.pa (by omega)
   have hen:=HT.out.E.he k hlt
   have pb:=HT.out.P.pb (by omega)
   have p2:∀ w',Ext w w'→w'.cell? ⟨T.b,T.off+k*3+2,none⟩=some (.slice (T.ea k) (T.en k) (T.ec k)):=fun w' h=>HT.out.P.p2 w' h k hlt
   obtain rfl:=HC.out.pa (by omega)
   have gb:∀ w',Ext w w'→g<w'.heap.size:=fun w' x=>Nat.lt_of_lt_of_le (HC.out.pb (by omega)) x.le
   obtain ⟨vk,hvk⟩:∃ z,z=v k:=⟨_,rfl⟩
   have gc:∀ w',Ext w w'→w'.cell? ⟨g,o+k,none⟩=some (.int .i64 vk):=fun w' x=>by rw [hvk];exact x.cell (HC.out.c k hlt)
   have HVK:=Lib.hid hvk
   clear hvk
   by_cases h0:vk<0
   ·have d1:decide (vk<0)=true:=decide_eq_true h0
    go_upto_region 4 with fail
    go_quiet (fail)
    have hq:=hxw.drewN nq
    go_wp2_with fail
    go_ret
    exact ⟨false,rfl,⟨fun h=>(by cases h),fun h=>absurd ((HP.out.1 h) k hlt).1 (by rw [←HVK.out];omega)⟩,hq⟩
   ·have d1:decide (vk<0)=false:=decide_eq_false h0
    by_cases h1:(T.en k:Int)<vk
    ·have d2:decide ((T.en k:Int)<vk)=true:=decide_eq_true h1
     go_upto_region 4 with fail
     go_quiet (fail)
     have hq:=hxw.drewN nq
     go_wp2_with fail
     go_ret
     exact ⟨false,rfl,⟨fun h=>(by cases h),fun h=>absurd ((HP.out.1 h) k hlt).2 (by rw [←HVK.out];omega)⟩,hq⟩
    ·have d2:decide ((T.en k:Int)<vk)=false:=decide_eq_false h1
     go_upto_region 4 with fail
     go_quiet (fail)
     have hq:=hxr.drewN nq
     go_wp2_with fail
     go_roundg (T.n - (k+1))
     case rel=>exact ⟨k+1,by omega,rfl,by go_num,hq,fun p hp=>by
      by_cases e:p=k
      ·subst e;rw [←HVK.out];omega
      ·exact HA.out p (by omega)⟩
     case measure=>omega
  ·obtain rfl:k=T.n:=by omega
   go_wp2_with fail
   go_ret
   exact ⟨true,rfl,⟨fun _=>HP.out.2 HA.out,fun _=>rfl⟩,hxw⟩
set_option maxHeartbeats 1000000 in
theorem rcon22_any (w : World) (T : TM) (hT : T.At w) (hV : T.toTr.Valid) (a : Option Addr) (g o n cap : Nat) (v : Nat → Int) (hC : NumAt w n a g o v) :
    Calls Tryz.prog 70 #[T.val,.slice a n cap] w (BoolPost (T.toTr.IsCut n v) w):=by
 obtain ⟨b,hb⟩:∃ b:Bool,b=true↔n=T.n:=⟨decide (n=T.n),by simp⟩
 have HVL:=Lib.hid (fun W (x:Ext w W)=>rvalid_any W T (hT.ext x))
 have HF:=Lib.hid (fun W=>rfits22_any W T a n cap b hb)
 have HRG:=Lib.hid (fun W (h:Ext w W) (hn:n=T.n)=>(show Calls Tryz.prog 117 #[T.val,.slice a n cap] W (BoolPost (T.toTr.InR T.n v) W) from by
  subst hn;exact rrange22_any W T (hT.ext h) a g o cap v (hC.ext h)))
 have HCL:=Lib.hid (fun W (h:Ext w W) (hn:n=T.n) (hR:T.toTr.InR T.n v)=>(show Calls Tryz.prog 118 #[T.val,.slice a n cap] W (BoolPost (T.toTr.ClC v) W) from by
  subst hn;exact rclosed22_any W T (hT.ext h) hV a g o cap v (hC.ext h) hR))
 have HB:=Lib.hid hb
 have HV:=Lib.hid hV
 simp only [TM.val] at HVL HF HRG HCL ⊢
 clear hT hV hC hb
 go_enter Tryz.func70,Tryz.ntmps70
 go_upto_region 1 with fail
 refine boxed1 (w:=w) (G:=fun x=>Code.wp _ _ _ _ x) ?_
 intro w1 hx1 hs1 ⟨l0,c0,_,_⟩
 have hx11:Ext w1 w1:=Ext.refl _
 clear hs1
 go_wp2_with fail
 go_at_call 11
 refine (HVL.out w1 hx1).mono ?_
 rintro e w2 ⟨c,rfl,hc,hx2⟩
 obtain rfl:c=true:=hc.2 HV.out
 have hx12:=hx2
 have hxw2:=hx1.trans hx2
 clear hc
 go_wp2_with fail
 go_at_call 116
 refine (HF.out w2).mono ?_
 rintro e w3 ⟨rfl,hx3⟩
 have hx13:=hx12.trans hx3
 have hxw3:=hxw2.trans hx3
 cases b with
 | false =>
  go_wp2_with fail
  go_ret
  exact ⟨false,rfl,⟨fun h=>(by cases h),fun h=>absurd (HB.out.2 h.1.2) Bool.false_ne_true⟩,hxw3⟩
 | true =>
  have HN:=Lib.hid (HB.out.1 rfl)
  clear HB
  go_wp2_with fail
  go_at_call 117
  refine (HRG.out w3 hxw3 HN.out).mono ?_
  rintro e w4 ⟨c,rfl,hc,hx4⟩
  have HC:=Lib.hid hc
  have hx14:=hx13.trans hx4
  have hxw4:=hxw3.trans hx4
  clear hc
  cases c with
  | false =>
   go_wp2_with fail
   go_ret
   exact ⟨false,rfl,⟨fun h=>(by cases h),fun h=>absurd (HC.out.2 h.2.1) Bool.false_ne_true⟩,hxw4⟩
  | true =>
   have HR:=Lib.hid (HC.out.1 rfl)
   clear HC
   go_wp2_with fail
   go_at_call 118
   refine (HCL.out w4 hxw4 HN.out HR.out).mono ?_
   rintro e w5 ⟨c,rfl,hc,hx5⟩
   have HC:=Lib.hid hc
   have hxw5:=hxw4.trans hx5
   clear hc
   go_wp2_with fail
   go_ret
   exact ⟨c,by first | rfl | simp,HC.out.trans ⟨fun h=>⟨⟨HV.out,HN.out⟩,HR.out,h⟩,fun h=>h.2.2⟩,hxw5⟩
set_option maxHeartbeats 1000000 in
theorem rsi14_any (w : World) (a1 a2 : Option Addr) (g1 o1 g2 o2 n m c1 c2 : Nat) (u v : Nat → Int) (h1 : NumAt w n a1 g1 o1 u) (h2 : NumAt w m a2 g2 o2 v) :
    Calls Tryz.prog 38 #[.slice a1 n c1,.slice a2 m c2] w (BoolPost (EqL n m u v) w):=by
 have hn1:=h1.hn
 have hn2:=h2.hn
 have H1:=Lib.hid h1
 have H2:=Lib.hid h2
 have hww:Ext w w:=Ext.refl _
 clear h1 h2
 go_enter Tryz.func38,Tryz.ntmps38
 by_cases hnm:n=m
 ·subst hnm
  have d0:((n:Int) == (n:Int))=true:=by simp
  go_wp2_with fail
  go_loopg [5] n (fun gg v5 wr=>∃ k:Nat,k≤n∧gg=n - k∧v5=.int .i64 k∧Ext w wr∧∀ i,i<k→u i=v i)
  case atStart=>exact ⟨0,by omega,rfl,rfl,hww,fun i h=>by omega⟩
  case round=>
   obtain ⟨k,hk,rfl,rfl,hxr,hall⟩:=hrel
   have HA:=Lib.hid hall
   clear hall
   by_cases hlt:k<n
   ·have hlt':(k:Int)<(n:Int):=by omega
    obtain rfl:=H1.out.pa (by omega)
    obtain rfl:=H2.out.pa (by omega)
    have pb1:∀ w',Ext w w'→g1<w'.heap.size:=fun w' x=>Nat.lt_of_lt_of_le (H1.out.pb (by omega)) x.le
    have pb2:∀ w',Ext w w'→g2<w'.heap.size:=fun w' x=>Nat.lt_of_lt_of_le (H2.out.pb (by omega)) x.le
    obtain ⟨x,hx⟩:∃ x,x=u k:=⟨_,rfl⟩
    obtain ⟨y,hy⟩:∃ y,y=v k:=⟨_,rfl⟩
    have p1:∀ w',Ext w w'→w'.cell? ⟨g1,o1+k,none⟩=some (.int .i64 x):=fun w' h=>by rw [hx];exact h.cell (H1.out.c k hlt)
    have q1:∀ w',Ext w w'→w'.cell? ⟨g2,o2+k,none⟩=some (.int .i64 y):=fun w' h=>by rw [hy];exact h.cell (H2.out.c k hlt)
    have HX:=Lib.hid (And.intro hx hy)
    clear hx hy
    by_cases e:x=y
    ·subst e
     have d1:(x == x)=true:=by simp
     go_upto_region 6 with fail
     go_quiet (fail)
     have hq:=hxr.drewN nq
     go_wp2_with fail
     go_roundg (n - (k+1))
     case rel=>exact ⟨k+1,by omega,rfl,by go_num,hq,fun i hi=>by
      by_cases e:i=k
      ·subst e;rw [←HX.out.1,←HX.out.2]
      ·exact HA.out i (by omega)⟩
     case measure=>omega
    ·have d1:(x == y)=false:=by simpa using e
     go_upto_region 6 with fail
     go_quiet (fail)
     have hq:=hxr.drewN nq
     go_wp2_with fail
     go_ret
     exact ⟨false,rfl,⟨fun h=>(by cases h),fun h=>absurd (h.2 k hlt) (by rw [←HX.out.1,←HX.out.2];exact e)⟩,hq⟩
   ·obtain rfl:k=n:=by omega
    go_wp2_with fail
    go_ret
    exact ⟨true,rfl,⟨fun _=>⟨rfl,HA.out⟩,fun _=>rfl⟩,hxr⟩
 ·have d0:((n:Int) == (m:Int))=false:=by simpa using fun h:(n:Int)=m=>hnm (by omega)
  have d0':(n == m)=false:=by simpa using hnm
  go_wp2_with fail
  go_ret
  exact ⟨false,rfl,⟨fun h=>(by cases h),fun h=>absurd h.1 hnm⟩,hww⟩
set_option maxHeartbeats 2000000 in
theorem rel34_any (w : World) (T : TM) (hT : T.At w) (hV : T.toTr.Valid) (S : SlcD) (hS : S.At w) (p i : Nat) (hp : p < T.n) (hi : i < (S.j.m p).n) (hSh : S.Heads T.toTr) :
    Calls Tryz.prog 71 #[T.val,S.val,.int .i64 (p:Int),.int .i64 (i:Int)] w (BoolPost (S.Right T.toTr p i) w):=by
 have hj:p<S.j.s.n:=by rw [hSh.2.2.2];exact hp
 have HNU:=Lib.hid ((hS.j.c p hj).2.num hi)
 have hfn:S.f.s.n=T.n:=hSh.1.1.2
 have hln:S.l.s.n=T.n:=hSh.2.1.1.2
 have hrn:=HNU.out.hn
 have hfs:=hS.f.s.hn
 have hls:=hS.l.s.hn
 have hjn:=hS.j.s.hn
 have hM:=(hS.j.c p hj).2.at'
 have hnm:=hM.hn
 have hp':(p:Int)<(S.j.s.n:Int):=by omega
 have hpf:(p:Int)<(S.f.s.n:Int):=by omega
 have hpl:(p:Int)<(S.l.s.n:Int):=by omega
 have hi':(i:Int)<((S.j.m p).n:Int):=by omega
 have hb1:∀ w',Ext w w'→S.j.s.b<w'.heap.size:=fun w' x=>Nat.lt_of_lt_of_le (hS.j.s.hb (by omega)) x.le
 have hb2:=hM.pb (by omega)
 have hb3:∀ w',Ext w w'→S.l.s.b<w'.heap.size:=fun w' x=>Nat.lt_of_lt_of_le (hS.l.s.hb (by omega)) x.le
 have hb4:∀ w',Ext w w'→S.f.s.b<w'.heap.size:=fun w' x=>Nat.lt_of_lt_of_le (hS.f.s.hb (by omega)) x.le
 have k1:∀ w',Ext w w'→w'.cell? ⟨S.j.s.b,S.j.s.o+p,none⟩=some (.slice (some ⟨(S.j.m p).b,(S.j.m p).off,none⟩) (S.j.m p).n (S.j.m p).cap):=fun w' x=>by
  rw [←hM.pa (by omega)];exact x.cell (hS.j.c p hj).1
 obtain ⟨ea,hea⟩:∃ z,z=(S.j.m p).ra i:=⟨_,rfl⟩
 have k2:∀ w',Ext w w'→w'.cell? ⟨(S.j.m p).b,(S.j.m p).off+i,none⟩=some (.slice ea ((S.j.m p).rn i) ((S.j.m p).rc i)):=fun w' x=>by rw [hea];exact hM.p0 w' x i hi
 obtain ⟨lp,hlp⟩:∃ z,z=S.l.z p:=⟨_,rfl⟩
 obtain ⟨fp,hfp⟩:∃ z,z=S.f.z p:=⟨_,rfl⟩
 obtain ⟨vp,hvp⟩:∃ z,z=(S.j.m p).val i p:=⟨_,rfl⟩
 have k3:∀ w',Ext w w'→w'.cell? ⟨S.l.s.b,S.l.s.o+p,none⟩=some (.int .i64 lp):=fun w' x=>by rw [hlp];exact x.cell (hS.l.c p (by omega)).1
 have k4:∀ w',Ext w w'→w'.cell? ⟨S.f.s.b,S.f.s.o+p,none⟩=some (.int .i64 fp):=fun w' x=>by rw [hfp];exact x.cell (hS.f.c p (by omega)).1
 have HVP:=Lib.hid (fun (h:p<(S.j.m p).rn i)=>(show ∀ w',Ext w w'→w'.cell? ⟨(S.j.m p).rb i,(S.j.m p).ro i+p,none⟩=some (.int .i64 vp) from fun w' x=>by rw [hvp];exact x.cell (HNU.out.c p h)))
 have hva:S.val=.agg #[.bool S.em,.slice (some ⟨S.f.s.b,S.f.s.o,none⟩) S.f.s.n S.f.s.c,.slice (some ⟨S.l.s.b,S.l.s.o,none⟩) S.l.s.n S.l.s.c,.slice (some ⟨S.j.s.b,S.j.s.o,none⟩) S.j.s.n S.j.s.c]:=by
  show Value.agg #[_,.slice S.f.s.a _ _,.slice S.l.s.a _ _,.slice S.j.s.a _ _]=_
  rw [hS.j.s.ha (by omega),hS.l.s.ha (by omega),hS.f.s.ha (by omega)]
 have HEQ:=Lib.hid (fun W (x:Ext w W)=>rsi14_any W _ _ _ _ _ _ _ _ ((S.j.m p).rc i) S.f.s.c _ _ (HNU.out.ext x) (hS.f.num.ext x))
 have HCC:=Lib.hid (fun W (x:Ext w W)=>rcon22_any W T (hT.ext x) hV _ _ _ _ ((S.j.m p).rc i) _ (HNU.out.ext x))
 have HL1:=Lib.hid (fun W (x:Ext w W)=>rleq_any W _ _ _ _ _ _ _ _ S.f.s.c ((S.j.m p).rc i) _ _ (hS.f.num.ext x) (HNU.out.ext x))
 have HL2:=Lib.hid (fun W (x:Ext w W)=>rleq_any W _ _ _ _ _ _ _ _ ((S.j.m p).rc i) S.l.s.c _ _ (HNU.out.ext x) (hS.l.num.ext x))
 rw [←hea] at HEQ HCC HL1 HL2
 rw [hS.f.s.ha (by omega)] at HEQ HL1
 rw [hS.l.s.ha (by omega)] at HL2
 have HP:=Lib.hid hp
 have HEA:=Lib.hid hea
 have HIN:=Lib.hid (And.intro hlp (And.intro hfp hvp))
 have HPT:=Lib.hid (fun (h:(S.j.m p).rn i=T.n)=>(show (p:Int)<((S.j.m p).rn i:Int) from by omega))
 clear hSh hj hi hfn hln hea hlp hfp hvp hM
 rw [hva]
 simp only [TM.val] at HCC ⊢
 clear hT hS hva
 go_enter Tryz.func71,Tryz.ntmps71
 go_upto_region 1 with fail
 refine boxed2 (w:=w) (G:=fun x=>Code.wp _ _ _ _ x) ?_
 intro w1 hx1 hs1 ⟨l0,c0,_,_⟩ ⟨l1,c1,_,_⟩
 have hx11:Ext w1 w1:=Ext.refl _
 clear hs1
 by_cases hL:lp≤(i:Int)
 ·have dL:decide (lp≤(i:Int))=true:=decide_eq_true hL
  have HL:=Lib.hid (show ¬(i:Int)+1≤S.l.z p from by rw [←HIN.out.1];omega)
  obtain ⟨b,hb⟩:∃ b:Bool,b=decide ((S.j.m p).rn i=0):=⟨_,rfl⟩
  have hb1:(((S.j.m p).rn i:Int) == 0)=b:=by rw [hb];cases h:decide ((S.j.m p).rn i=0) with
   | true => have:=of_decide_eq_true h;simp [this]
   | false => have:=of_decide_eq_false h;simp [this]
  have hb2:((S.j.m p).rn i == 0)=b:=by rw [hb];rfl
  have HB:=Lib.hid hb
  clear hb hL
  go_wp2_with fail
  go_ret
  refine ⟨b,by first | rfl | simp [hb1] | simp [hb2],?_,hx1⟩
  rw [HB.out,decide_eq_true_iff]
  exact ⟨fun h=>⟨fun h2=>absurd h2 (by have:=HL.out;omega),fun _=>h⟩,fun h=>h.2 (by have:=HL.out;omega)⟩
 ·have dL:decide (lp≤(i:Int))=false:=decide_eq_false hL
  have HL:=Lib.hid (show (i:Int)+1≤S.l.z p from by rw [←HIN.out.1];omega)
  clear hL
  by_cases hF:(i:Int)<fp
  ·have dF:decide ((i:Int)<fp)=true:=decide_eq_true hF
   have HF:=Lib.hid (show (i:Int)+1≤S.f.z p from by rw [←HIN.out.2.1];omega)
   clear hF
   go_wp2_with fail
   go_at_call 38
   refine (HEQ.out w1 hx1).mono ?_
   rintro e w5 ⟨b,rfl,hb,hx5⟩
   have HB:=Lib.hid hb
   have hxw5:=hx1.trans hx5
   clear hb hx5
   go_wp2_with fail
   go_ret
   exact ⟨b,rfl,HB.out.trans ⟨fun h=>⟨fun _=>⟨fun _=>h,fun h2=>absurd HF.out h2⟩,fun h2=>absurd HL.out h2⟩,fun h=>(h.1 HL.out).1 HF.out⟩,hxw5⟩
  ·have dF:decide ((i:Int)<fp)=false:=decide_eq_false hF
   have HF:=Lib.hid (show ¬(i:Int)+1≤S.f.z p from by rw [←HIN.out.2.1];omega)
   have HRI:=Lib.hid (show S.Right T.toTr p i↔T.toTr.IsCut ((S.j.m p).rn i) ((S.j.m p).val i)∧(i:Int)+1≤(S.j.m p).val i p∧LeqL S.f.s.n ((S.j.m p).rn i) S.f.z ((S.j.m p).val i)∧LeqL ((S.j.m p).rn i) S.l.s.n ((S.j.m p).val i) S.l.z from
    ⟨fun h=>(h.1 HL.out).2 HF.out,fun h=>⟨fun _=>⟨fun h2=>absurd h2 HF.out,fun _=>h⟩,fun h2=>absurd HL.out h2⟩⟩)
   clear hF
   go_wp2_with fail
   go_at_call 70
   refine (HCC.out w1 hx1).mono ?_
   rintro e w5 ⟨b,rfl,hb,hx5⟩
   have HB:=Lib.hid hb
   have hxw5:=hx1.trans hx5
   have hx15:=hx5
   clear hb hx5
   cases b with
   | false =>
    go_wp2_with fail
    go_ret
    exact ⟨false,by first | rfl | simp,⟨fun h=>(by cases h),fun h=>absurd (HB.out.2 (HRI.out.1 h).1) (by decide)⟩,hxw5⟩
   | true =>
    have HC:=Lib.hid (HB.out.1 rfl)
    clear HB
    have hpr:=HPT.out HC.out.1.2
    have gv:=HVP.out (by omega)
    obtain rfl:ea=some ⟨(S.j.m p).rb i,(S.j.m p).ro i,none⟩:=HEA.out.trans (HNU.out.pa (by omega))
    have hb5:∀ w',Ext w w'→(S.j.m p).rb i<w'.heap.size:=fun w' x=>Nat.lt_of_lt_of_le (HNU.out.pb (by omega)) x.le
    by_cases hD:(i:Int)<vp
    ·have dD:decide ((i:Int)<vp)=true:=decide_eq_true hD
     have HD:=Lib.hid (show (i:Int)+1≤(S.j.m p).val i p from by rw [←HIN.out.2.2];omega)
     clear hD
     go_wp2_with fail
     go_at_call 43
     refine (HL1.out w5 hxw5).mono ?_
     rintro e w7 ⟨b,rfl,hb,hx7⟩
     have HB:=Lib.hid hb
     have hxw7:=hxw5.trans hx7
     have hx17:=hx15.trans hx7
     clear hb hx7
     cases b with
     | false =>
      go_wp2_with fail
      go_ret
      exact ⟨false,by first | rfl | simp,⟨fun h=>(by cases h),fun h=>absurd (HB.out.2 (HRI.out.1 h).2.2.1) (by decide)⟩,hxw7⟩
     | true =>
      have HM:=Lib.hid (HB.out.1 rfl)
      clear HB
      go_wp2_with fail
      go_at_call 43
      refine (HL2.out w7 hxw7).mono ?_
      rintro e w8 ⟨b,rfl,hb,hx8⟩
      have HB:=Lib.hid hb
      have hxw8:=hxw7.trans hx8
      clear hb hx8
      go_wp2_with fail
      go_ret
      exact ⟨b,by first | rfl | simp,HB.out.trans ⟨fun h=>HRI.out.2 ⟨HC.out,HD.out,HM.out,h⟩,fun h=>(HRI.out.1 h).2.2.2⟩,hxw8⟩
    ·have dD:decide ((i:Int)<vp)=false:=decide_eq_false hD
     have HD:=Lib.hid (show ¬(i:Int)+1≤(S.j.m p).val i p from by rw [←HIN.out.2.2];omega)
     clear hD
     go_wp2_with fail
     go_ret
     exact ⟨false,by first | rfl | simp,⟨fun h=>(by cases h),fun h=>absurd (HRI.out.1 h).2.1 (by have:=HD.out;omega)⟩,hxw5⟩
set_option maxHeartbeats 2000000 in
theorem rclos34_any (w : World) (S : SlcD) (hS : S.At w) (a : Option Addr) (g o n cap : Nat) (v : Nat → Int) (hC : NumAt w n a g o v) (hv : ∀ p, p < n → v p ≤ 1000000)
    (hin:∀ q k:Nat,q<n→(k:Int)<v q→q<S.j.s.n∧k<(S.j.m q).n) :
    Calls Tryz.prog 72 #[S.val,.slice a n cap] w (BoolPost (∀ q k:Nat,q<n→(k:Int)<v q→LeqL ((S.j.m q).rn k) n ((S.j.m q).val k) v) w):=by
 have HL:=Lib.hid (fun W (x:Ext w W) q k (h:q<S.j.s.n∧k<(S.j.m q).n)=>rleq_any W _ _ _ _ _ _ _ _ ((S.j.m q).rc k) cap _ _ (((hS.j.c q h.1).2.num h.2).ext x) (hC.ext x))
 have HS:=Lib.hid hS
 have HC:=Lib.hid hC
 have HV:=Lib.hid hv
 have HIN:=Lib.hid hin
 have hcn:=hC.hn
 have hjn:=hS.j.s.hn
 obtain ⟨ja,hja⟩:∃ z,z=S.j.s.a:=⟨_,rfl⟩
 have HJA:=Lib.hid hja
 simp only [SlcD.val,SlD.v,←hja]
 clear hS hC hv hin hja
 go_enter Tryz.func72,Tryz.ntmps72
 go_upto_region 1 with fail
 refine boxed1 (w:=w) (G:=fun x=>Code.wp _ _ _ _ x) ?_
 intro w1 hx1 hs1 ⟨l0,c0,_,_⟩
 have hx11:Ext w1 w1:=Ext.refl _
 clear hs1
 go_wp2_with fail
 go_loopg [5] n (fun gg v5 wr=>∃ k:Nat,k≤n∧gg=n - k∧v5=.int .i64 k∧Ext w1 wr∧∀ q i:Nat,q<k→(i:Int)<v q→LeqL ((S.j.m q).rn i) n ((S.j.m q).val i) v)
 case atStart=>exact ⟨0,by omega,rfl,rfl,hx11,fun q i h=>by omega⟩
 case round=>
  obtain ⟨k,hk,rfl,rfl,hxr,hall⟩:=hrel
  have HA:=Lib.hid hall
  have hxw:=hx1.trans hxr
  clear hall
  by_cases hlt:k<n
  ·have hlt':(k:Int)<(n:Int):=by omega
   obtain rfl:=HC.out.pa (by omega)
   have gb:∀ w',Ext w w'→g<w'.heap.size:=fun w' x=>Nat.lt_of_lt_of_le (HC.out.pb (by omega)) x.le
   obtain ⟨ck,hck⟩:∃ ck,ck=v k:=⟨_,rfl⟩
   have gc:∀ w',Ext w w'→w'.cell? ⟨g,o+k,none⟩=some (.int .i64 ck):=fun w' x=>by rw [hck];exact x.cell (HC.out.c k hlt)
   have hcb:ck≤1000000:=by rw [hck];exact HV.out k hlt
   have HCK:=Lib.hid hck
   clear hck
   go_wp2_with fail
   go_loopg [6] ck.toNat (fun gg v6 wr=>∃ i:Nat,i≤ck.toNat∧gg=ck.toNat - i∧v6=.int .i64 i∧Ext w1 wr∧∀ j:Nat,j<i→LeqL ((S.j.m k).rn j) n ((S.j.m k).val j) v)
   case atStart=>exact ⟨0,by omega,rfl,rfl,hxr,fun j h=>by omega⟩
   case round=>
    obtain ⟨i,hi,rfl,rfl,hxi,hall⟩:=hrel
    have HA2:=Lib.hid hall
    have hxwi:=hx1.trans hxi
    clear hall
    by_cases hli:(i:Int)<ck
    ·have hki:=HIN.out k i hlt (by rw [←HCK.out];exact hli)
     have hki1:=hki.1
     have hki2:=hki.2
     have hkj:(k:Int)<(S.j.s.n:Int):=by omega
     have hM:=(HS.out.j.c k hki1).2.at'
     have hnm:=hM.hn
     have hij:(i:Int)<((S.j.m k).n:Int):=by omega
     obtain rfl:ja=some ⟨S.j.s.b,S.j.s.o,none⟩:=HJA.out.trans (HS.out.j.s.ha (by omega))
     have hb1:∀ w',Ext w w'→S.j.s.b<w'.heap.size:=fun w' x=>Nat.lt_of_lt_of_le (HS.out.j.s.hb (by omega)) x.le
     have hb2:=hM.pb (by omega)
     have k1:∀ w',Ext w w'→w'.cell? ⟨S.j.s.b,S.j.s.o+k,none⟩=some (.slice (some ⟨(S.j.m k).b,(S.j.m k).off,none⟩) (S.j.m k).n (S.j.m k).cap):=fun w' x=>by
      rw [←hM.pa (by omega)];exact x.cell (HS.out.j.c k hki1).1
     have k2:∀ w',Ext w w'→w'.cell? ⟨(S.j.m k).b,(S.j.m k).off+i,none⟩=some (.slice ((S.j.m k).ra i) ((S.j.m k).rn i) ((S.j.m k).rc i)):=fun w' x=>hM.p0 w' x i hki2
     have hse:=HL.out wr hxwi k i hki
     generalize hP:LeqL ((S.j.m k).rn i) n ((S.j.m k).val i) v=P at hse
     have HP:=Lib.hid hP
     have HCI:=Lib.hid hli
     clear hP hki hM
     go_wp2_with fail
     go_at_call 43
     refine hse.mono ?_
     rintro e w2 ⟨b,rfl,hb,hx2⟩
     have HB:=Lib.hid hb
     have hx12:=hxi.trans hx2
     have hxw2:=hxwi.trans hx2
     clear hb hse
     cases b with
     | false =>
      go_wp2_with fail
      go_ret
      exact ⟨false,rfl,⟨fun h=>(by cases h),fun h=>absurd (HB.out.2 (by rw [←HP.out];exact h k i hlt (by rw [←HCK.out];exact HCI.out))) (by decide)⟩,hxw2⟩
     | true =>
      go_wp2_with fail
      go_roundg (ck.toNat - (i+1))
      case rel=>exact ⟨i+1,by omega,rfl,by go_num,hx12,fun j hj=>by
       by_cases e:j=i
       ·subst e
        exact HP.out▸HB.out.1 (by first | rfl | trivial)
       ·exact HA2.out j (by omega)⟩
      case measure=>omega
    ·go_wp2_with fail
     go_roundg (n - (k+1))
     case rel=>exact ⟨k+1,by omega,rfl,by go_num,hxi,fun q j hq hj=>by
      by_cases e:q=k
      ·subst e;rw [←HCK.out] at hj;exact HA2.out j (by omega)
      ·exact HA.out q j (by omega) hj⟩
     case measure=>omega
  ·obtain rfl:k=n:=by omega
   go_wp2_with fail
   go_ret
   exact ⟨true,rfl,⟨fun _=>HA.out,fun _=>rfl⟩,hxw⟩
set_option maxHeartbeats 4000000 in
theorem rvalid34_any (w:World) (T:TM) (hT:T.At w) (S:SlcD) (hS:S.At w):Calls Tryz.prog 20 #[T.val,S.val] w (BoolPost (S.Ok T.toTr) w):=by
 have hfs:=hS.f.s.hn
 have hls:=hS.l.s.hn
 have hjn:=hS.j.s.hn
 have htn:=hT.P.hn
 have HVL:=Lib.hid (fun W (x:Ext w W)=>rvalid_any W T (hT.ext x))
 have HC1:=Lib.hid (fun W (x:Ext w W) (hV:T.toTr.Valid)=>rcon22_any W T (hT.ext x) hV _ _ _ _ S.f.s.c _ (hS.f.num.ext x))
 have HC2:=Lib.hid (fun W (x:Ext w W) (hV:T.toTr.Valid)=>rcon22_any W T (hT.ext x) hV _ _ _ _ S.l.s.c _ (hS.l.num.ext x))
 have HLE:=Lib.hid (fun W (x:Ext w W)=>rleq_any W _ _ _ _ _ _ _ _ S.f.s.c S.l.s.c _ _ (hS.f.num.ext x) (hS.l.num.ext x))
 have HEL:=Lib.hid (fun W (x:Ext w W) (hV:T.toTr.Valid) p i (hp:p<T.n) (hi:i<(S.j.m p).n) (hSh:S.Heads T.toTr)=>rel34_any W T (hT.ext x) hV S (hS.ext x) p i hp hi hSh)
 have HT:=Lib.hid hT
 have HS:=Lib.hid hS
 obtain ⟨ta,hta⟩:∃ z,z=T.a:=⟨_,rfl⟩
 obtain ⟨ja,hja⟩:∃ z,z=S.j.s.a:=⟨_,rfl⟩
 obtain ⟨la,hla⟩:∃ z,z=S.l.s.a:=⟨_,rfl⟩
 obtain ⟨em,hem⟩:∃ z,z=S.em:=⟨_,rfl⟩
 have HTA:=Lib.hid hta
 have HJA:=Lib.hid hja
 have HLA:=Lib.hid hla
 have HEM:=Lib.hid hem
 simp only [TM.val,SlcD.val,SlD.v,←hta,←hja,←hla,←hem] at HVL HC1 HC2 HLE HEL ⊢
 clear hT hS hta hja hla hem
 go_enter Tryz.func20,Tryz.ntmps20
 go_upto_region 1 with fail
 refine boxed2 (w:=w) (G:=fun x=>Code.wp _ _ _ _ x) ?_
 intro w1 hx1 hs1 ⟨l0,c0,_,_⟩ ⟨l1,c1,_,_⟩
 have hx11:Ext w1 w1:=Ext.refl _
 clear hs1
 go_wp2_with fail
 go_at_call 11
 refine (HVL.out w1 hx1).mono ?_
 rintro e w2 ⟨b,rfl,hb,hx2⟩
 have HB:=Lib.hid hb
 have hxw2:=hx1.trans hx2
 have hx12:=hx2
 clear hb hx2
 cases b with
 | false =>
  go_wp2_with fail
  go_ret
  exact ⟨false,by first | rfl | simp,⟨fun h=>(by cases h),fun h=>absurd (HB.out.2 h.1) (by decide)⟩,hxw2⟩
 | true =>
 have HV:=Lib.hid (HB.out.1 rfl)
 clear HB
 cases em with
 | true =>
  have b1:((S.f.s.n:Int) == 0)=decide (S.f.s.n=0):=by cases h:decide (S.f.s.n=0) with
   | true => have:=of_decide_eq_true h;simp [this]
   | false => have:=of_decide_eq_false h;simp [this]
  have b2:((S.l.s.n:Int) == 0)=decide (S.l.s.n=0):=by cases h:decide (S.l.s.n=0) with
   | true => have:=of_decide_eq_true h;simp [this]
   | false => have:=of_decide_eq_false h;simp [this]
  have b3:((S.j.s.n:Int) == 0)=decide (S.j.s.n=0):=by cases h:decide (S.j.s.n=0) with
   | true => have:=of_decide_eq_true h;simp [this]
   | false => have:=of_decide_eq_false h;simp [this]
  have HO:=Lib.hid (show S.Ok T.toTr↔S.f.s.n=0∧S.l.s.n=0∧S.j.s.n=0 from
   ⟨fun h=>h.2.elim (fun k=>k.2) (fun k=>absurd (HEM.out.trans k.1) (by decide)),fun h=>⟨HV.out,.inl ⟨HEM.out.symm,h⟩⟩⟩)
  cases h1:decide (S.f.s.n=0) with
  | false =>
   rw [h1] at b1
   have H1:=Lib.hid h1
   clear h1
   go_wp2_with fail
   go_ret
   exact ⟨false,by first | rfl | simp,⟨fun h=>(by cases h),fun h=>absurd (HO.out.1 h).1 (of_decide_eq_false H1.out)⟩,hxw2⟩
  | true =>
   rw [h1] at b1
   have H1:=Lib.hid h1
   clear h1
   cases h2:decide (S.l.s.n=0) with
   | false =>
    rw [h2] at b2
    have H2:=Lib.hid h2
    clear h2
    go_wp2_with fail
    go_ret
    exact ⟨false,by first | rfl | simp,⟨fun h=>(by cases h),fun h=>absurd (HO.out.1 h).2.1 (of_decide_eq_false H2.out)⟩,hxw2⟩
   | true =>
    rw [h2] at b2
    have H2:=Lib.hid h2
    clear h2
    cases h3:decide (S.j.s.n=0) with
    | false =>
     rw [h3] at b3
     have H3:=Lib.hid h3
     clear h3
     go_wp2_with fail
     go_ret
     exact ⟨false,by first | rfl | simp,⟨fun h=>(by cases h),fun h=>absurd (HO.out.1 h).2.2 (of_decide_eq_false H3.out)⟩,hxw2⟩
    | true =>
     rw [h3] at b3
     have H3:=Lib.hid h3
     clear h3
     go_wp2_with fail
     go_ret
     exact ⟨true,by first | rfl | simp,⟨fun _=>HO.out.2 ⟨of_decide_eq_true H1.out,of_decide_eq_true H2.out,of_decide_eq_true H3.out⟩,fun _=>rfl⟩,hxw2⟩
 | false =>
  have HNE:=Lib.hid (show S.Ok T.toTr→S.Shaped T.toTr∧(∀ p i:Nat,p<T.n→i<T.en p→S.Right T.toTr p i)∧∀ p i:Nat,p<T.n→(i:Int)<S.l.z p→S.Clos p i from fun h=>h.2.elim (fun k=>absurd (HEM.out.trans k.1) (by decide)) (fun k=>k.2))
  go_wp2_with fail
  go_at_call 70
  refine (HC1.out w2 hxw2 HV.out).mono ?_
  rintro e w3 ⟨b,rfl,hb,hx3⟩
  have HB:=Lib.hid hb
  have hxw3:=hxw2.trans hx3
  have hx13:=hx12.trans hx3
  clear hb hx3
  cases b with
  | false =>
   go_wp2_with fail
   go_ret
   exact ⟨false,by first | rfl | simp,⟨fun h=>(by cases h),fun h=>absurd (HB.out.2 (HNE.out h).1.1.1) (by decide)⟩,hxw3⟩
  | true =>
  have HA:=Lib.hid (HB.out.1 rfl)
  clear HB
  go_wp2_with fail
  go_at_call 70
  refine (HC2.out w3 hxw3 HV.out).mono ?_
  rintro e w4 ⟨b,rfl,hb,hx4⟩
  have HB:=Lib.hid hb
  have hxw4:=hxw3.trans hx4
  have hx14:=hx13.trans hx4
  clear hb hx4
  cases b with
  | false =>
   go_wp2_with fail
   go_ret
   exact ⟨false,by first | rfl | simp,⟨fun h=>(by cases h),fun h=>absurd (HB.out.2 (HNE.out h).1.1.2.1) (by decide)⟩,hxw4⟩
  | true =>
  have HA2:=Lib.hid (HB.out.1 rfl)
  clear HB
  go_wp2_with fail
  go_at_call 43
  refine (HLE.out w4 hxw4).mono ?_
  rintro e w5 ⟨b,rfl,hb,hx5⟩
  have HB:=Lib.hid hb
  have hxw5:=hxw4.trans hx5
  have hx15:=hx14.trans hx5
  clear hb hx5
  cases b with
  | false =>
   go_wp2_with fail
   go_ret
   exact ⟨false,by first | rfl | simp,⟨fun h=>(by cases h),fun h=>absurd (HB.out.2 (HNE.out h).1.1.2.2.1) (by decide)⟩,hxw5⟩
  | true =>
  have HA3:=Lib.hid (HB.out.1 rfl)
  clear HB
  by_cases hjt:S.j.s.n=T.n
  case neg=>
   have d0:((S.j.s.n:Int) != (T.n:Int))=true:=by simp;omega
   have HJT:=Lib.hid hjt
   clear hjt
   go_wp2_with fail
   go_ret
   exact ⟨false,by first | rfl | simp,⟨fun h=>(by cases h),fun h=>absurd (HNE.out h).1.1.2.2.2 HJT.out⟩,hxw5⟩
  have d0:((S.j.s.n:Int) != (T.n:Int))=false:=by simp;omega
  have HHD:=Lib.hid (show S.Heads T.toTr from ⟨HA.out,HA2.out,HA3.out,hjt⟩)
  have HJT:=Lib.hid hjt
  clear hjt
  go_wp2_with fail
  go_loopg [5] S.j.s.n (fun gg v5 wr=>∃ k:Nat,k≤S.j.s.n∧gg=S.j.s.n - k∧v5=.int .i64 k∧Ext w1 wr∧∀ p,p<k→(S.j.m p).n=T.en p∧∀ i,i<T.en p→S.Right T.toTr p i)
  case atStart=>exact ⟨0,by omega,rfl,rfl,hx15,fun p h=>by omega⟩
  case round=>
   obtain ⟨k,hk,rfl,rfl,hxr,hall⟩:=hrel
   have HAL:=Lib.hid hall
   have hxwr:=hx1.trans hxr
   clear hall
   by_cases hlt:k<S.j.s.n
   ·have hlt':(k:Int)<(S.j.s.n:Int):=by omega
    have hkt:k<T.n:=by rw [←HJT.out];exact hlt
    have hkt':(k:Int)<(T.n:Int):=by omega
    obtain rfl:ta=some ⟨T.b,T.off,none⟩:=HTA.out.trans (HT.out.P.pa (by omega))
    obtain rfl:ja=some ⟨S.j.s.b,S.j.s.o,none⟩:=HJA.out.trans (HS.out.j.s.ha (by omega))
    have pb:=HT.out.P.pb (by omega)
    have p2:=fun w' (h:Ext w w')=>HT.out.P.p2 w' h k hkt
    have jb:∀ w',Ext w w'→S.j.s.b<w'.heap.size:=fun w' x=>Nat.lt_of_lt_of_le (HS.out.j.s.hb (by omega)) x.le
    have jc:∀ w',Ext w w'→w'.cell? ⟨S.j.s.b,S.j.s.o+k,none⟩=some (.slice (S.j.m k).a (S.j.m k).n (S.j.m k).cap):=fun w' x=>x.cell (HS.out.j.c k hlt).1
    have hmn:=(HS.out.j.c k hlt).2.at'.hn
    have hte:=HT.out.E.he k hkt
    obtain ⟨mn,hMN⟩:∃ z,z=(S.j.m k).n:=⟨_,rfl⟩
    rw [←hMN] at jc hmn
    have HMN:=Lib.hid hMN
    clear hMN
    by_cases he:mn=T.en k
    ·have d1:((mn:Int) != (T.en k:Int))=false:=by simp;omega
     have HE:=Lib.hid he
     clear he
     go_upto_region 10 with fail
     go_quiet (fail)
     have hq:=hxr.drewN nq
     have hqw:=hxwr.drewN nq
     generalize wr.drewN nq=w6 at hq hqw ⊢
     go_wp2_with fail
     go_loopg [6] mn (fun gg v6 ws=>∃ i:Nat,i≤mn∧gg=mn - i∧v6=.int .i64 i∧Ext w1 ws∧∀ j:Nat,j<i→S.Right T.toTr k j)
     case atStart=>exact ⟨0,by omega,rfl,rfl,hq,fun j h=>by omega⟩
     case round=>
      obtain ⟨i,hi,rfl,rfl,hxi,hal2⟩:=hrel
      have HB2:=Lib.hid hal2
      have hxwi:=hx1.trans hxi
      clear hal2
      by_cases hli:i<mn
      ·have hli':(i:Int)<(mn:Int):=by omega
       have hse:=HEL.out wr hxwi HV.out k i hkt (by rw [←HMN.out];exact hli) HHD.out
       generalize hP:S.Right T.toTr k i=P at hse
       have HP:=Lib.hid hP
       have HLI:=Lib.hid hli
       clear hP
       go_wp2_with fail
       go_at_call 71
       refine hse.mono ?_
       rintro e w7 ⟨b,rfl,hb,hx7⟩
       have HB:=Lib.hid hb
       have hx17:=hxi.trans hx7
       have hxw7:=hxwi.trans hx7
       clear hb hse
       cases b with
       | false =>
        go_wp2_with fail
        go_ret
        exact ⟨false,by first | rfl | simp,⟨fun h=>(by cases h),fun h=>absurd (HB.out.2 (by rw [←HP.out];exact (HNE.out h).2.1 k i hkt (by rw [←HE.out];exact HLI.out))) (by decide)⟩,hxw7⟩
       | true =>
        go_wp2_with fail
        go_roundg (mn - (i+1))
        case rel=>exact ⟨i+1,by omega,rfl,by go_num,hx17,fun j hj=>by
         by_cases e:j=i
         ·subst e
          exact HP.out▸HB.out.1 (by first | rfl | trivial)
         ·exact HB2.out j (by omega)⟩
        case measure=>omega
      ·obtain rfl:i=mn:=by omega
       go_wp2_with fail
       go_roundg (S.j.s.n - (k+1))
       case rel=>exact ⟨k+1,by omega,rfl,by go_num,hxi,fun p hp=>by
        by_cases e:p=k
        ·subst e;exact ⟨HMN.out.symm.trans HE.out,fun j hj=>HB2.out j (by rw [HE.out];exact hj)⟩
        ·exact HAL.out p (by omega)⟩
       case measure=>omega
    ·have d1:((mn:Int) != (T.en k:Int))=true:=by simp;omega
     have HE:=Lib.hid he
     clear he
     go_upto_region 10 with fail
     go_quiet (fail)
     have hqw:=hxwr.drewN nq
     go_wp2_with fail
     go_ret
     exact ⟨false,by first | rfl | simp,⟨fun h=>(by cases h),fun h=>absurd (HMN.out.trans ((HNE.out h).1.2 k hkt)) HE.out⟩,hqw⟩
   ·obtain rfl:k=S.j.s.n:=by omega
    have HSD:=Lib.hid (show S.Shaped T.toTr from ⟨HHD.out,fun p hp=>(HAL.out p (by rw [HJT.out];exact hp)).1⟩)
    have HR:=Lib.hid (show ∀ p i:Nat,p<T.n→i<T.en p→S.Right T.toTr p i from fun p i hp hi=>(HAL.out p (by rw [HJT.out];exact hp)).2 i hi)
    have HEN:=Lib.hid (show ∀ p,p<T.n→T.en p≤1000000 from fun p hp=>by have:=HV.out.en64 hp;omega)
    have HIN:=Lib.hid (show ∀ p i:Nat,p<T.n→(i:Int)<S.l.z p→i<T.en p∧T.toTr.IsCut ((S.j.m p).rn i) ((S.j.m p).val i) from fun p i hp hi=>by
     have h1:=(HSD.out.1.2.1.2.1 p hp).2
     have h2:i<T.en p:=by omega
     exact ⟨h2,(HR.out p i hp h2).cut HSD.out (by omega)⟩)
    clear HAL HEL HC1 HC2 HLE hk
    go_wp2_with fail
    go_loopg [7] S.j.s.n (fun gg v7 ws=>∃ k:Nat,k≤S.j.s.n∧gg=S.j.s.n - k∧v7=.int .i64 k∧Ext w1 ws∧∀ p i:Nat,p<k→(i:Int)<S.l.z p→S.Clos p i)
    case atStart=>exact ⟨0,by omega,rfl,rfl,hxr,fun p i h=>by omega⟩
    case round=>
     clear hxr hxwr
     obtain ⟨k,hk,rfl,rfl,hxr,hall⟩:=hrel
     have HAL:=Lib.hid hall
     have hxwr:=hx1.trans hxr
     clear hall
     by_cases hlt:k<S.j.s.n
     ·have hlt':(k:Int)<(S.j.s.n:Int):=by omega
      have hkt:k<T.n:=by rw [←HJT.out];exact hlt
      have hlk:(k:Int)<(S.l.s.n:Int):=by have:=HHD.out.2.1.1.2;omega
      obtain rfl:la=some ⟨S.l.s.b,S.l.s.o,none⟩:=HLA.out.trans (HS.out.l.s.ha (by omega))
      obtain rfl:ja=some ⟨S.j.s.b,S.j.s.o,none⟩:=HJA.out.trans (HS.out.j.s.ha (by omega))
      have lb:∀ w',Ext w w'→S.l.s.b<w'.heap.size:=fun w' x=>Nat.lt_of_lt_of_le (HS.out.l.s.hb (by omega)) x.le
      obtain ⟨lk,hlk2⟩:∃ z,z=S.l.z k:=⟨_,rfl⟩
      have lc:∀ w',Ext w w'→w'.cell? ⟨S.l.s.b,S.l.s.o+k,none⟩=some (.int .i64 lk):=fun w' x=>by rw [hlk2];exact x.cell (HS.out.l.c k (by omega)).1
      have hlb:lk≤1000000:=by rw [hlk2];have h1:=(HSD.out.1.2.1.2.1 k hkt).2;have h2:=HEN.out k hkt;omega
      have HLK:=Lib.hid hlk2
      have jb:∀ w',Ext w w'→S.j.s.b<w'.heap.size:=fun w' x=>Nat.lt_of_lt_of_le (HS.out.j.s.hb (by omega)) x.le
      have jc:∀ w',Ext w w'→w'.cell? ⟨S.j.s.b,S.j.s.o+k,none⟩=some (.slice (S.j.m k).a (S.j.m k).n (S.j.m k).cap):=fun w' x=>x.cell (HS.out.j.c k hlt).1
      obtain ⟨ma,hma⟩:∃ z,z=(S.j.m k).a:=⟨_,rfl⟩
      rw [←hma] at jc
      have HMA:=Lib.hid hma
      have hmn:=(HS.out.j.c k hlt).2.at'.hn
      clear hlk2 hma
      go_wp2_with fail
      go_loopg [8] lk.toNat (fun gg v8 ws=>∃ i:Nat,i≤lk.toNat∧gg=lk.toNat - i∧v8=.int .i64 i∧Ext w1 ws∧∀ j:Nat,j<i→S.Clos k j)
      case atStart=>exact ⟨0,by omega,rfl,rfl,hxr,fun j h=>by omega⟩
      case round=>
       obtain ⟨i,hi,rfl,rfl,hxi,hal2⟩:=hrel
       have HB2:=Lib.hid hal2
       have hxwi:=hx1.trans hxi
       clear hal2
       by_cases hli:(i:Int)<lk
       ·have hin:=HIN.out k i hkt (by rw [←HLK.out];exact hli)
        have hin1:i<(S.j.m k).n:=by rw [HSD.out.2 k hkt];exact hin.1
        have hM:=(HS.out.j.c k hlt).2.at'
        obtain rfl:ma=some ⟨(S.j.m k).b,(S.j.m k).off,none⟩:=HMA.out.trans (hM.pa (by omega))
        have hij:(i:Int)<((S.j.m k).n:Int):=by omega
        have hb2:=hM.pb (by omega)
        have k2:∀ w',Ext w w'→w'.cell? ⟨(S.j.m k).b,(S.j.m k).off+i,none⟩=some (.slice ((S.j.m k).ra i) ((S.j.m k).rn i) ((S.j.m k).rc i)):=fun w' x=>hM.p0 w' x i hin1
        obtain ⟨b,hb⟩:=exists_bool (S.Clos k i)
        have HCL:=Lib.hid (fun W (x:Ext w W)=>(rclos34_any W S (HS.out.ext x) _ _ _ _ ((S.j.m k).rc i) _ (((HS.out.j.c k hlt).2.num hin1).ext x)
         (fun q hq=>by have h1:=hin.2;have h2:=(h1.2.1 q (by have:=h1.1.2;omega)).2;have h3:=HEN.out q (by have:=h1.1.2;omega);omega)
         (fun q j hq hj=>by
          have h1:=hin.2
          have hq':q<T.n:=by have:=h1.1.2;omega
          have h2:=(h1.2.1 q hq').2
          exact ⟨by have:=HJT.out;omega,by rw [HSD.out.2 q hq'];omega⟩)).mono fun e w' h=>BoolPost.fix (b:=b) hb h)
        simp only [SlcD.val,SlD.v] at HCL
        rw [HS.out.j.s.ha (by omega),HS.out.l.s.ha (by omega),←HEM.out] at HCL
        have HB:=Lib.hid hb
        have HLI:=Lib.hid hli
        have hg0:∀ d os,Ext w (Sort.grow (redrawn wr d) os):=fun d os=>hxwi.trans (below_regrown wr d os)
        have hg1:∀ d os,Ext w1 (Sort.grow (redrawn wr d) os):=fun d os=>hxi.trans (below_regrown wr d os)
        clear hin hM hb
        go_upto_region 23 with fail
        refine wp_region_quiet_below (by kernel_rfl) (by kernel_rfl) ?_
        repeat (go_big_quiet_step (exact Calls.regrown_of (HCL.out _ (hg0 _ _))))
        refine wpQuiet_nil ?_
        intro _ hw'
        obtain ⟨⟨dq,osq⟩,hw''⟩:=hw'
        subst hw''
        have hxw9:=hg0 dq osq
        have hx19:=hg1 dq osq
        clear hg0 hg1 HCL
        generalize Sort.grow (redrawn wr dq) osq=w9 at hxw9 hx19 ⊢
        cases b with
        | false =>
         go_wp2_with fail
         go_ret
         exact ⟨false,by first | rfl | simp,⟨fun h=>(by cases h),fun h=>absurd (HB.out.2 ((HNE.out h).2.2 k i hkt (by rw [←HLK.out];exact HLI.out))) (by decide)⟩,hxw9⟩
        | true =>
         go_wp2_with fail
         go_roundg (lk.toNat - (i+1))
         case rel=>exact ⟨i+1,by omega,rfl,by go_num,hx19,fun j hj=>by
          by_cases e:j=i
          ·subst e
           exact HB.out.1 (by first | rfl | trivial)
          ·exact HB2.out j (by omega)⟩
         case measure=>omega
       ·go_wp2_with fail
        go_roundg (S.j.s.n - (k+1))
        case rel=>exact ⟨k+1,by omega,rfl,by go_num,hxi,fun p j hp hj=>by
         by_cases e:p=k
         ·subst e;rw [←HLK.out] at hj;exact HB2.out j (by omega)
         ·exact HAL.out p j (by omega) hj⟩
        case measure=>omega
     ·obtain rfl:k=S.j.s.n:=by omega
      go_wp2_with fail
      go_ret
      exact ⟨true,rfl,⟨fun _=>⟨HV.out,.inr ⟨HEM.out.symm,HSD.out,HR.out,fun p i hp hi=>HAL.out p i (by rw [HJT.out];exact hp) hi⟩⟩,fun _=>rfl⟩,hxwr⟩
end Go.Proofs.YtlfdfkbmollaaaaGreatDoor
