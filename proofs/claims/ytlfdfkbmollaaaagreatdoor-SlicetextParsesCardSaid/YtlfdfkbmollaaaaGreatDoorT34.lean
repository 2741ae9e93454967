/- Contracts and laws in plain Lean for RApp: group T34. -/
import Derived.Test.YtlfdfkbmollaaaaGreatDoorT20
import Derived.Test.YtlfdfkbmollaaaaGreatDoorT16
set_option maxRecDepth 100000
namespace Go.Proofs.YtlfdfkbmollaaaaGreatDoor
open Go.RowKit Go.Shelf
set_option maxHeartbeats 1000000 in
theorem rcut12_any (w : World) (T : TM) (hT : T.At w) (a : Option Addr) (g o n cap : Nat) (v : Nat → Int) (hC : NumAt w n a g o v) :
    Calls Tryz.prog 99 #[T.val,.slice a n cap] w (BoolPost (n=T.n∧T.toTr.InR T.n v) w):=by
 generalize hP:(n=T.n∧T.toTr.InR T.n v)=P
 have HP:=Lib.hid (show P↔(n=T.n∧T.toTr.InR T.n v) from by rw [←hP])
 clear hP
 have HT:=Lib.hid hT
 have HC:=Lib.hid hC
 have hn0:=hT.P.hn
 have hcn:=hC.hn
 obtain ⟨ta,hta⟩:∃ z,z=T.a:=⟨_,rfl⟩
 have HTA:=Lib.hid hta
 simp only [TM.val]
 rw [←hta]
 clear hT hC hta
 go_enter Tryz.func99,Tryz.ntmps99
 go_upto_region 1 with fail
 refine boxed1 (w:=w) (G:=fun x=>Code.wp _ _ _ _ x) ?_
 intro w1 hx1 hs1 ⟨l0,c0,_,_⟩
 have hx11:Ext w1 w1:=Ext.refl _
 clear hs1
 by_cases hnn:n=T.n
 case neg=>
  have d0:((n:Int) == (T.n:Int))=false:=by simpa using fun h:(n:Int)=T.n=>hnn (by omega)
  have d0':(n == T.n)=false:=by simpa using hnn
  go_wp2_with fail
  go_ret
  exact ⟨false,rfl,⟨fun h=>(by cases h),fun h=>absurd (HP.out.1 h).1 hnn⟩,hx1⟩
 subst hnn
 have d0:((T.n:Int) == (T.n:Int))=true:=by simp
 go_wp2_with fail
 go_loopg [5] T.n (fun gg v5 wr=>∃ k:Nat,k≤T.n∧gg=T.n - k∧v5=.int .i64 k∧Ext w1 wr∧∀ p,p<k→0≤v p∧v p≤T.en p)
 case atStart=>exact ⟨0,by omega,rfl,rfl,hx11,fun p h=>by omega⟩
 case round=>
  obtain ⟨k,hk,rfl,rfl,hxr,hall⟩:=hrel
  have HA:=Lib.hid hall
  have hxw:=hx1.trans hxr
  clear hall
  by_cases hlt:k<T.n
  ·have hlt':(k:Int)<(T.n:Int):=by omega
   obtain rfl:ta=some ⟨T.b,T.off,none⟩:=by rw [HTA.out];exact HT.out.P.pa (by omega)
   have hen:=HT.out.E.he k hlt
   have pb:=HT.out.P.pb (by omega)
   have p2:∀ w',Ext w w'→w'.cell? ⟨T.b,T.off+k*3+2,none⟩=some (.slice (T.ea k) (T.en k) (T.ec k)):=fun w' h=>HT.out.P.p2 w' h k hlt
   obtain rfl:=HC.out.pa (by omega)
   have gb:∀ w',Ext w w'→g<w'.heap.size:=fun w' x=>Nat.lt_of_lt_of_le (HC.out.pb (by omega)) x.le
   obtain ⟨vk,hvk⟩:∃ z,z=v k:=⟨_,rfl⟩
   have gc:∀ w',Ext w w'→w'.cell? ⟨g,o+k,none⟩=some (.int .i64 vk):=fun w' x=>by rw [hvk];exact x.cell (HC.out.c k hlt)
   have HVK:=Lib.hid hvk
   clear hvk
   by_cases h0:vk<0
   ·have d1:decide (vk<0)=true:=decide_eq_true h0
    go_upto_region 6 with fail
    go_quiet (fail)
    have hq:=hxw.drewN nq
    go_wp2_with fail
    go_ret
    exact ⟨false,rfl,⟨fun h=>(by cases h),fun h=>absurd ((HP.out.1 h).2 k hlt).1 (by rw [←HVK.out];omega)⟩,hq⟩
   ·have d1:decide (vk<0)=false:=decide_eq_false h0
    by_cases h1:(T.en k:Int)<vk
    ·have d2:decide ((T.en k:Int)<vk)=true:=decide_eq_true h1
     go_upto_region 6 with fail
     go_quiet (fail)
     have hq:=hxw.drewN nq
     go_wp2_with fail
     go_ret
     exact ⟨false,rfl,⟨fun h=>(by cases h),fun h=>absurd ((HP.out.1 h).2 k hlt).2 (by rw [←HVK.out];omega)⟩,hq⟩
    ·have d2:decide ((T.en k:Int)<vk)=false:=decide_eq_false h1
     go_upto_region 6 with fail
     go_quiet (fail)
     have hq:=hxr.drewN nq
     go_wp2_with fail
     go_roundg (T.n - (k+1))
     case rel=>exact ⟨k+1,by omega,rfl,by go_num,hq,fun p hp=>by
      by_cases e:p=k
      ·subst e;rw [←HVK.out];omega
      ·exact HA.out p (by omega)⟩
     case measure=>omega
  ·obtain rfl:k=T.n:=by omega
   go_wp2_with fail
   go_ret
   exact ⟨true,rfl,⟨fun _=>HP.out.2 ⟨by first | rfl | trivial,HA.out⟩,fun _=>rfl⟩,hxw⟩
set_option maxHeartbeats 4000000 in
theorem rcon12_any (w : World) (T : TM) (hT : T.At w) (hV : T.toTr.Valid) (a : Option Addr) (g o cap : Nat) (v : Nat → Int) (hC : NumAt w T.n a g o v) (hR : T.toTr.InR T.n v) :
    Calls Tryz.prog 100 #[T.val,.slice a T.n cap] w (BoolPost (T.toTr.ClC v) w):=by
 have HT:=Lib.hid hT
 have HV:=Lib.hid hV
 have HC:=Lib.hid hC
 have HR:=Lib.hid hR
 have hn8:=hV.n8
 have hn1:=hV.n1
 have HFI:=Lib.hid (fun W (h:Ext w W) m=>rfind_any W T (hT.ext h) (by omega) 2 m)
 obtain ⟨ta,hta⟩:∃ z,z=T.a:=⟨_,rfl⟩
 have HTA:=Lib.hid hta
 simp only [TM.val] at HFI ⊢
 rw [←hta] at HFI
 rw [←hta]
 clear hT hV hC hR hta
 go_enter Tryz.func100,Tryz.ntmps100
 go_upto_region 1 with fail
 refine boxed1 (w:=w) (G:=fun x=>Code.wp _ _ _ _ x) ?_
 intro w1 hx1 hs1 ⟨l0,c0,_,_⟩
 have hx11:Ext w1 w1:=Ext.refl _
 clear hs1
 go_wp2_with fail
 go_loopg [5] T.n (fun gg v5 wr=>∃ k:Nat,k≤T.n∧gg=T.n - k∧v5=.int .i64 k∧Ext w1 wr∧∀ x,T.toTr.V x→x.1<k→(x.2:Int)<v x.1→T.kind x.1 x.2=3→((T.toTr.sndN x).2:Int)<v (T.toTr.sndN x).1)
 case atStart=>exact ⟨0,by omega,rfl,rfl,hx11,fun x _ h=>by omega⟩
 case round=>
  obtain ⟨k,hk,rfl,rfl,hxr,hall⟩:=hrel
  have HA:=Lib.hid hall
  have hxw:=hx1.trans hxr
  clear hall
  by_cases hlt:k<T.n
  ·have hlt':(k:Int)<(T.n:Int):=by omega
   obtain rfl:ta=some ⟨T.b,T.off,none⟩:=by rw [HTA.out];exact HT.out.P.pa (by omega)
   have hen:=HV.out.en64 hlt
   have pb:=HT.out.P.pb (by omega)
   have p2:∀ w',Ext w w'→w'.cell? ⟨T.b,T.off+k*3+2,none⟩=some (.slice (T.ea k) (T.en k) (T.ec k)):=fun w' h=>HT.out.P.p2 w' h k hlt
   obtain rfl:=HC.out.pa (by omega)
   have gb:∀ w',Ext w w'→g<w'.heap.size:=fun w' x=>Nat.lt_of_lt_of_le (HC.out.pb (by omega)) x.le
   have hrk:=HR.out k hlt
   obtain ⟨ck,hck⟩:∃ ck:Nat,v k=ck:=⟨(v k).toNat,by omega⟩
   have gc:∀ w',Ext w w'→w'.cell? ⟨g,o+k,none⟩=some (.int .i64 (ck:Int)):=fun w' x=>by rw [←hck];exact x.cell (HC.out.c k hlt)
   rw [hck] at hrk
   have hck64:ck≤T.en k:=by omega
   have HCK:=Lib.hid hck
   clear hck
   obtain ⟨ea,hea⟩:∃ z,z=T.ea k:=⟨_,rfl⟩
   rw [←hea] at p2
   have HEA:=Lib.hid hea
   clear hea
   go_wp2_with fail
   go_loopg [6] ck (fun gg v6 wr=>∃ i:Nat,i≤ck∧gg=ck - i∧v6=.int .i64 i∧Ext w1 wr∧∀ x,T.toTr.V x→(x.1<k∨(x.1=k∧x.2<i))→(x.2:Int)<v x.1→T.kind x.1 x.2=3→((T.toTr.sndN x).2:Int)<v (T.toTr.sndN x).1)
   case atStart=>exact ⟨0,by omega,rfl,rfl,hxr,fun x hx h=>HA.out x hx (by omega)⟩
   case round=>
    obtain ⟨i,hi,rfl,rfl,hxi,hall⟩:=hrel
    have HA2:=Lib.hid hall
    have hxwi:=hx1.trans hxi
    clear hall
    by_cases hli:i<ck
    ·have hli':(i:Int)<(ck:Int):=by omega
     have hie:i<T.en k:=by omega
     have hie':(i:Int)<(T.en k:Int):=by omega
     obtain rfl:ea=some ⟨T.eb k,T.eo k,none⟩:=by rw [HEA.out];exact HT.out.E.ea k hlt (by omega)
     have eb:=HT.out.E.eb k hlt (by omega)
     have e0:∀ w',Ext w w'→w'.cell? ⟨T.eb k,T.eo k+i*5,none⟩=some (.int .i64 (T.kind k i)):=fun w' x=>HT.out.E.e0 w' x k i hlt hie
     have e1:∀ w',Ext w w'→w'.cell? ⟨T.eb k,T.eo k+i*5+1,none⟩=some (.int .i64 (T.peer k i)):=fun w' x=>HT.out.E.e1 w' x k i hlt hie
     have e2:∀ w',Ext w w'→w'.cell? ⟨T.eb k,T.eo k+i*5+2,none⟩=some (.int .i64 (T.msg k i)):=fun w' x=>HT.out.E.e2 w' x k i hlt hie
     have e3:∀ w',Ext w w'→w'.cell? ⟨T.eb k,T.eo k+i*5+3,none⟩=some (.int .i64 (T.time k i)):=fun w' x=>HT.out.E.e3 w' x k i hlt hie
     have e4:∀ w',Ext w w'→w'.cell? ⟨T.eb k,T.eo k+i*5+4,none⟩=some (.slice (T.aa k i) (T.an k i) (T.ac k i)):=fun w' x=>HT.out.E.e4 w' x k i hlt hie
     obtain ⟨kd,hkd⟩:∃ z,z=T.kind k i:=⟨_,rfl⟩
     rw [←hkd] at e0
     have HKD:=Lib.hid hkd
     clear hkd
     go_upto_region 8 with fail
     refine boxed1 (w:=wr) (G:=fun x=>Code.wp _ _ _ _ x) ?_
     intro w4 hx4 hs4 ⟨l4,c4,_,_⟩
     have hx44:Ext w4 w4:=Ext.refl _
     have hx14:=hxi.trans hx4
     have hxw4:=hx1.trans hx14
     clear hs4 e0 e1 e2 e3 e4 eb
     by_cases h3:kd=3
     ·subst h3
      obtain ⟨⟨sp,si⟩,hsn⟩:∃ s,s=T.toTr.sndN (k,i):=⟨_,rfl⟩
      have hsv:=Tr.sndN_V (T:=T.toTr) (y:=(k,i)) ⟨hlt,hie⟩
      rw [←hsn] at hsv
      have hsp:sp<T.n:=hsv.1
      have hsi:si<T.en sp:=hsv.2
      have hse:=HV.out.en64 hsp
      have hFi:Calls Tryz.prog 144 #[.agg #[.slice (some ⟨T.b,T.off,none⟩) T.n T.cap],.int .i64 2,.int .i64 (T.msg k i)] w4 fun e w'=>e=.returned (.agg #[.int .i64 sp,.int .i64 (si+1)])∧Ext w4 w':=by
       have h1:=HFI.out w4 hxw4 (T.msg k i)
       have h2:=Tr.Pre.first_snd (T:=T.toTr) (Tr.valid_iff.1 HV.out).1 ⟨(k,i),hlt,hie⟩ HKD.out.symm
       rw [h2,←Tr.sndN_eq,←hsn] at h1
       exact h1
      have HSN:=Lib.hid hsn
      have hrs:=HR.out sp hsp
      obtain ⟨cs,hcs⟩:∃ z:Int,z=v sp:=⟨_,rfl⟩
      have gs:∀ w',Ext w w'→w'.cell? ⟨g,o+sp,none⟩=some (.int .i64 cs):=fun w' x=>by rw [hcs];exact x.cell (HC.out.c sp hsp)
      have HCS:=Lib.hid hcs
      have hsp':(sp:Int)<(T.n:Int):=by omega
      clear hsn hsv hcs
      go_upto_region 10 with (go_at_call 144;refine hFi.mono ?_;rintro e w5 ⟨rfl,hx5⟩;have hx45:Ext w4 w5:=hx5)
      refine boxed1 (w:=w5) (G:=fun x=>Code.wp _ _ _ _ x) ?_
      intro w6 hx6 hs6 ⟨l6,c6,_,_⟩
      have hx46:=hx45.trans hx6
      have hx16:=hx14.trans hx46
      have hxw6:=hxw4.trans hx46
      have hx66:Ext w6 w6:=Ext.refl _
      clear hs6 hFi
      by_cases hgt:cs<(si:Int)+1
      ·have d1:decide (cs<(si:Int)+1)=true:=decide_eq_true hgt
       go_quiet (fail)
       have hq:=hxw6.drewN nq
       go_wp2_with fail
       go_ret
       refine ⟨false,rfl,⟨fun h=>(by cases h),fun h=>?_⟩,hq⟩
       exfalso
       have h9:=h (k,i) ⟨hlt,hie⟩ (by rw [HCK.out];exact hli') HKD.out.symm
       rw [←HSN.out] at h9
       dsimp only at h9
       rw [←HCS.out] at h9
       omega
      ·have d1:decide (cs<(si:Int)+1)=false:=decide_eq_false hgt
       go_quiet (fail)
       have hq:=hx16.drewN nq
       go_wp2_with fail
       go_roundg (ck - (i+1))
       case rel=>exact ⟨i+1,by omega,rfl,by go_num,hq,fun x hx h1 h2 h4=>by
        by_cases e:x=(k,i)
        ·subst e
         rw [←HSN.out]
         dsimp only
         rw [←HCS.out];omega
        ·refine HA2.out x hx ?_ h2 h4
         rcases h1 with h1 | ⟨h1,h5⟩
         ·exact .inl h1
         ·refine .inr ⟨h1,?_⟩
          have h6:x.2≠i:=fun h7=>e (Prod.ext h1 h7)
          omega⟩
       case measure=>omega
     ·have d1:(kd == 3)=false:=by simpa using h3
      go_wp2_with fail
      go_roundg (ck - (i+1))
      case rel=>exact ⟨i+1,by omega,rfl,by go_num,hx14,fun x hx h1 h2 h4=>by
       by_cases e:x=(k,i)
       ·subst e
        exact absurd (HKD.out.trans h4) h3
       ·refine HA2.out x hx ?_ h2 h4
        rcases h1 with h1 | ⟨h1,h5⟩
        ·exact .inl h1
        ·refine .inr ⟨h1,?_⟩
         have h6:x.2≠i:=fun h7=>e (Prod.ext h1 h7)
         omega⟩
      case measure=>omega
    ·obtain rfl:i=ck:=by omega
     go_wp2_with fail
     go_roundg (T.n - (k+1))
     case rel=>exact ⟨k+1,by omega,rfl,by go_num,hxi,fun x hx h1 h2=>HA2.out x hx (by
      rcases Nat.lt_or_ge x.1 k with h | h
      ·exact .inl h
      ·have e:x.1=k:=by omega
       refine .inr ⟨e,?_⟩
       rw [e,HCK.out] at h2;omega) h2⟩
     case measure=>omega
  ·obtain rfl:k=T.n:=by omega
   go_wp2_with fail
   go_ret
   exact ⟨true,rfl,⟨fun _ x hx=>HA.out x hx hx.1,fun _=>rfl⟩,hxw⟩
set_option maxHeartbeats 1000000 in
theorem ris23_any (w : World) (T : TM) (hT : T.At w) (hV : T.toTr.Valid) (a : Option Addr) (g o n cap : Nat) (v : Nat → Int) (hC : NumAt w n a g o v) :
    Calls Tryz.prog 42 #[T.val,.slice a n cap] w (BoolPost (T.toTr.IsCut n v) w):=by
 have HC1:=Lib.hid (fun W (h:Ext w W)=>rcut12_any W T (hT.ext h) a g o n cap v (hC.ext h))
 have HC2:=Lib.hid (fun W (h:Ext w W) (hn:n=T.n) (hR:T.toTr.InR T.n v)=>(show Calls Tryz.prog 100 #[T.val,.slice a n cap] W (BoolPost (T.toTr.ClC v) W) from by
  subst hn;exact rcon12_any W T (hT.ext h) hV a g o cap v (hC.ext h) hR))
 have HV:=Lib.hid hV
 simp only [TM.val] at HC1 HC2 ⊢
 clear hT hC hV
 go_enter Tryz.func42,Tryz.ntmps42
 go_upto_region 1 with fail
 refine boxed1 (w:=w) (G:=fun x=>Code.wp _ _ _ _ x) ?_
 intro w1 hx1 hs1 ⟨l0,c0,_,_⟩
 have hx11:Ext w1 w1:=Ext.refl _
 clear hs1
 go_wp2_with fail
 go_at_call 99
 refine (HC1.out w1 hx1).mono ?_
 rintro e w2 ⟨b,rfl,hb,hx2⟩
 have HB:=Lib.hid hb
 have hxw2:=hx1.trans hx2
 clear hb
 cases b with
 | false =>
  go_wp2_with fail
  go_ret
  exact ⟨false,rfl,⟨fun h=>(by cases h),fun h=>absurd (HB.out.2 ⟨h.1.2,h.2.1⟩) (by decide)⟩,hxw2⟩
 | true =>
  have HR:=Lib.hid (HB.out.1 (by first | rfl | trivial))
  have hc2:=HC2.out w2 hxw2 HR.out.1 HR.out.2
  go_wp2_with fail
  go_at_call 100
  refine hc2.mono ?_
  rintro e w3 ⟨b,rfl,hb,hx3⟩
  have HB2:=Lib.hid hb
  have hxw3:=hxw2.trans hx3
  clear hb hc2
  go_wp2_with fail
  go_ret
  exact ⟨b,rfl,⟨fun h=>⟨⟨HV.out,HR.out.1⟩,HR.out.2,HB2.out.1 h⟩,fun h=>HB2.out.2 h.2.2⟩,hxw3⟩
end Go.Proofs.YtlfdfkbmollaaaaGreatDoor
