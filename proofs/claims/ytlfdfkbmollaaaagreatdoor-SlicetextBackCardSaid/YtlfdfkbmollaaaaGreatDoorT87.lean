/- Contracts and laws in plain Lean for RApp: group T87. -/
import Derived.Test.YtlfdfkbmollaaaaGreatDoorT86
import Derived.Test.YtlfdfkbmollaaaaGreatDoorT84
import Derived.Test.YtlfdfkbmollaaaaGreatDoorT80
import Derived.Test.YtlfdfkbmollaaaaGreatDoorT70
import Derived.Test.YtlfdfkbmollaaaaGreatDoorT36
namespace Go.Proofs.YtlfdfkbmollaaaaGreatDoor.slicetextBack
open Go.ChangeShapes Go.WideShapes Go.ChangeAt Go.RowKit Go.Shelf Go.Proofs.YtlfdfkbmollaaaaGreatDoor
set_option linter.unusedVariables false
attribute [local go_sem] Oper.semAt_some
set_option maxRecDepth 100000 in
set_option maxHeartbeats 4000000 in
theorem walk (T : TM) (S : SlcD) (s : ByteArray) (w : World) (hT : T.At w) (hS : S.At w) (_hs : s.size ≤ maxLen) (hL : LibB w) :
    Calls Tryz.prog 4 #[T.val,S.val,.string s] w fun e w'=>e=.returned (.bool true)∧Ext w w':=by
 obtain ⟨l,rfl⟩:∃ l,s=bts l:=⟨s.data.toList,(btsB s).symm⟩
 have hzl:=bts_size l
 have HAW:=Lib.hid (fun W (x:Ext w W)=>awake36_any W (hL.ext x))
 have HSM:=Lib.hid (fun W (x:Ext w W)=>sml36_any W T (hT.ext x))
 have HFE:=Lib.hid (fun W (x:Ext w W)=>sfew_any W S (hS.ext x))
 have HTX:=Lib.hid (fun (h:tot T.en T.n≤39) W (x:Ext w W) S (hS:SlcD.At S W)=>text_ans W (hL.ext x) T (hT.ext x) S hS h)
 have HPT:=Lib.hid (fun l W (x:Ext w W)=>parse_any W (hL.ext x) T (hT.ext x) l)
 have HSV:=Lib.hid (fun W (x:Ext w W) S (hS:SlcD.At S W)=>svalid_any W T (hT.ext x) S hS)
 have HS:=Lib.hid (fun W (x:Ext w W)=>hS.ext x)
 simp only [TM.val] at HSM HTX HPT HSV ⊢
 clear hT hS hL _hs
 go_enter Tryz.func4,Tryz.ntmps4
 go_upto_region 1 with fail
 refine boxed2 (w:=w) (G:=fun x=>Code.wp _ _ _ _ x) ?_
 intro w1 hx1 hs1 ⟨l0,c0,_,_⟩ ⟨l1,c1,_,_⟩
 have hx11:Ext w1 w1:=Ext.refl _
 clear hs1
 go_wp2_with fail
 go_at_call 8
 refine (HAW.out w1 hx1).mono ?_
 rintro e w2 ⟨rfl,hx12⟩
 have hxw2:=hx1.trans hx12
 clear HAW
 go_wp2_with fail
 go_at_call 9
 refine (HSM.out w2 hxw2).mono ?_
 rintro e w3 ⟨hx23,b,rfl,hb⟩
 have hxw3:=hxw2.trans hx23
 have hx13:=hx12.trans hx23
 have HB:=Lib.hid hb
 clear HSM hb
 rcases b with _ | _
 ·have hway:=0
  clear hway
  go_wp2_with fail
  go_ret
  exact ⟨rfl,hxw3⟩
 have h24:tot T.en T.n≤39:=by have:=HB.out rfl;omega
 have H24:=Lib.hid h24
 clear HB h24
 go_wp2_with fail
 go_at_call 14
 refine (HFE.out w3 hxw3).mono ?_
 rintro e w4 ⟨b,rfl,-,hx34⟩
 have hxw4:=hxw3.trans hx34
 have hx14:=hx13.trans hx34
 clear HFE
 rcases b with _ | _
 ·have hway:=0
  clear hway
  go_wp2_with fail
  go_ret
  exact ⟨rfl,hxw4⟩
 by_cases hlen:2000<l.length
 ·have d1:decide ((2000:Int)<(l.length:Int))=true:=decide_eq_true (by omega)
  clear hlen
  go_wp2_with fail
  go_ret
  exact ⟨rfl,hxw4⟩
 have d1:decide ((2000:Int)<(l.length:Int))=false:=decide_eq_false (by omega)
 have HL2:=Lib.hid (show l.length≤2000 from by omega)
 clear hlen
 go_wp2_with fail
 go_at_call 15
 refine (HTX.out H24.out w4 hxw4 S (HS.out _ hxw4)).mono ?_
 rintro e w5 ⟨hx45,x,ec,rfl,ha⟩
 have HTA:=Lib.hid ha
 have hxw5:=hxw4.trans hx45
 have hx15:=hx14.trans hx45
 have h55:Ext w5 w5:=Ext.refl _
 clear ha d1
 go_upto_if 41 with fail
 go_cut [9,10,11,12,13] (fun _ _ _ _ _ wx=>Ext w5 wx)
 case first=>
  by_cases h0:ec=0
  case neg=>
   have d0:(ec == 0)=false:=by simpa using h0
   clear h0
   go_wp2_with fail
   go_meet
   case rel=>exact Ext.refl _
  subst h0
  have hok:S.Ok T.toTr:=Classical.byContradiction fun h=>absurd (HTA.out.no h).2 (by decide)
  have HOK:=Lib.hid hok
  obtain ⟨hxl,h16⟩:x=rtexV T.toTr S∧x.length≤16384:=by
   rcases (HTA.out.yes hok).2 with ⟨_,_,h⟩ | ⟨h1,h2,_⟩
   ·cases h
   ·exact ⟨h2,by rw [h2];omega⟩
  have HXL:=Lib.hid (And.intro hxl h16)
  clear hok hxl h16 HTA
  go_upto_region 8 with (go_at_call 10;refine (HPT.out x w5 hxw5).mono ?_;rintro e w6 hp;obtain ⟨hx56,S',s,hS',hi',hi,rfl⟩:=parse_text hp HOK.out HXL.out.1 HXL.out.2;clear hp)
  refine boxed2 (w:=w6) (G:=fun x=>Code.wp _ _ _ _ x) ?_
  intro w7 hx67 _ ⟨l9,c9,_,_⟩ ⟨l10,c10,_,_⟩
  have hx57:=hx56.trans hx67
  have hx17:=hx15.trans hx57
  have hxw7:=hxw5.trans hx57
  have h77:Ext w7 w7:=Ext.refl _
  have HI:=Lib.hid (And.intro hi' hi)
  have HS':=Lib.hid (fun W (x:Ext w7 W)=>hS'.ext (hx67.trans x))
  clear hi hi' hS'
  obtain ⟨em,hem⟩:∃ z,z=S.em:=⟨_,rfl⟩
  have HEM:=Lib.hid hem
  obtain ⟨N,hN⟩:∃ N,N=linesN T.toTr S:=⟨_,rfl⟩
  have HN:=Lib.hid hN
  have HS0:=Lib.hid (HS.out w1 hx1)
  have HSA:=Lib.hid (fun W (x:Ext w7 W)=>same34_any W S' S s (HS'.out W x) (HS.out W (hxw7.trans x)) HI.out.1 HI.out.2)
  have HCO:=Lib.hid (fun W=>Tryz.strings_Count_one (bts x) 10 W)
  simp only [SlcD.val,←hem] at HSA c1
  clear hem hN
  go_upto_if 51 with fail
  go_cut [12] (fun v12 wx=>Ext w7 wx∧v12=.int .i64 (N:Int))
  case first=>
   cases em with
   | true =>
    have e1:N=1:=by rw [HN.out];exact if_pos HEM.out.symm
    subst e1
    go_wp2_with fail
    go_meet
    case rel=>exact ⟨Ext.refl _,rfl⟩
   | false =>
    have hN2:N=2+(ownL S.f.z S.l.z T.n).length:=by rw [HN.out];exact if_neg (by rw [←HEM.out];decide)
    obtain ⟨e1,e2,e3,e4⟩:=HOK.out.heads HEM.out.symm
    have HH:=Lib.hid e4
    have HF:=Lib.hid HS0.out.f.num
    have HLL:=Lib.hid HS0.out.l.num
    rw [e1] at HF
    rw [e2] at HLL
    have HLN:=Lib.hid (show ∀ k,k≤T.n→(ownL S.f.z S.l.z k).length≤1000 from fun k hk=>by
     have:=ownL_len (u:=S.f.z) (v:=S.l.z) (c:=64) (n:=k) fun p hp=>by have:=HH.out p (by omega);omega
     omega)
    have HN2:=Lib.hid hN2
    obtain ⟨fa,hfa⟩:∃ z,z=S.f.s.a:=⟨_,rfl⟩
    obtain ⟨la,hla⟩:∃ z,z=S.l.s.a:=⟨_,rfl⟩
    simp only [SlD.v,e1,e2,←hfa,←hla] at c1
    rw [←hfa] at HF
    rw [←hla] at HLL
    obtain ⟨m,hm⟩:∃ m,m=T.n:=⟨_,rfl⟩
    rw [←hm] at HF HLL HH HLN HN2 c1 e3
    clear e1 e2 e4 hN2 hfa hla hm
    go_wp2_with fail
    go_loopg [12,55] m (fun gg v12 v55 wr=>∃ k:Nat,k≤m∧gg=m - k∧v55=.int .i64 k∧v12=.int .i64 (2+((ownL S.f.z S.l.z k).length:Int))∧Ext w7 wr)
    case atStart=>exact ⟨0,by omega,rfl,rfl,rfl,Ext.refl _⟩
    case round=>
     obtain ⟨k,hk,rfl,rfl,rfl,hx7r⟩:=hrel
     have hx1r:=hx17.trans hx7r
     have hrr:Ext wr wr:=Ext.refl _
     by_cases hlt:k<m
     ·have hlt':(k:Int)<(m:Int):=by omega
      obtain rfl:=HF.out.pa (by omega)
      obtain rfl:=HLL.out.pa (by omega)
      obtain ⟨fk,hfk⟩:∃ z,z=S.f.z k:=⟨_,rfl⟩
      obtain ⟨lk,hlk⟩:∃ z,z=S.l.z k:=⟨_,rfl⟩
      obtain ⟨q,hq⟩:∃ q,q=(ownL S.f.z S.l.z k).length:=⟨_,rfl⟩
      have hql:=HLN.out k (by omega)
      have hkk:=HH.out k hlt
      have p1:∀ w',Ext wr w'→w'.cell? ⟨S.f.s.b,S.f.s.o+k,none⟩=some (.int .i64 fk):=fun w' e=>by rw [hfk];exact (hx1r.trans e).cell (HF.out.c k hlt)
      have p2:∀ w',Ext wr w'→w'.cell? ⟨S.l.s.b,S.l.s.o+k,none⟩=some (.int .i64 lk):=fun w' e=>by rw [hlk];exact (hx1r.trans e).cell (HLL.out.c k hlt)
      have b1:∀ w',Ext wr w'→S.f.s.b<w'.heap.size:=fun w' e=>Nat.lt_of_lt_of_le (HF.out.pb (by omega)) (hx1r.trans e).le
      have b2:∀ w',Ext wr w'→S.l.s.b<w'.heap.size:=fun w' e=>Nat.lt_of_lt_of_le (HLL.out.pb (by omega)) (hx1r.trans e).le
      rw [←hq] at hql ⊢
      rw [←hfk,←hlk] at hkk
      have HQ:=Lib.hid (show ((ownL S.f.z S.l.z (k+1)).length:Int)=q+(lk - fk) from by rw [ownL,List.length_append,ownP_len,←hq,←hfk,←hlk];omega)
      have hw1:IntKind.i64.wrap (lk - fk)=lk - fk:=IntWalk.i64_in _ (by omega)
      have hw2:IntKind.i64.wrap (2+(q:Int)+(lk - fk))=2+(q:Int)+(lk - fk):=IntWalk.i64_in _ (by omega)
      clear hfk hlk hq
      go_upto_region 15 with fail
      go_quiet (fail)
      go_wp2_with fail
      go_roundg (m - (k+1))
      case rel=>exact ⟨k+1,by omega,rfl,by go_num,by rw [HQ.out];congr 1;omega,by first | exact hx7r | exact hx7r.drewN _⟩
      case measure=>omega
     ·have hlt':decide ((k:Int)<(m:Int))=false:=decide_eq_false (by omega)
      obtain rfl:k=m:=by omega
      go_wp2_with fail
      go_meet
      case rel=>exact ⟨hx7r,by rw [HN2.out];congr 1⟩
  case rest=>
   obtain ⟨hx7c,hNN⟩:=hcut
   subst hNN
   have hx1c:=hx17.trans hx7c
   have hcc:Ext wc wc:=Ext.refl _
   have dn:(((bts x).data.toList.count 10:Nat):Int)=(N:Int):=by
    rw [HN.out,show (bts x).data.toList=x from rfl,HXL.out.1,rtexV_lines HOK.out]
   have dn2:((N:Int) != (N:Int))=false:=by simp
   go_wp2_with (first | (go_at_call 16;refine (HCO.out w8).mono ?_;rintro e w9 ⟨rfl,rfl⟩;rw [show Lib.countByte (bts x).data.toList 10=(bts x).data.toList.count 10 from rfl,dn]) | (go_at_call 12;refine (HSA.out wc hx7c).mono ?_;rintro e w8 ⟨rfl,hx78⟩))
   go_meet
   case rel=>exact (hx57.trans hx7c).trans hx78
 case rest=>
  have hx5c:Ext w5 wc:=hcut
  have hxwc:=hxw5.trans hx5c
  have hx1c:=hx15.trans hx5c
  have hcc:Ext wc wc:=Ext.refl _
  clear hcut HTA
  go_wp2_with fail
  go_at_call 10
  refine (HPT.out l wc hxwc).mono ?_
  rintro e w6 hp
  obtain ⟨hxc6,hp⟩:=parse_ans hp (by have:=HL2.out;omega)
  rcases hp with ⟨al,ac,c,rfl,hc0,hc1⟩ | ⟨S',hS',hO',hl',rfl⟩
  ·go_upto_region 20 with fail
   refine boxed2 (w:=w6) (G:=fun x=>Code.wp _ _ _ _ x) ?_
   intro w7 hx67 _ ⟨l14,c14,_,_⟩ ⟨l15,c15,_,_⟩
   have hxc7:=hxc6.trans hx67
   have hxw7:=hxwc.trans hxc7
   have h77:Ext w7 w7:=Ext.refl _
   have d0:(c != 0)=true:=by simpa using hc0
   have HZ:=Lib.hid (zero_same w7)
   by_cases h1:c=1
   ·have d1:(c == 1)=true:=by simp [h1]
    clear hc0 hc1 h1
    go_wp2_with (go_at_call 12;refine HZ.out.mono ?_;rintro e w8 ⟨rfl,hx78⟩)
    go_ret
    exact ⟨rfl,hxw7.trans hx78⟩
   ·have d1:(c == 1)=false:=by simpa using h1
    obtain ⟨p1,p2⟩:1≤al∧1≤ac:=hc1.resolve_left h1
    have e1:decide ((1:Int)≤al)=true:=decide_eq_true p1
    have e2:decide ((1:Int)≤ac)=true:=decide_eq_true p2
    clear hc0 hc1 h1
    go_wp2_with (go_at_call 12;refine HZ.out.mono ?_;rintro e w8 ⟨rfl,hx78⟩;have hx78':=hx78;have h88:Ext w8 w8:=Ext.refl _)
    go_ret
    exact ⟨by first | rfl | simp,hxw7.trans hx78'⟩
  ·go_upto_region 20 with fail
   refine boxed2 (w:=w6) (G:=fun x=>Code.wp _ _ _ _ x) ?_
   intro w7 hx67 _ ⟨l14,c14,_,_⟩ ⟨l15,c15,_,_⟩
   have hxc7:=hxc6.trans hx67
   have hxw7:=hxwc.trans hxc7
   have hx17:=hx1c.trans hxc7
   have h77:Ext w7 w7:=Ext.refl _
   have HSS:=Lib.hid (fun W (x:Ext w7 W)=>hS'.ext (hx67.trans x))
   have HOO:=Lib.hid hO'
   have HLL:=Lib.hid hl'
   clear hS' hO' hl'
   go_wp2_with fail
   go_at_call 15
   refine (HTX.out H24.out w7 hxw7 S' (HSS.out _ h77)).mono ?_
   rintro e w8 ⟨hx78,x2,ec2,rfl,ha⟩
   obtain ⟨rfl,rfl⟩:x2=l∧ec2=0:=by
    have h:=(ha.yes HOO.out).2
    rw [HLL.out] at h
    rcases h with ⟨h,_⟩ | ⟨_,h1,h2⟩
    ·have:=HL2.out;omega
    ·exact ⟨h1,h2⟩
   have HV:=Lib.hid (HSV.out w8 (hxw7.trans hx78) S' (HSS.out _ hx78))
   have hx18:=hx17.trans hx78
   have h88:Ext w8 w8:=Ext.refl _
   clear ha
   go_wp2_with (go_at_call 17;refine HV.out.mono ?_;rintro e w9 ⟨b,rfl,hb,hx89⟩;obtain rfl:b=true:=hb.2 HOO.out;clear hb)
   go_ret
   exact ⟨rfl,(hxw7.trans hx78).trans hx89⟩
end Go.Proofs.YtlfdfkbmollaaaaGreatDoor.slicetextBack
