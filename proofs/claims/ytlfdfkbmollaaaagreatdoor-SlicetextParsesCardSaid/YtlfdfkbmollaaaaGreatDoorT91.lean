/- Contracts and laws in plain Lean for RApp: group T91. -/
import Derived.Test.YtlfdfkbmollaaaaGreatDoorT90
import Derived.Test.YtlfdfkbmollaaaaGreatDoorT86
import Derived.Test.YtlfdfkbmollaaaaGreatDoorT84
import Derived.Test.YtlfdfkbmollaaaaGreatDoorT80
import Derived.Test.YtlfdfkbmollaaaaGreatDoorT36
import Derived.Test.YtlfdfkbmollaaaaGreatDoorT16
namespace Go.Proofs.YtlfdfkbmollaaaaGreatDoor.slicetextParses
open Go.ChangeShapes Go.WideShapes Go.ChangeAt Go.RowKit Go.Shelf Go.Proofs.YtlfdfkbmollaaaaGreatDoor
set_option linter.unusedVariables false
attribute [local go_sem] Oper.semAt_some
open Classical in
noncomputable def parseR (T:Tr) (l:List UInt8):SL × Int × Int × Int:=
 if 16384<l.length then (SL.zero,0,0,5)
 else if (restE (readP T l).2).e≠0 then (SL.zero,(restE (readP T l).2).al,(restE (readP T l).2).ac,(restE (readP T l).2).e)
 else if ∀ S:SlcD,S.Is (readP T l).1→S.Ok T then ((readP T l).1,0,0,0) else (SL.zero,1,1,17)
theorem parse_det {T : Tr} {l : List UInt8} {w w' : World} {e : Ending} (hV : T.Valid) (h : ParsePost T l w e w') :
    Ext w w'∧∃ S:SlcD,S.At w'∧S.Is (parseR T l).1∧e=.returned (.tuple #[S.val,posV (parseR T l).2.1 (parseR T l).2.2.1,.int .i64 (parseR T l).2.2.2]):=by
 obtain ⟨hx,h⟩:=h
 refine ⟨hx,?_⟩
 unfold parseR
 rcases h with ⟨h,_⟩ | ⟨_,h,rfl⟩ | ⟨_,h0,h,rfl⟩ | ⟨_,h0,h,S,k1,k2,k3⟩
 ·exact absurd hV h
 ·rw [if_pos h];exact ⟨Snil,Snil_at _,Snil_is,rfl⟩
 ·rw [if_neg (by omega),if_pos h];exact ⟨Snil,Snil_at _,Snil_is,rfl⟩
 ·rw [if_neg (by omega),if_neg (by rw [h];decide)]
  rcases k3 with ⟨k3,rfl⟩ | ⟨k3,rfl⟩
  ·rw [if_pos (fun S' h'=>k1.ok h' k3)];exact ⟨S,k2,k1,rfl⟩
  ·rw [if_neg (fun h'=>k3 (h' S k1))];exact ⟨Snil,Snil_at _,Snil_is,rfl⟩
set_option maxRecDepth 100000 in
set_option maxHeartbeats 4000000 in
theorem walk (T : TM) (s : ByteArray) (w : World) (hT : T.At w) (_hs : s.size ≤ maxLen) (hL : LibB w) :
    Calls Tryz.prog 3 #[T.val,.string s] w fun e w'=>e=.returned (.bool true)∧Ext w w':=by
 obtain ⟨l,rfl⟩:∃ l,s=bts l:=⟨s.data.toList,(btsB s).symm⟩
 have hzl:=bts_size l
 have HAW:=Lib.hid (fun W (x:Ext w W)=>awake36_any W (hL.ext x))
 have HSM:=Lib.hid (fun W (x:Ext w W)=>sml36_any W T (hT.ext x))
 have HPT:=Lib.hid (fun W (x:Ext w W)=>parse_any W (hL.ext x) T (hT.ext x) l)
 have HRP:=Lib.hid (fun hV W (x:Ext w W)=>rparse_any W T (hT.ext x) hV l)
 have HRV:=Lib.hid (fun W (x:Ext w W)=>rvalid_any W T (hT.ext x))
 simp only [TM.val] at HSM HPT HRP HRV ⊢
 clear hT hL _hs
 go_enter Tryz.func3,Tryz.ntmps3
 go_upto_region 1 with fail
 refine boxed1 (w:=w) (G:=fun x=>Code.wp _ _ _ _ x) ?_
 intro w1 hx1 hs1 ⟨l0,c0,_,_⟩
 have hx11:Ext w1 w1:=Ext.refl _
 clear hs1
 go_wp2_with fail
 go_at_call 8
 refine (HAW.out w1 hx1).mono ?_
 rintro e w2 ⟨rfl,hx12⟩
 have hxw2:=hx1.trans hx12
 clear HAW
 go_wp2_with fail
 go_at_call 9
 refine (HSM.out w2 hxw2).mono ?_
 rintro e w3 ⟨hx23,b,rfl,-⟩
 have hxw3:=hxw2.trans hx23
 have hx13:=hx12.trans hx23
 clear HSM
 rcases b with _ | _
 ·have hway:=0
  clear hway
  go_wp2_with fail
  go_ret
  exact ⟨rfl,hxw3⟩
 by_cases h1:2000<l.length
 ·have d1:decide ((2000:Int)<(l.length:Int))=true:=decide_eq_true (by omega)
  by_cases h2:l.length≤16384
  ·have d2:decide ((l.length:Int)≤16384)=true:=decide_eq_true (by omega)
   have d2':decide (l.length≤16384)=true:=decide_eq_true h2
   clear h1 h2
   go_wp2_with fail
   go_ret
   exact ⟨rfl,hxw3⟩
  have d2:decide ((l.length:Int)≤16384)=false:=decide_eq_false (by omega)
  have d2':decide (l.length≤16384)=false:=decide_eq_false h2
  by_cases h3:16484<l.length
  ·have d3:decide ((16484:Int)<(l.length:Int))=true:=decide_eq_true (by omega)
   clear h1 h2 h3
   go_wp2_with fail
   go_ret
   exact ⟨rfl,hxw3⟩
  have d3:decide ((16484:Int)<(l.length:Int))=false:=decide_eq_false (by omega)
  clear h1 h2 h3
  by_cases hV:T.toTr.Valid
  ·have HVD:=Lib.hid hV
   clear hV
   go_wp2_with fail
   go_at_call 10
   refine (HPT.out w3 hxw3).mono ?_
   rintro e w4 hp
   obtain ⟨hx34,S1,hS1,hi1,rfl⟩:=parse_det HVD.out hp
   obtain ⟨R,hR⟩:∃ R,R=parseR T.toTr l:=⟨_,rfl⟩
   rw [←hR] at hi1 ⊢
   obtain ⟨Rs,al,ac,ec⟩:=R
   have HR:=Lib.hid hR
   have HI1:=Lib.hid hi1
   have hxw4:=hxw3.trans hx34
   clear hR hi1 hp
   go_upto_region 6 with fail
   refine boxed2 (w:=w4) (G:=fun x=>Code.wp _ _ _ _ x) ?_
   intro w5 hx45 _ ⟨l5,c5,_,_⟩ ⟨l6,c6,_,_⟩
   have HS1:=Lib.hid (fun W (x:Ext w5 W)=>hS1.ext (hx45.trans x))
   have hxw5:=hxw4.trans hx45
   have hx15:=(hx13.trans hx34).trans hx45
   have h55:Ext w5 w5:=Ext.refl _
   clear hS1
   go_wp2_with fail
   go_at_call 11
   refine (HRV.out w5 hxw5).mono ?_
   rintro e w6 ⟨b,rfl,hb,hx56⟩
   obtain rfl:b=true:=hb.2 HVD.out
   have hxw6:=hxw5.trans hx56
   have hx16:=hx15.trans hx56
   clear hb
   go_wp2_with fail
   go_at_call 13
   refine (HRP.out HVD.out w6 hxw6).mono ?_
   rintro e w7 hp
   obtain ⟨hx67,S2,hS2,hi2,rfl⟩:=parse_det HVD.out hp
   rw [←HR.out] at hi2 ⊢
   have HI2:=Lib.hid hi2
   clear hi2 hp
   go_upto_region 9 with fail
   refine boxed2 (w:=w7) (G:=fun x=>Code.wp _ _ _ _ x) ?_
   intro w8 hx78 _ ⟨l8,c8,_,_⟩ ⟨l9,c9,_,_⟩
   have HS2:=Lib.hid (fun W (x:Ext w8 W)=>hS2.ext (hx78.trans x))
   have hx58:=(hx56.trans hx67).trans hx78
   have hxw8:=hxw5.trans hx58
   have h88:Ext w8 w8:=Ext.refl _
   have HSA:=Lib.hid (same34_any w8 S1 S2 Rs (HS1.out _ hx58) (HS2.out _ h88) HI1.out HI2.out)
   clear hS2
   go_wp2_with (go_at_call 12;refine HSA.out.mono ?_;rintro e w9 ⟨rfl,hx89⟩;have hx59:=hx58.trans hx89)
   go_ret
   exact ⟨by first | rfl | simp,hxw8.trans hx89⟩
  ·have HNV:=Lib.hid hV
   clear hV
   go_wp2_with fail
   go_at_call 10
   refine (HPT.out w3 hxw3).mono ?_
   rintro e w4 ⟨hx34,hp⟩
   obtain rfl:e=.returned (.tuple #[zeroS,posV 0 0,.int .i64 1]):=by
    rcases hp with ⟨_,h⟩ | ⟨h,_⟩ | ⟨h,_⟩ | ⟨h,_⟩
    ·exact h
    ·exact absurd h HNV.out
    ·exact absurd h HNV.out
    ·exact absurd h HNV.out
   have hxw4:=hxw3.trans hx34
   clear hp
   go_upto_region 6 with fail
   refine boxed2 (w:=w4) (G:=fun x=>Code.wp _ _ _ _ x) ?_
   intro w5 hx45 _ ⟨l5,c5,_,_⟩ ⟨l6,c6,_,_⟩
   have hxw5:=hxw4.trans hx45
   have hx15:=(hx13.trans hx34).trans hx45
   have h55:Ext w5 w5:=Ext.refl _
   go_wp2_with fail
   go_at_call 11
   refine (HRV.out w5 hxw5).mono ?_
   rintro e w6 ⟨b,rfl,hb,hx56⟩
   obtain rfl:b=false:=by
    cases b with
    | false => rfl
    | true => exact absurd (hb.1 rfl) HNV.out
   have hxw6:=hxw5.trans hx56
   have h66:Ext w6 w6:=Ext.refl _
   have HZ:=Lib.hid (zero_same w6)
   clear hb
   go_wp2_with (go_at_call 12;refine HZ.out.mono ?_;rintro e w7 ⟨rfl,hx67⟩;have hx57:=hx56.trans hx67)
   go_ret
   exact ⟨by first | rfl | simp,hxw6.trans hx67⟩
 ·have d1:decide ((2000:Int)<(l.length:Int))=false:=decide_eq_false (by omega)
  have d3:decide ((16484:Int)<(l.length:Int))=false:=decide_eq_false (by omega)
  clear h1
  by_cases hV:T.toTr.Valid
  ·have HVD:=Lib.hid hV
   clear hV
   go_wp2_with fail
   go_at_call 10
   refine (HPT.out w3 hxw3).mono ?_
   rintro e w4 hp
   obtain ⟨hx34,S1,hS1,hi1,rfl⟩:=parse_det HVD.out hp
   obtain ⟨R,hR⟩:∃ R,R=parseR T.toTr l:=⟨_,rfl⟩
   rw [←hR] at hi1 ⊢
   obtain ⟨Rs,al,ac,ec⟩:=R
   have HR:=Lib.hid hR
   have HI1:=Lib.hid hi1
   have hxw4:=hxw3.trans hx34
   clear hR hi1 hp
   go_upto_region 6 with fail
   refine boxed2 (w:=w4) (G:=fun x=>Code.wp _ _ _ _ x) ?_
   intro w5 hx45 _ ⟨l5,c5,_,_⟩ ⟨l6,c6,_,_⟩
   have HS1:=Lib.hid (fun W (x:Ext w5 W)=>hS1.ext (hx45.trans x))
   have hxw5:=hxw4.trans hx45
   have hx15:=(hx13.trans hx34).trans hx45
   have h55:Ext w5 w5:=Ext.refl _
   clear hS1
   go_wp2_with fail
   go_at_call 11
   refine (HRV.out w5 hxw5).mono ?_
   rintro e w6 ⟨b,rfl,hb,hx56⟩
   obtain rfl:b=true:=hb.2 HVD.out
   have hxw6:=hxw5.trans hx56
   have hx16:=hx15.trans hx56
   clear hb
   go_wp2_with fail
   go_at_call 13
   refine (HRP.out HVD.out w6 hxw6).mono ?_
   rintro e w7 hp
   obtain ⟨hx67,S2,hS2,hi2,rfl⟩:=parse_det HVD.out hp
   rw [←HR.out] at hi2 ⊢
   have HI2:=Lib.hid hi2
   clear hi2 hp
   go_upto_region 9 with fail
   refine boxed2 (w:=w7) (G:=fun x=>Code.wp _ _ _ _ x) ?_
   intro w8 hx78 _ ⟨l8,c8,_,_⟩ ⟨l9,c9,_,_⟩
   have HS2:=Lib.hid (fun W (x:Ext w8 W)=>hS2.ext (hx78.trans x))
   have hx58:=(hx56.trans hx67).trans hx78
   have hxw8:=hxw5.trans hx58
   have h88:Ext w8 w8:=Ext.refl _
   have HSA:=Lib.hid (same34_any w8 S1 S2 Rs (HS1.out _ hx58) (HS2.out _ h88) HI1.out HI2.out)
   clear hS2
   go_wp2_with (go_at_call 12;refine HSA.out.mono ?_;rintro e w9 ⟨rfl,hx89⟩;have hx59:=hx58.trans hx89)
   go_ret
   exact ⟨by first | rfl | simp,hxw8.trans hx89⟩
  ·have HNV:=Lib.hid hV
   clear hV
   go_wp2_with fail
   go_at_call 10
   refine (HPT.out w3 hxw3).mono ?_
   rintro e w4 ⟨hx34,hp⟩
   obtain rfl:e=.returned (.tuple #[zeroS,posV 0 0,.int .i64 1]):=by
    rcases hp with ⟨_,h⟩ | ⟨h,_⟩ | ⟨h,_⟩ | ⟨h,_⟩
    ·exact h
    ·exact absurd h HNV.out
    ·exact absurd h HNV.out
    ·exact absurd h HNV.out
   have hxw4:=hxw3.trans hx34
   clear hp
   go_upto_region 6 with fail
   refine boxed2 (w:=w4) (G:=fun x=>Code.wp _ _ _ _ x) ?_
   intro w5 hx45 _ ⟨l5,c5,_,_⟩ ⟨l6,c6,_,_⟩
   have hxw5:=hxw4.trans hx45
   have hx15:=(hx13.trans hx34).trans hx45
   have h55:Ext w5 w5:=Ext.refl _
   go_wp2_with fail
   go_at_call 11
   refine (HRV.out w5 hxw5).mono ?_
   rintro e w6 ⟨b,rfl,hb,hx56⟩
   obtain rfl:b=false:=by
    cases b with
    | false => rfl
    | true => exact absurd (hb.1 rfl) HNV.out
   have hxw6:=hxw5.trans hx56
   have h66:Ext w6 w6:=Ext.refl _
   have HZ:=Lib.hid (zero_same w6)
   clear hb
   go_wp2_with (go_at_call 12;refine HZ.out.mono ?_;rintro e w7 ⟨rfl,hx67⟩;have hx57:=hx56.trans hx67)
   go_ret
   exact ⟨by first | rfl | simp,hxw6.trans hx67⟩
end Go.Proofs.YtlfdfkbmollaaaaGreatDoor.slicetextParses
