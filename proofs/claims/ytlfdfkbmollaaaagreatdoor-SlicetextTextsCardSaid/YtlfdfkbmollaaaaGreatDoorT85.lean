/- Contracts and laws in plain Lean for RApp: group T85. -/
import Derived.Test.YtlfdfkbmollaaaaGreatDoorT84
import Derived.Test.YtlfdfkbmollaaaaGreatDoorT80
import Derived.Test.YtlfdfkbmollaaaaGreatDoorT70
import Derived.Test.YtlfdfkbmollaaaaGreatDoorT71
import Derived.Test.YtlfdfkbmollaaaaGreatDoorT36
namespace Go.Proofs.YtlfdfkbmollaaaaGreatDoor.slicetextTexts
open Go.ChangeShapes Go.WideShapes Go.ChangeAt Go.RowKit Go.Proofs.YtlfdfkbmollaaaaGreatDoor
set_option linter.unusedVariables false
attribute [local go_sem] Oper.semAt_some
structure GhAns (S:SlcD) (T:Tr) (a:Option Addr) (N cap:Nat) (ec:Int) (w:World):Prop where
 no:¬S.Ok T→N=0∧ec=1
 yes:S.Ok T→ec=0∧N≤39∧∃ g Sx bit,RelAt a g N cap Sx bit w∧(S.em=true→N=0)∧(S.em=false→∃ G,IsGrp T.n (S.E T.n) (·∈S.own T.n) G∧N=G.length∧bit=bitG S T.n G)
theorem graph_ans (w : World) (T : TM) (hT : T.At w) (S : SlcD) (hS : S.At w) (h24 : tot T.en T.n ≤ 39) :
    Calls Tryz.prog 19 #[T.val,S.val] w fun e w'=>Ext w w'∧∃ a N cap ec,e=.returned (.tuple #[.agg #[.slice a N cap],.int .i64 ec])∧GhAns S T.toTr a N cap ec w':=by
 refine (graph_any w T hT S hS h24).mono ?_
 rintro e w' ⟨hx,⟨h1,rfl⟩ | ⟨h1,a,g,N,cap,Sx,bit,rfl,h2,h3,h4,h5⟩⟩
 ·exact ⟨hx,none,0,0,1,rfl,fun _=>⟨rfl,rfl⟩,fun h=>absurd h h1⟩
 ·exact ⟨hx, a, N, cap, 0, rfl, fun h => absurd h1 h, fun _ => ⟨rfl, h3, g, Sx, bit, h2, h4, fun h => by
    obtain ⟨G,k1,_,k2,k3⟩:=h5 h
    exact ⟨G,k1,k2,k3⟩⟩⟩
theorem grpR_ext {G:List (List EvE)} {N:Nat} {a:Option Addr} {g o:Nat} {na:Nat→Option Addr} {nb no nc:Nat→Nat} {w w':World} (h:GrpR G N a g o na nb no nc w) (x:Ext w w'):GrpR G N a g o na nb no nc w':=
 ⟨h.pa,fun k W e=>h.pb k W (x.trans e),fun k hk W e=>h.c k hk W (x.trans e),h.qa,fun k hk h0 W e=>h.qb k hk h0 W (x.trans e),fun k i hk hi W e=>h.d0 k i hk hi W (x.trans e),fun k i hk hi W e=>h.d1 k i hk hi W (x.trans e)⟩
theorem relAt_ext {a:Option Addr} {g N cap:Nat} {Sx:Nat→SetM} {bit:Nat→Nat→Prop} {w w':World} (h:RelAt a g N cap Sx bit w) (x:Ext w w'):RelAt a g N cap Sx bit w':=
 ⟨h.pa,fun k W e=>h.pb k W (x.trans e),fun W e=>h.c0 W (x.trans e),fun W e=>h.c1 W (x.trans e),fun k hk=>⟨(h.set k hk).1.ext x,(h.set k hk).2⟩,h.bit⟩
set_option maxRecDepth 100000 in
set_option maxHeartbeats 4000000 in
theorem walk (T : TM) (S : SlcD) (w : World) (hT : T.At w) (hS : S.At w) (hL : LibB w) :
    Calls Tryz.prog 5 #[T.val,S.val] w fun e w'=>e=.returned (.bool true)∧Ext w w':=by
 have HAW:=Lib.hid (fun W (x:Ext w W)=>awake36_any W (hL.ext x))
 have HSM:=Lib.hid (fun W (x:Ext w W)=>sml36_any W T (hT.ext x))
 have HFE:=Lib.hid (fun W (x:Ext w W)=>sfew_any W S (hS.ext x))
 have HTX:=Lib.hid (fun (h:tot T.en T.n≤39) W (x:Ext w W)=>text_ans W (hL.ext x) T (hT.ext x) S (hS.ext x) h)
 have HGR:=Lib.hid (fun (h:tot T.en T.n≤39) W (x:Ext w W)=>groups_ans W T (hT.ext x) S (hS.ext x) h)
 have HGH:=Lib.hid (fun (h:tot T.en T.n≤39) W (x:Ext w W)=>graph_ans W T (hT.ext x) S (hS.ext x) h)
 have HRV:=Lib.hid (fun W (x:Ext w W)=>rvalid34_any W T (hT.ext x) S (hS.ext x))
 have HRT:=Lib.hid (fun (h:tot T.en T.n≤39) (o:S.Ok T.toTr) W (x:Ext w W)=>rtext36_any W T (hT.ext x) S (hS.ext x) o h)
 have HRG:=Lib.hid (fun (h:tot T.en T.n≤39) (o:S.Ok T.toTr) W (x:Ext w W)=>rgroups_ans W T S (hS.ext x) o h)
 have HRH:=Lib.hid (fun (h:tot T.en T.n≤39) (o:S.Ok T.toTr) W (x:Ext w W)=>rgraph_any W T S (hS.ext x) o h)
 simp only [TM.val] at HSM HTX HGR HGH HRV HRT HRG HRH ⊢
 clear hT hS hL
 go_enter Tryz.func5,Tryz.ntmps5
 go_upto_region 1 with fail
 refine boxed2 (w:=w) (G:=fun x=>Code.wp _ _ _ _ x) ?_
 intro w1 hx1 hs1 ⟨l0,c0,_,_⟩ ⟨l1,c1,_,_⟩
 have hx11:Ext w1 w1:=Ext.refl _
 clear hs1
 go_wp2_with fail
 go_at_call 8
 refine (HAW.out w1 hx1).mono ?_
 rintro e w2 ⟨rfl,hx12⟩
 have hxw2:=hx1.trans hx12
 clear HAW
 go_wp2_with fail
 go_at_call 9
 refine (HSM.out w2 hxw2).mono ?_
 rintro e w3 ⟨hx23,b,rfl,hb⟩
 have hxw3:=hxw2.trans hx23
 have hx13:=hx12.trans hx23
 have HB:=Lib.hid hb
 clear HSM hb
 rcases b with _ | _
 ·have hway:=0
  clear hway
  go_wp2_with fail
  go_ret
  exact ⟨rfl,hxw3⟩
 have h24:tot T.en T.n≤39:=by have:=HB.out rfl;omega
 have H24:=Lib.hid h24
 clear HB h24
 go_wp2_with fail
 go_at_call 14
 refine (HFE.out w3 hxw3).mono ?_
 rintro e w4 ⟨b,rfl,-,hx34⟩
 have hxw4:=hxw3.trans hx34
 have hx14:=hx13.trans hx34
 clear HFE
 rcases b with _ | _
 ·have hway:=0
  clear hway
  go_wp2_with fail
  go_ret
  exact ⟨rfl,hxw4⟩
 go_wp2_with fail
 go_at_call 15
 refine (HTX.out H24.out w4 hxw4).mono ?_
 rintro e w5 ⟨hx45,x,ec,rfl,ha⟩
 have HTA:=Lib.hid ha
 have hxw5:=hxw4.trans hx45
 have hx15:=hx14.trans hx45
 clear HTX ha
 go_wp2_with fail
 go_at_call 18
 refine (HGR.out H24.out w5 hxw5).mono ?_
 rintro e w6 ⟨hx56,G,ga,gc,eg,rfl,ha,hv⟩
 have HGA:=Lib.hid ha
 have HGV:=Lib.hid hv
 have hxw6:=hxw5.trans hx56
 have hx16:=hx15.trans hx56
 clear HGR ha hv
 obtain ⟨GN,hGN⟩:∃ z,z=G.length:=⟨_,rfl⟩
 rw [←hGN]
 have HGN:=Lib.hid hGN
 clear hGN
 go_wp2_with fail
 go_at_call 19
 refine (HGH.out H24.out w6 hxw6).mono ?_
 rintro e w7 ⟨hx67,ra,RN,rc,eh,rfl,ha⟩
 have HHA:=Lib.hid ha
 have hxw7:=hxw6.trans hx67
 have hx17:=hx16.trans hx67
 clear HGH ha
 go_upto_region 8 with fail
 refine boxed1 (w:=w7) (G:=fun x=>Code.wp _ _ _ _ x) ?_
 intro w8 hx78 _ ⟨lr,cr,_,_⟩
 have hxw8:=hxw7.trans hx78
 have hx18:=hx17.trans hx78
 have h88:Ext w8 w8:=Ext.refl _
 go_wp2_with fail
 go_at_call 20
 refine (HRV.out w8 hxw8).mono ?_
 rintro e w9 ⟨b,rfl,hb,hx89⟩
 have HB:=Lib.hid hb
 have hxw9:=hxw8.trans hx89
 have hx19:=hx18.trans hx89
 clear HRV hb
 rcases b with _ | _
 ·have hno:¬S.Ok T.toTr:=fun h=>absurd (HB.out.2 h) (by decide)
  obtain ⟨rfl,rfl⟩:=HTA.out.no hno
  obtain ⟨hG,rfl⟩:=HGA.out.no hno
  obtain ⟨rfl,rfl⟩:=HHA.out.no hno
  obtain rfl:GN=0:=by rw [HGN.out,hG];rfl
  have de:(bts []).toList.isEmpty=true:=by rw [bts_isE];rfl
  clear hno hG
  go_wp2_with fail
  go_ret
  exact ⟨rfl,hxw9⟩
 have HOK:=Lib.hid (HB.out.1 rfl)
 clear HB
 obtain ⟨l,hl⟩:∃ l,l=rtexV T.toTr S:=⟨_,rfl⟩
 have hta:=HTA.out.yes HOK.out
 have hrt:=HRT.out H24.out HOK.out
 rw [←hl] at hta hrt
 have HRT2:=Lib.hid hrt
 obtain ⟨hl9,hta⟩:=hta
 have heg:=HGA.out.ec HOK.out
 have heh:=(HHA.out.yes HOK.out).1
 subst heg heh
 have hzl:=bts_size l
 clear hl hrt HRT
 go_wp2_with fail
 go_at_call 21
 refine (HRT2.out w9 hxw9).mono ?_
 rintro e w10 ⟨rfl,hx9a⟩
 have hxwa:=hxw9.trans hx9a
 have hx1a:=hx19.trans hx9a
 have hx8a:=hx89.trans hx9a
 clear HRT2
 have hxaa:Ext w10 w10:=Ext.refl _
 go_upto_if 74 with fail
 go_cut [] (fun wx=>wx=w10)
 case first=>
  rcases hta with ⟨h1,rfl,rfl⟩ | ⟨h1,rfl,rfl⟩
  ·have d1:decide ((16384:Int)<(l.length:Int))=true:=decide_eq_true (by omega)
   have p1:(16384:Int)<(l.length:Int):=by omega
   have de:(bts []).toList.isEmpty=true:=by rw [bts_isE];rfl
   clear h1
   rw [show bts []=(⟨#[]⟩:ByteArray) from rfl]
   go_wp2_with fail
   go_meet
   case rel=>rfl
  ·have d1:decide ((16384:Int)<(x.length:Int))=false:=decide_eq_false (by omega)
   have p1:(x.length:Int)≤16384:=by omega
   have p2:¬(16384:Int)<(x.length:Int):=by omega
   clear h1
   go_wp2_with fail
   go_meet
   case rel=>rfl
 case rest=>
  have hxwc:Ext w wc:=by rw [hcut];exact hxwa
  have hx1c:Ext w1 wc:=by rw [hcut];exact hx1a
  have hx8c:Ext w8 wc:=by rw [hcut];exact hx8a
  have hx6c:Ext w6 wc:=by rw [hcut];exact (hx67.trans hx78).trans hx8a
  have hx7c:Ext w7 wc:=by rw [hcut];exact hx78.trans hx8a
  have HRG2:=Lib.hid (HRG.out H24.out HOK.out)
  have HRH2:=Lib.hid (HRH.out H24.out HOK.out)
  have HX1:=Lib.hid hx1c
  have HX8:=Lib.hid hx8c
  have HXW:=Lib.hid hxwc
  have HX6:=Lib.hid hx6c
  have HX7:=Lib.hid hx7c
  obtain ⟨hRN,g1,Sx1,bit1,hra,hre,hrf⟩:=(HHA.out.yes HOK.out).2
  have HRA:=Lib.hid hra
  have HRE:=Lib.hid (And.intro hre hrf)
  clear hta HRG HRH HTA hcut hra hre hrf
  go_upto_region 16 with fail
  refine wp_region_T (t:=21) (S:=Ext wc) (R:=fun _=>True) (by kernel_rfl) (Ext.refl wc).drew trivial (fun hHeld=>?_)
  generalize wc.drew=wd at hHeld ⊢
  refine takeS 0 (v:=?_) rfl (by kernel_rfl) (by kernel_rfl) (by kernel_rfl) (fun _ _ _ h=>h) (by decide) (Or.inl ⟨by rfl,?_⟩) hHeld.1 hHeld.2 ?_
  rotate_left
  ·intro w' hSw
   have hS1:=HX1.out.trans hSw
   have hS8:=HX8.out.trans hSw
   have hSS:=Ext.refl w'
   go_simp
   try with_reducible rfl
  try simp only [Act.put,zA,zB,zC]
  refine takeS 1 (v:=?_) rfl (by kernel_rfl) (by kernel_rfl) (by kernel_rfl) (fun _ _ _ h=>h) (by decide) (Or.inl ⟨by rfl,?_⟩) hHeld.1 hHeld.2 ?_
  rotate_left
  ·intro w' hSw
   have hS1:=HX1.out.trans hSw
   have hS8:=HX8.out.trans hSw
   have hSS:=Ext.refl w'
   go_simp
   try with_reducible rfl
  try simp only [Act.put,zA,zB,zC]
  refine takeS 2 (v:=?_) rfl (by kernel_rfl) (by kernel_rfl) (by kernel_rfl) (fun _ _ _ h=>h) (by decide) (Or.inl ⟨by rfl,?_⟩) hHeld.1 hHeld.2 ?_
  rotate_left
  ·intro w' hSw
   have hS1:=HX1.out.trans hSw
   have hS8:=HX8.out.trans hSw
   have hSS:=Ext.refl w'
   go_simp
   try with_reducible rfl
  try simp only [Act.put,zA,zB,zC]
  refine takeS 3 (v:=?_) rfl (by kernel_rfl) (by kernel_rfl) (by kernel_rfl) (fun _ _ _ h=>h) (by decide) (Or.inl ⟨by rfl,?_⟩) hHeld.1 hHeld.2 ?_
  rotate_left
  ·intro w' hSw
   have hS1:=HX1.out.trans hSw
   have hS8:=HX8.out.trans hSw
   have hSS:=Ext.refl w'
   go_simp
   try with_reducible rfl
  try simp only [Act.put,zA,zB,zC]
  refine takeS 4 (v:=?_) rfl (by kernel_rfl) (by kernel_rfl) (by kernel_rfl) (fun _ _ _ h=>h) (by decide) (Or.inl ⟨by rfl,?_⟩) hHeld.1 hHeld.2 ?_
  rotate_left
  ·intro w' hSw
   have hS1:=HX1.out.trans hSw
   have hS8:=HX8.out.trans hSw
   have hSS:=Ext.refl w'
   go_simp
   try with_reducible rfl
  try simp only [Act.put,zA,zB,zC]
  refine takeS 5 (v:=?_) rfl (by kernel_rfl) (by kernel_rfl) (by kernel_rfl) (fun _ _ _ h=>h) (by decide) (Or.inl ⟨by rfl,?_⟩) hHeld.1 hHeld.2 ?_
  rotate_left
  ·intro w' hSw
   have hS1:=HX1.out.trans hSw
   have hS8:=HX8.out.trans hSw
   have hSS:=Ext.refl w'
   go_simp
   try with_reducible rfl
  try simp only [Act.put,zA,zB,zC]
  refine wpAnyT_ready (rs:=[6]) (by kernel_rfl) (by simp) ?_
  refine AllReadyT.cons rfl (fun K hK=>?_) AllReadyT.nil
  go_simp
  go_at_call 23
  refine (HRG2.out wd (HXW.out.trans hHeld.1)).mono ?_
  rintro e wA ⟨hxA,G2,a2,c2,rfl,hem2,huq,hv2⟩
  obtain rfl:G=G2:=by
   rcases hem:S.em with _ | _
   ·exact huq hem G (HGA.out.gr HOK.out hem)
   ·rw [HGA.out.em HOK.out hem,hem2 hem]
  rw [←HGN.out]
  have HV2:=Lib.hid hv2
  have hcA:=hHeld.1.trans hxA
  clear hem2 huq hv2
  refine hK.out _ _ ⟨hcA,trivial⟩ (fun hH2=>?_)
  clear hK K
  try simp only [Act.put,zA,zB,zC]
  clear hHeld
  refine wpAnyT_ready (rs:=[7]) (by kernel_rfl) (by simp) ?_
  refine AllReadyT.cons rfl (fun K hK=>?_) AllReadyT.nil
  go_simp
  go_at_call 22
  refine Calls.mono (show Calls Tryz.prog _ #[.slice ga GN gc,.slice a2 GN c2] wA (fun e w'=>e=.returned (.bool true)∧Ext wA w') from by
   obtain ⟨b1,o1,na1,nb1,no1,nc1,k1⟩:=HGV.out
   obtain ⟨b2,o2,na2,nb2,no2,nc2,k2⟩:=HV2.out
   rw [←HGN.out] at k1 k2
   exact samegrp_any wA G GN ga a2 b1 o1 b2 o2 gc c2 na1 na2 nb1 no1 nc1 nb2 no2 nc2 (grpR_ext k1 (HX6.out.trans hcA)) k2 (by rw [HGN.out];exact HGA.out.len.1) HGA.out.len.2) ?_
  rintro e wB ⟨rfl,hxB⟩
  have hcB:=hcA.trans hxB
  refine hK.out _ _ ⟨hcB,trivial⟩ (fun hHeld=>?_)
  clear hK K
  try simp only [Act.put,zA,zB,zC]
  clear hH2
  refine takeS 8 (v:=?_) rfl (by kernel_rfl) (by kernel_rfl) (by kernel_rfl) (fun _ _ _ h=>h) (by decide) (Or.inl ⟨by rfl,?_⟩) hHeld.1 hHeld.2 ?_
  rotate_left
  ·intro w' hSw
   have hS1:=HX1.out.trans hSw
   have hS8:=HX8.out.trans hSw
   have hSS:=Ext.refl w'
   go_simp
   try with_reducible rfl
  try simp only [Act.put,zA,zB,zC]
  refine takeS 9 (v:=?_) rfl (by kernel_rfl) (by kernel_rfl) (by kernel_rfl) (fun _ _ _ h=>h) (by decide) (Or.inl ⟨by rfl,?_⟩) hHeld.1 hHeld.2 ?_
  rotate_left
  ·intro w' hSw
   have hS1:=HX1.out.trans hSw
   have hS8:=HX8.out.trans hSw
   have hSS:=Ext.refl w'
   go_simp
   try with_reducible rfl
  try simp only [Act.put,zA,zB,zC]
  refine takeS 10 (v:=?_) rfl (by kernel_rfl) (by kernel_rfl) (by kernel_rfl) (fun _ _ _ h=>h) (by decide) (Or.inl ⟨by rfl,?_⟩) hHeld.1 hHeld.2 ?_
  rotate_left
  ·intro w' hSw
   have hS1:=HX1.out.trans hSw
   have hS8:=HX8.out.trans hSw
   have hSS:=Ext.refl w'
   go_simp
   try with_reducible rfl
  try simp only [Act.put,zA,zB,zC]
  refine takeS 11 (v:=?_) rfl (by kernel_rfl) (by kernel_rfl) (by kernel_rfl) (fun _ _ _ h=>h) (by decide) (Or.inl ⟨by rfl,?_⟩) hHeld.1 hHeld.2 ?_
  rotate_left
  ·intro w' hSw
   have hS1:=HX1.out.trans hSw
   have hS8:=HX8.out.trans hSw
   have hSS:=Ext.refl w'
   go_simp
   try with_reducible rfl
  try simp only [Act.put,zA,zB,zC]
  refine takeS 12 (v:=?_) rfl (by kernel_rfl) (by kernel_rfl) (by kernel_rfl) (fun _ _ _ h=>h) (by decide) (Or.inl ⟨by rfl,?_⟩) hHeld.1 hHeld.2 ?_
  rotate_left
  ·intro w' hSw
   have hS1:=HX1.out.trans hSw
   have hS8:=HX8.out.trans hSw
   have hSS:=Ext.refl w'
   go_simp
   try with_reducible rfl
  try simp only [Act.put,zA,zB,zC]
  refine takeS 13 (v:=?_) rfl (by kernel_rfl) (by kernel_rfl) (by kernel_rfl) (fun _ _ _ h=>h) (by decide) (Or.inl ⟨by rfl,?_⟩) hHeld.1 hHeld.2 ?_
  rotate_left
  ·intro w' hSw
   have hS1:=HX1.out.trans hSw
   have hS8:=HX8.out.trans hSw
   have hSS:=Ext.refl w'
   go_simp
   try with_reducible rfl
  try simp only [Act.put,zA,zB,zC]
  refine takeS 14 (v:=?_) rfl (by kernel_rfl) (by kernel_rfl) (by kernel_rfl) (fun _ _ _ h=>h) (by decide) (Or.inl ⟨by rfl,?_⟩) hHeld.1 hHeld.2 ?_
  rotate_left
  ·intro w' hSw
   have hS1:=HX1.out.trans hSw
   have hS8:=HX8.out.trans hSw
   have hSS:=Ext.refl w'
   go_simp
   try with_reducible rfl
  try simp only [Act.put,zA,zB,zC]
  refine takeS 15 (v:=?_) rfl (by kernel_rfl) (by kernel_rfl) (by kernel_rfl) (fun _ _ _ h=>h) (by decide) (Or.inl ⟨by rfl,?_⟩) hHeld.1 hHeld.2 ?_
  rotate_left
  ·intro w' hSw
   have hS1:=HX1.out.trans hSw
   have hS8:=HX8.out.trans hSw
   have hSS:=Ext.refl w'
   go_simp
   try with_reducible rfl
  try simp only [Act.put,zA,zB,zC]
  refine takeS 16 (v:=?_) rfl (by kernel_rfl) (by kernel_rfl) (by kernel_rfl) (fun _ _ _ h=>h) (by decide) (Or.inl ⟨by rfl,?_⟩) hHeld.1 hHeld.2 ?_
  rotate_left
  ·intro w' hSw
   have hS1:=HX1.out.trans hSw
   have hS8:=HX8.out.trans hSw
   have hSS:=Ext.refl w'
   go_simp
   try with_reducible rfl
  try simp only [Act.put,zA,zB,zC]
  refine wpAnyT_ready (rs:=[17]) (by kernel_rfl) (by simp) ?_
  refine AllReadyT.cons rfl (fun K hK=>?_) AllReadyT.nil
  go_simp
  go_at_call 25
  refine (HRH2.out wB (HXW.out.trans hcB)).mono ?_
  rintro e wC ⟨hxC,a3,N3,c3,rfl,g3,Sx3,G3,hr3,hn3,hn39,hem3,huq3⟩
  obtain ⟨rfl,hb⟩:N3=RN∧(0<N3→bit1=bitG S T.n G3):=by
   rcases hem:S.em with _ | _
   ·obtain ⟨G4,k1,k2,k3⟩:=HRE.out.2 hem
    have e:=huq3 hem G4 k1
    subst e
    exact ⟨hn3.trans k2.symm,fun _=>k3⟩
   ·have e:=hem3 hem
    subst e
    have h0:=HRE.out.1 hem
    exact ⟨hn3.trans h0.symm,fun h=>absurd h (by rw [hn3];decide)⟩
  have HR3:=Lib.hid (show RelAt a3 g3 N3 c3 Sx3 bit1 wC from ⟨hr3.pa,hr3.pb,hr3.c0,hr3.c1,hr3.set,fun k i hk hi=>by rw [hb (by omega)];exact hr3.bit k i hk hi⟩)
  have hcC:=hcB.trans hxC
  clear hr3 hn3 hn39 hem3 huq3 hb
  refine hK.out _ _ ⟨hcC,trivial⟩ (fun hH3=>?_)
  clear hK K
  try simp only [Act.put,zA,zB,zC]
  clear hHeld
  refine wpAnyT_ready (rs:=[18]) (by kernel_rfl) (by simp) ?_
  refine AllReadyT.cons rfl (fun K hK=>?_) AllReadyT.nil
  go_simp
  go_at_call 24
  refine (samerel_any wC ra a3 g1 g3 N3 rc c3 Sx1 Sx3 bit1 (relAt_ext HRA.out (HX7.out.trans hcC)) HR3.out hRN).mono ?_
  rintro e wD ⟨rfl,hxD⟩
  have hcD:=hcC.trans hxD
  refine hK.out _ _ ⟨hcD,trivial⟩ (fun hHeld=>?_)
  clear hK K
  try simp only [Act.put,zA,zB,zC]
  clear hH3
  refine takeS 19 (v:=?_) rfl (by kernel_rfl) (by kernel_rfl) (by kernel_rfl) (fun _ _ _ h=>h) (by decide) (Or.inl ⟨by rfl,?_⟩) hHeld.1 hHeld.2 ?_
  rotate_left
  ·intro w' hSw
   have hS1:=HX1.out.trans hSw
   have hS8:=HX8.out.trans hSw
   have hSS:=Ext.refl w'
   go_simp
   try with_reducible rfl
  try simp only [Act.put,zA,zB,zC]
  refine takeS 20 (v:=?_) rfl (by kernel_rfl) (by kernel_rfl) (by kernel_rfl) (fun _ _ _ h=>h) (by decide) (Or.inl ⟨by rfl,?_⟩) hHeld.1 hHeld.2 ?_
  rotate_left
  ·intro w' hSw
   have hS1:=HX1.out.trans hSw
   have hS8:=HX8.out.trans hSw
   have hSS:=Ext.refl w'
   go_simp
   try with_reducible rfl
  try simp only [Act.put,zA,zB,zC]
  refine wpAnyT_done (by kernel_rfl) ?_ _
  clear hHeld
  go_wp2_with fail
  go_ret
  exact ⟨rfl,HXW.out.trans hcD⟩
end Go.Proofs.YtlfdfkbmollaaaaGreatDoor.slicetextTexts
