/- Contracts and laws in plain Lean for RApp: group P98. -/
import Derived.Test.YtmhapcnlpoilpaaGreatDoorP97
import Derived.Test.YtmhapcnlpoilpaaGreatDoorP96
import Derived.Test.YtmhapcnlpoilpaaGreatDoorP88
import Derived.Test.YtmhapcnlpoilpaaGreatDoorP90
import Derived.Test.YtmhapcnlpoilpaaGreatDoorP87
import Derived.Test.YtmhapcnlpoilpaaGreatDoorP72
import Derived.Test.YtmhapcnlpoilpaaGreatDoorP71
set_option maxRecDepth 100000
namespace Go.Proofs.YtmhapcnlpoilpaaGreatDoor.diagramLattices
open Go.ChangeShapes Go.WideShapes Go.ChangeAt Go.RowKit Go.Proofs.YtmhapcnlpoilpaaGreatDoor
set_option linter.unusedVariables false
def TruePost (w:World) (e:Ending) (w':World):Prop:=e=.returned (.bool true)∧Ext w w'
set_option maxHeartbeats 1000000 in
theorem rslice_none (w:World) (T:TM) (S:SlcD) (hem:S.em=true):Calls Tryz.prog 30 #[T.val,S.val] w fun e w'=>e=.returned (.string ⟨#[101,109,112,116,121,10]⟩)∧Ext w w':=by
 have hv:S.val=.agg #[.bool true,S.f.s.v,S.l.s.v,S.j.s.v]:=by rw [←hem]
 rw [hv]
 simp only [TM.val]
 clear hem hv
 go_enter Tryz.func30,Tryz.ntmps30
 go_upto_region 1 with fail
 refine boxed2 (w:=w) (G:=fun x=>Code.wp _ _ _ _ x) ?_
 intro w1 hx1 hs1 ⟨l0,c0,_,_⟩ ⟨l1,c1,_,_⟩
 have hx11:Ext w1 w1:=Ext.refl _
 clear hs1
 go_wp2_with fail
 go_ret
 exact ⟨rfl,hx1⟩
structure SlAns (S:SlcD) (T:TM) (w:World) (x:Value) (ec:Int):Prop where
 no:¬S.Ok T.toTr→x=.string ⟨#[]⟩∧ec=1
 yes:S.Ok T.toTr→∃ l:List UInt8,x=.string (bts (limS l))∧ec=limE l∧∀ W,Ext w W→Calls Tryz.prog 30 #[T.val,S.val] W fun e w'=>e=.returned (.string (bts l))∧Ext W w'
theorem DslPost.ans {w w0 w':World} {T:TM} (hT:T.At w) {S:SlcD} (hS:S.At w) (h24:tot T.en T.n≤39) {e:Ending} (h:DslPost S T.toTr w0 e w'):Ext w0 w'∧∃ x ec,e=.returned (.tuple #[x,.int .i64 ec])∧SlAns S T w x ec:=by
 obtain ⟨hx,⟨h1,rfl⟩ | ⟨h1,h2,rfl⟩ | ⟨h1,h2,G,h3,h4,rfl⟩⟩:=h
 ·exact ⟨hx,_,_,rfl,fun _=>⟨rfl,rfl⟩,fun h=>absurd h h1⟩
 ·exact ⟨hx,_,_,rfl,fun h=>absurd h1 h,fun _=>⟨[101,109,112,116,121,10],rfl,rfl,fun W _=>rslice_none W T S h2⟩⟩
 ·refine ⟨hx,_,_,congrArg Ending.returned (limV_eq _),fun h=>absurd h1 h,fun _=>⟨slcT T.toTr S T.n G,rfl,rfl,fun W x=>?_⟩⟩
  refine (rslice_any W T (hT.ext x) S (hS.ext x) (h1.gok h2 h24) h2 h1.1.nm).mono ?_
  rintro e w' ⟨hx,G',hu,_,rfl⟩
  rw [hu G h3]
  exact ⟨rfl,hx⟩
structure LaAns (T:TM) (y:Value) (ec:Int):Prop where
 no:¬T.toTr.Valid→y=.string ⟨#[]⟩∧ec=1
 yes:T.toTr.Valid→(∃ L:List (List Nat),IsCuts T.toTr L∧L.length≤5000∧y=.string (bts (limS (latT L)))∧ec=limE (latT L))∨
  (y=.string ⟨#[]⟩∧ec=16∧∃ L:List (List Nat),L.Pairwise (fun a b=>befP T.n (fn a) (fn b))∧(∀ l∈L,CutL T.toTr l)∧5000<L.length)
theorem dlat_ans (w:World) (hTb:Tb w) (T:TM) (hT:T.At w):Calls Tryz.prog 28 #[T.val] w fun e w'=>Ext w w'∧∃ y ec,e=.returned (.tuple #[y,.int .i64 ec])∧LaAns T y ec:=by
 by_cases hV:T.toTr.Valid
 ·refine (dlat_any w hTb T hT hV).mono ?_
  rintro e w' ⟨hx,⟨L,h1,h2,rfl⟩ | ⟨rfl,h1⟩⟩
  ·exact ⟨hx,_,_,congrArg Ending.returned (limV_eq _),fun h=>absurd hV h,fun _=>.inl ⟨L,h1,h2,rfl,rfl⟩⟩
  ·exact ⟨hx,_,_,rfl,fun h=>absurd hV h,fun _=>.inr ⟨rfl,rfl,h1⟩⟩
 ·refine (dlat_bad w T hT hV).mono ?_
  rintro e w' ⟨hx,rfl⟩
  exact ⟨hx,_,_,rfl,fun _=>⟨rfl,rfl⟩,fun h=>absurd h hV⟩
set_option maxHeartbeats 4000000 in
theorem walk (T:TM) (S:SlcD) (w:World) (hT:T.At w) (hS:S.At w) (hTb:Tb w):Calls Tryz.prog 6 #[T.val,S.val] w (TruePost w):=by
 have HTB:=Lib.hid hTb
 have HSZ:=Lib.hid (fun W (x:Ext w W)=>size_any W T (hT.ext x))
 have HFW:=Lib.hid (fun W (x:Ext w W)=>sfew_any W S (hS.ext x))
 have HSL:=Lib.hid (fun W (x:Ext w W) (h:tot T.en T.n≤39)=>(dslice_any W (hTb.ext x) T (hT.ext x) S (hS.ext x) h).mono fun e w' hp=>DslPost.ans hT hS h hp)
 have HLT:=Lib.hid (fun W (x:Ext w W)=>dlat_ans W (hTb.ext x) T (hT.ext x))
 have HRV:=Lib.hid (fun W (x:Ext w W)=>rvalid_any W T (hT.ext x))
 have HR3:=Lib.hid (fun W (x:Ext w W)=>rvalid34_any W T (hT.ext x) S (hS.ext x))
 have HLI:=Lib.hid (fun W (x:Ext w W) (hV:T.toTr.Valid)=>rlist_any W T (hT.ext x) hV)
 have HSA:∀ x ec,SlAns S T w x ec→Hid (SlAns S T w x ec):=fun _ _ h=>Lib.hid h
 simp only [TM.val] at HSZ HSL HLT HRV HR3 HLI ⊢
 clear hT hS hTb
 go_enter Tryz.func6,Tryz.ntmps6
 go_upto_region 1 with fail
 refine boxed2 (w:=w) (G:=fun x=>Code.wp _ _ _ _ x) ?_
 intro w1 hx1 hs1 ⟨l0,c0,_,_⟩ ⟨l1,c1,_,_⟩
 have hx11:Ext w1 w1:=Ext.refl _
 clear hs1
 go_wp2_with fail
 go_at_call 7
 refine (awake56_any w1 (HTB.out.ext hx1)).mono ?_
 rintro e w2 ⟨rfl,hx2⟩
 have hxw2:=hx1.trans hx2
 go_wp2_with fail
 go_at_call 8
 refine (HSZ.out w2 hxw2).mono ?_
 rintro e w3 ⟨hx3,k,rfl,hk,hkt⟩
 have hxw3:=hxw2.trans hx3
 have hx13:=hx2.trans hx3
 by_cases h24:24<k
 ·have b1:decide ((24:Int)<(k:Int))=true:=decide_eq_true (by omega)
  have b1':decide (24<k)=true:=decide_eq_true h24
  go_wp2_with fail
  go_ret
  exact ⟨rfl,hxw3⟩
 have b1:decide ((24:Int)<(k:Int))=false:=decide_eq_false (by omega)
 have b1':decide (24<k)=false:=decide_eq_false h24
 have H24:=Lib.hid (show tot T.en T.n≤39 from by have:=hkt (by omega);omega)
 clear hkt hk h24
 go_wp2_with fail
 go_at_call 26
 refine (HFW.out w3 hxw3).mono ?_
 rintro e w4 ⟨bf,rfl,hbf,hx4⟩
 have hxw4:=hxw3.trans hx4
 have hx14:=hx13.trans hx4
 clear hbf
 cases bf with
 | false =>
  go_wp2_with fail
  go_ret
  exact ⟨rfl,hxw4⟩
 | true =>
 go_wp2_with fail
 go_at_call 27
 refine (HSL.out w4 hxw4 H24.out).mono ?_
 rintro e w5 ⟨hx5,x,ec,rfl,hsl⟩
 have HSN:=Lib.hid hsl
 have hxw5:=hxw4.trans hx5
 have hx15:=hx14.trans hx5
 clear hsl
 go_wp2_with fail
 go_at_call 28
 refine (HLT.out w5 hxw5).mono ?_
 rintro e w6 ⟨hx6,y,ey,rfl,hla⟩
 have HLA:=Lib.hid hla
 have hxw6:=hxw5.trans hx6
 have hx16:=hx15.trans hx6
 clear hla
 go_wp2_with fail
 go_at_call 12
 refine (HRV.out w6 hxw6).mono ?_
 rintro e w7 ⟨bv,rfl,hbv,hx7⟩
 have HBV:=Lib.hid hbv
 have hxw7:=hxw6.trans hx7
 have hx17:=hx16.trans hx7
 clear hbv
 cases bv with
 | false =>
  have HNV:=Lib.hid (show ¬T.toTr.Valid from fun h=>absurd (HBV.out.2 h) (by decide))
  obtain ⟨rfl,rfl⟩:=HSN.out.no fun h=>HNV.out h.1
  obtain ⟨rfl,rfl⟩:=HLA.out.no HNV.out
  go_wp2_with fail
  go_ret
  exact ⟨rfl,hxw7⟩
 | true =>
 have HV:=Lib.hid (HBV.out.1 rfl)
 clear HBV
 go_wp2_with fail
 go_at_call 29
 refine (HR3.out w7 hxw7).mono ?_
 rintro e w8 ⟨bs,rfl,hbs,hx8⟩
 have HBS:=Lib.hid hbs
 have hxw8:=hxw7.trans hx8
 have hx18:=hx17.trans hx8
 clear hbs
 cases bs with
 | false =>
  obtain ⟨rfl,rfl⟩:=HSN.out.no fun h=>absurd (HBS.out.2 h) (by decide)
  clear HBS
  go_wp2_with fail
  go_at_call 31
  refine (HLI.out w8 hxw8 HV.out).mono ?_
  rintro e wl ⟨hxl,⟨v,R,rfl,hq,hcu,hl⟩ | ⟨rfl,L',h1,h2,h3⟩⟩
  ·have hxwl:=Ext.trans hxw8 hxl
   rcases HLA.out.yes HV.out with ⟨L,hL1,hL2,hy,he⟩ | ⟨hy,he,L',h1,h2,h3⟩
   ·obtain ⟨a,g,o,cp,rfl,hcp,_,_⟩:=hq.get
    have hRL:R.map Row.l=L:=cuts_uniq hcu hL1
    have hlat:=rlat_any wl _ _ R hq hl (fun r hr=>by
     have h1:CutL T.toTr r.l:=(hcu.2 _).1 (List.mem_map_of_mem hr)
     refine ⟨by rw [h1.1];exact HV.out.n8,fun p hp=>?_⟩
     have h2:p<T.n:=by rw [h1.1] at hp;exact hp
     have h3:=(HV.out.pr p h2).2.2.2.2
     exact Nat.le_trans (h1.2.le p h2) (by omega))
    rw [hRL] at hlat
    have HLT:=Lib.hid hlat
    have hlen:R.length=L.length:=by rw [←hRL,List.length_map]
    subst hy he
    obtain ⟨m,hm⟩:∃ m,m=R.length:=⟨_,rfl⟩
    rw [←hm] at HLT ⊢
    have hmb:m≤5000:=by omega
    clear hq hcu hl hL1 hL2 hcp hRL hlat hlen hm
    by_cases h250:250<m
    ·have b3:decide ((250:Int)<(m:Int))=true:=decide_eq_true (by omega)
     have b3':decide (250<m)=true:=decide_eq_true h250
     go_wp2_with fail
     go_ret
     exact ⟨rfl,hxwl⟩
    ·have b3:decide ((250:Int)<(m:Int))=false:=decide_eq_false (by omega)
     have b3':decide (250<m)=false:=decide_eq_false h250
     go_wp2_with fail
     go_at_call 32
     refine HLT.out.mono ?_
     rintro e wm ⟨rfl,hxm⟩
     have hxwm:=hxwl.trans hxm
     go_wp2_with fail
     go_at_call 15
     refine (rtext_any wm (latT L)).mono ?_
     rintro e wn ⟨rfl,hxn⟩
     go_wp2_with fail
     go_ret
     exact ⟨rfl,hxwm.trans hxn⟩
   ·have:=cuts_le hcu h1 h2
    rw [List.length_map] at this
    omega
  ·have hxwl:=Ext.trans hxw8 hxl
   rcases HLA.out.yes HV.out with ⟨L,hL1,hL2,hy,he⟩ | ⟨hy,he,_⟩
   ·have:=cuts_le hL1 h1 h2
    omega
   ·subst hy he
    clear h1 h2 h3
    go_wp2_with fail
    go_ret
    exact ⟨rfl,hxwl⟩
 | true =>
  obtain ⟨l,rfl,rfl,hrs⟩:=HSN.out.yes (HBS.out.1 rfl)
  have HRS:=Lib.hid hrs
  clear hrs HBS
  simp only [TM.val] at HRS
  go_wp2_with fail
  go_at_call 30
  refine (HRS.out w8 hxw8).mono ?_
  rintro e w9 ⟨rfl,hx9⟩
  have hxw9:=hxw8.trans hx9
  have hx19:=hx18.trans hx9
  go_wp2_with fail
  go_at_call 15
  refine (rtext_any w9 l).mono ?_
  rintro e w10 ⟨rfl,hx10⟩
  have hxw10:=hxw9.trans hx10
  have hx110:=hx19.trans hx10
  go_wp2_with fail
  go_at_call 31
  refine (HLI.out w10 hxw10 HV.out).mono ?_
  rintro e wl ⟨hxl,⟨v,R,rfl,hq,hcu,hl⟩ | ⟨rfl,L',h1,h2,h3⟩⟩
  ·have hxwl:=Ext.trans hxw10 hxl
   rcases HLA.out.yes HV.out with ⟨L,hL1,hL2,hy,he⟩ | ⟨hy,he,L',h1,h2,h3⟩
   ·obtain ⟨a,g,o,cp,rfl,hcp,_,_⟩:=hq.get
    have hRL:R.map Row.l=L:=cuts_uniq hcu hL1
    have hlat:=rlat_any wl _ _ R hq hl (fun r hr=>by
     have h1:CutL T.toTr r.l:=(hcu.2 _).1 (List.mem_map_of_mem hr)
     refine ⟨by rw [h1.1];exact HV.out.n8,fun p hp=>?_⟩
     have h2:p<T.n:=by rw [h1.1] at hp;exact hp
     have h3:=(HV.out.pr p h2).2.2.2.2
     exact Nat.le_trans (h1.2.le p h2) (by omega))
    rw [hRL] at hlat
    have HLT:=Lib.hid hlat
    have hlen:R.length=L.length:=by rw [←hRL,List.length_map]
    subst hy he
    obtain ⟨m,hm⟩:∃ m,m=R.length:=⟨_,rfl⟩
    rw [←hm] at HLT ⊢
    have hmb:m≤5000:=by omega
    clear hq hcu hl hL1 hL2 hcp hRL hlat hlen hm
    by_cases h250:250<m
    ·have b3:decide ((250:Int)<(m:Int))=true:=decide_eq_true (by omega)
     have b3':decide (250<m)=true:=decide_eq_true h250
     go_wp2_with fail
     go_ret
     exact ⟨rfl,hxwl⟩
    ·have b3:decide ((250:Int)<(m:Int))=false:=decide_eq_false (by omega)
     have b3':decide (250<m)=false:=decide_eq_false h250
     go_wp2_with fail
     go_at_call 32
     refine HLT.out.mono ?_
     rintro e wm ⟨rfl,hxm⟩
     have hxwm:=hxwl.trans hxm
     go_wp2_with fail
     go_at_call 15
     refine (rtext_any wm (latT L)).mono ?_
     rintro e wn ⟨rfl,hxn⟩
     go_wp2_with fail
     go_ret
     exact ⟨rfl,hxwm.trans hxn⟩
   ·have:=cuts_le hcu h1 h2
    rw [List.length_map] at this
    omega
  ·have hxwl:=Ext.trans hxw10 hxl
   rcases HLA.out.yes HV.out with ⟨L,hL1,hL2,hy,he⟩ | ⟨hy,he,_⟩
   ·have:=cuts_le hL1 h1 h2
    omega
   ·subst hy he
    clear h1 h2 h3
    go_wp2_with fail
    go_ret
    exact ⟨rfl,hxwl⟩
end Go.Proofs.YtmhapcnlpoilpaaGreatDoor.diagramLattices
