/-
  PROVED HERE: 'ReplayControls' returns true for every trace and list of syncs, in every memory: no condition.
  (The row's step follows the shell that the kit's program wrote for 'LamportSteps'.)
-/
import Derived.Test.YtkhgpockmaghjaaGreatRows
import Derived.WalkKit
import Derived.Test.YtkhgpockmaghjaaGreatW67
import Derived.Test.YtkhgpockmaghjaaGreatW70
import Derived.Test.YtkhgpockmaghjaaGreatW82
import Derived.Test.YtkhgpockmaghjaaGreatW20
namespace Go.Proofs.YtkhgpockmaghjaaGreat.replayControls
open Go.ChangeShapes Go.WideShapes Go.ChangeAt Go.RowKit Go.Shelf Go.Proofs.YtkhgpockmaghjaaGreat
set_option linter.unusedVariables false
def TruePost (w:World) (e:Ending) (w':World):Prop:=e=.returned (.bool true)∧Ext w w'
def nilTM:TM where
 n:=0
 name:=fun _=>⟨#[]⟩
 vn:=fun _=>0
 vname:=fun _ _=>⟨#[]⟩
 vinit:=fun _ _=>0
 en:=fun _=>0
 kind:=fun _ _=>0
 peer:=fun _ _=>0
 msg:=fun _ _=>0
 time:=fun _ _=>0
 an:=fun _ _=>0
 avar:=fun _ _ _=>0
 aval:=fun _ _ _=>0
 a:=none
 b:=0
 off:=0
 cap:=0
 va:=fun _=>none
 vb:=fun _=>0
 vo:=fun _=>0
 vc:=fun _=>0
 ea:=fun _=>none
 eb:=fun _=>0
 eo:=fun _=>0
 ec:=fun _=>0
 aa:=fun _ _=>none
 ab:=fun _ _=>0
 ao:=fun _ _=>0
 ac:=fun _ _=>0
theorem nilTM_at (w:World):nilTM.At w:=by
 have no:∀ {k:Nat} {P:Prop},k<nilTM.n→P:=fun h=>absurd h (Nat.not_lt_zero _)
 exact ⟨⟨Nat.zero_le _,Nat.zero_le _,fun h=>no h,fun h=>no h,fun _ _ _ h=>no h,fun _ _ _ h=>no h,fun _ _ _ h=>no h⟩,
  ⟨fun _ h=>no h,fun _ h=>no h,fun _ h=>no h,fun _ h=>no h,fun _ _ _ _ h=>no h,fun _ _ _ _ h=>no h⟩,
  ⟨fun _ h=>no h,fun _ h=>no h,fun _ h=>no h,fun _ h=>no h,fun _ _ _ _ h=>no h,fun _ _ _ _ h=>no h,fun _ _ _ _ h=>no h,fun _ _ _ _ h=>no h,fun _ _ _ _ h=>no h⟩,
  ⟨fun _ _ h=>no h,fun _ _ h=>no h,fun _ _ h=>no h,fun _ _ h=>no h,fun _ _ _ _ _ h=>no h,fun _ _ _ _ _ h=>no h⟩,
  ⟨fun _ h=>no h,fun _ _ h=>no h,fun _ _ h=>no h,fun _ _ h=>no h,fun _ _ h=>no h,fun _ _ h=>no h,fun _ _ h=>no h,fun _ _ _ h=>no h,fun _ _ _ h=>no h⟩⟩
theorem same_refl (T:Tr):SameTr T T:=⟨rfl,fun _ _=>⟨rfl,rfl,rfl,fun _ _=>⟨rfl,rfl⟩,fun _ _=>⟨rfl,rfl,rfl,rfl,rfl,fun _ _=>⟨rfl,rfl⟩⟩⟩⟩
theorem appC {T : Tr} {L : List Syn} {w w' : World} {e : Ending} (h : PAppPost T L w e w') : Ext w w' ∧ ((∃ r : Int, r ≠ 0 ∧ e = .returned (.tuple #[.agg #[.slice none 0 0], .int .i64 r])) ∨
    (PFault T L True False 0∧AplOk T (T.ndL L L.length) (T.freeL 200)∧∃ U:TM,U.At w'∧U.toTr=T.aplTr (T.ndL L L.length) (T.freeL 200)∧e=.returned (.tuple #[U.val,.int .i64 0]))):=by
 obtain ⟨hx,⟨r,_,h0,he⟩ | ⟨hf,⟨_,h2⟩ | ⟨h1,U,h2,h3,h4⟩⟩⟩:=h
 ·exact ⟨hx,.inl ⟨r,h0,he⟩⟩
 ·exact ⟨hx,.inl ⟨9,by decide,h2⟩⟩
 ·exact ⟨hx,.inr ⟨hf,aplOk_of hf.ok.2.2.1 hf.ok.2.2.2.2 h1,U,h2,h3,h4⟩⟩
set_option maxRecDepth 100000 in
set_option maxHeartbeats 16000000 in
theorem walk (T : TM) (D : SyD) (w : World) (hT : T.At w) (hD : D.At w) :
    Calls Tryz.prog 6 #[T.val,.slice D.s.a D.s.n D.s.c] w (TruePost w):=by
 have HT:=Lib.hid hT
 have HD:=Lib.hid hD
 have hdn:=hD.hn
 obtain ⟨b0,hb0,hbz0,hbz1,hbz2⟩:=info_parts infoBool
 obtain ⟨j0,hj0,hy0,hy1,hy2⟩:=info_parts infoInt
 have HBIG:=Lib.hid (fun W (x:Ext w W)=>big_any W T (hT.ext x) D.s.a D.s.n D.s.c hdn)
 have HEV:=Lib.hid (fun W (x:Ext w W) (h:BigNo T.toTr D.s.n)=>revents_tot W T (hT.ext x) (by have:=h.n;omega) (fun k hk=>by have:=(h.p k hk).1;omega))
 have HCU:=Lib.hid (fun W (x:Ext w W) (h:BigNo T.toTr D.s.n)=>pcuts_any W T (hT.ext x) (by have:=h.n;omega) D (hD.ext x))
 have HAP:=Lib.hid (fun W (x:Ext w W) (h:BigNo T.toTr D.s.n)=>papply_any W T (hT.ext x) (by have:=h.n;omega) D (hD.ext x))
 have HLT:=Lib.hid (fun W (x:Ext w W) (h:BigNo T.toTr D.s.n)=>lengths_any W T (hT.ext x) (by have:=h.n;omega))
 have HPR:=Lib.hid (fun W (x:Ext w W) (U:TM) (hU:U.At W) hV N F hA hUT a g o c d hd hle=>project_any W T U (hT.ext x) hU hV N F hA hUT a g o c d hd hle)
 have HSE:=Lib.hid (fun W (x:Ext w W) (U:TM) (hU:U.At W) p i q k hp hi hq hk=>rsameev_any W U T hU (hT.ext x) p i q k hp hi hq hk)
 obtain ⟨ta,hta⟩:∃ z,z=T.a:=⟨_,rfl⟩
 obtain ⟨da,hda⟩:∃ z,z=D.s.a:=⟨_,rfl⟩
 obtain ⟨dn,hdn'⟩:∃ z,z=D.s.n:=⟨_,rfl⟩
 obtain ⟨tt,htt⟩:∃ z,z=tot T.en T.n:=⟨_,rfl⟩
 have HTA:=Lib.hid hta
 simp only [TM.val,←hta] at HBIG HEV HCU HAP HLT HPR ⊢
 rw [←hda,←hdn'] at HBIG HCU HAP
 rw [←hdn'] at HEV HLT hdn
 rw [←htt] at HEV
 rw [←hda,←hdn']
 have HTT:=Lib.hid htt
 clear hT hD hta hda hdn' htt
 go_enter Tryz.func6,Tryz.ntmps6
 go_upto_region 1 with fail
 refine boxed1 (w:=w) (G:=fun x=>Code.wp _ _ _ _ x) ?_
 intro w1 hx1 hs1 ⟨l0,c0,_,_⟩
 have hx11:Ext w1 w1:=Ext.refl _
 clear hs1
 go_wp2_with fail
 go_at_call 9
 refine (awake45_any w1).mono ?_
 rintro e w2 ⟨rfl,hx2⟩
 have hxw2:=hx1.trans hx2
 go_wp2_with fail
 go_at_call 10
 refine (HBIG.out w2 hxw2).mono ?_
 rintro e w3 ⟨bb,rfl,hbb,hx3⟩
 have hxw3:=hxw2.trans hx3
 have hx13:=hx2.trans hx3
 cases bb with
 | true =>
  clear hbb
  go_wp2_with fail
  go_ret
  exact ⟨rfl,hxw3⟩
 | false =>
 have HB:=Lib.hid (hbb rfl)
 clear hbb
 go_wp2_with fail
 go_at_call 24
 refine (HEV.out w3 hxw3 HB.out).mono ?_
 rintro e w4 ⟨rfl,hx4⟩
 have hxw4:=hxw3.trans hx4
 have hx14:=hx13.trans hx4
 by_cases h14:10<tt
 ·have b1:decide ((10:Int)<(tt:Int))=true:=decide_eq_true (by omega)
  have b1':decide (10<tt)=true:=decide_eq_true h14
  go_wp2_with fail
  go_ret
  exact ⟨rfl,hxw4⟩
 have b1:decide ((10:Int)<(tt:Int))=false:=decide_eq_false (by omega)
 have b1':decide (10<tt)=false:=decide_eq_false h14
 by_cases h40:6<dn
 ·have b2:decide ((6:Int)<(dn:Int))=true:=decide_eq_true (by omega)
  have b2':decide (6<dn)=true:=decide_eq_true h40
  go_wp2_with fail
  go_ret
  exact ⟨rfl,hxw4⟩
 have b2:decide ((6:Int)<(dn:Int))=false:=decide_eq_false (by omega)
 have b2':decide (6<dn)=false:=decide_eq_false h40
 clear hx2 hx3 hx4 hxw2 hxw3 hx13 HEV
 go_wp2_with fail
 go_at_call 12
 refine (HAP.out w4 hxw4 HB.out).mono ?_
 rintro e w5 hp5
 obtain ⟨hx5,⟨r5,h50,rfl⟩ | ⟨hf5,hA5,U,hU,hUT,rfl⟩⟩:=appC hp5
 ·have hxw5:=hxw4.trans hx5
  have d1:(r5 == 0)=false:=by simpa using h50
  have d1':(r5 != 0)=true:=by simpa using h50
  clear hp5 h50 b1 b1' b2 b2'
  go_upto_region 6 with fail
  refine boxed1 (w:=w5) (G:=fun x=>Code.wp _ _ _ _ x) ?_
  intro w6 hx6 hs6 ⟨l6,c6,_,_⟩
  have hx66:Ext w6 w6:=Ext.refl _
  have hxw6:=hxw5.trans hx6
  clear hs6
  have hsm:=bool_fix (rsametr_any w6 nilTM nilTM (nilTM_at _) (nilTM_at _)) (b:=true) ⟨fun _=>same_refl _,fun _=>rfl⟩
  simp only [TM.val,show nilTM.a=none from rfl,show nilTM.n=0 from rfl,show nilTM.cap=0 from rfl] at hsm
  go_wp2_with fail
  go_at_call 14
  refine hsm.mono ?_
  rintro e w8 ⟨rfl,hx8⟩
  clear hsm
  go_wp2_with fail
  go_ret
  exact ⟨rfl,(hxw6.trans hx8)⟩
 have hV:=hf5.ok.1.1
 have hL:=hf5.ok.2.2.1
 have hcy:=hf5.ok.2.2.2.2
 have hUV:U.toTr.Valid:=by rw [hUT];exact hA5.valid hV
 have hun:U.n=T.n:=(show U.toTr.n=(T.toTr.aplTr (T.toTr.ndL D.l D.l.length) (T.toTr.freeL 200)).n from by rw [hUT])
 have hen:∀ p,U.en p=(T.toTr.apl (T.toTr.ndL D.l D.l.length) (T.toTr.freeL 200) p (T.en p)).length:=fun p=>congrFun (congrArg Tr.en hUT) p
 obtain ⟨N,hN⟩:∃ z,z=T.toTr.ndL D.l D.l.length:=⟨_,rfl⟩
 obtain ⟨F,hF⟩:∃ z,z=T.toTr.freeL 200:=⟨_,rfl⟩
 rw [←hN,←hF] at hA5 hUT
 simp only [←hN,←hF] at hen
 have HN:=Lib.hid hN
 have HV:=Lib.hid hV
 have HL:=Lib.hid hL
 have HCY:=Lib.hid hcy
 have HA:=Lib.hid hA5
 have HUT:=Lib.hid hUT
 have HEN:=Lib.hid hen
 have HUV:=Lib.hid hUV
 have HF5:=Lib.hid hf5
 have hn8:T.n≤8:=hV.n8
 have hn1:1≤T.n:=hV.n1
 have HPJ:=Lib.hid (fun W (x:Ext w5 W) (y:Ext w W) a g o c d hd hle=>HPR.out W y U (hU.ext x) hV N F hA5 hUT a g o c d hd hle)
 have HVL:=Lib.hid (fun W (x:Ext w5 W)=>bool_fix (rvalid_any W U (hU.ext x)) (b:=true) ⟨fun _=>hUV,fun _=>rfl⟩)
 have HLU:=Lib.hid (fun W (x:Ext w5 W)=>lengths_any W U (hU.ext x) (by omega))
 have HKL:=Lib.hid (fun W (x:Ext w5 W)=>kList2_any W U (hU.ext x) hUV)
 have HU:=Lib.hid hU
 have HUN:=Lib.hid hun
 obtain ⟨ua,hua⟩:∃ z,z=U.a:=⟨_,rfl⟩
 have HUA:=Lib.hid hua
 simp only [TM.val,←hua,hun] at HPJ HVL HLU HKL ⊢
 have hxw5:=hxw4.trans hx5
 have hx15:=hx14.trans hx5
 clear hp5 hf5 hV hL hcy hUV hun hen hA5 hUT hU hN hF hua HPR b1 b1' b2 b2' hx5 hx14
 go_upto_region 6 with fail
 refine boxed1 (w:=w5) (G:=fun x=>Code.wp _ _ _ _ x) ?_
 intro w6 hx6 hs6 ⟨l6,c6,_,_⟩
 have hx66:Ext w6 w6:=Ext.refl _
 have hxw6:=hxw5.trans hx6
 have hx16:=hx15.trans hx6
 have hx56:=hx6
 clear hs6 hx6
 go_wp2_with fail
 go_at_call 25
 refine (HCU.out w6 hxw6 HB.out).mono ?_
 rintro e w7 ⟨hx7,hp⟩
 have hxw7:=hxw6.trans hx7
 have hx17:=hx16.trans hx7
 have hx57:=hx56.trans hx7
 have hx67:=hx7
 clear hx7
 obtain ⟨va,A,rfl,hA,hC,hlA⟩:∃ v R,e=.returned (.tuple #[v,.int .i64 0])∧RowsQ w7 w6.heap.size v R∧IsPCuts T.toTr D.l (R.map Row.l)∧R.length≤5000:=by
  rcases hp with ⟨r,k1,k2,_⟩ | ⟨_,h | ⟨_,M,h1,h2,h3⟩⟩
  ·exact absurd (k1.uniq HF5.out Iff.rfl Iff.rfl) k2
  ·exact h
  ·have:=pcuts_few (T:=T.toTr) (pw_nodup (r:=fun a b:List Nat=>befP T.n (fn a) (fn b)) (fun _=>befP_irrefl _ _) h1) h2 (by rw [←HTT.out];omega)
   omega
 obtain ⟨aa,ac,hva⟩:=hA.1.slice
 subst hva
 obtain ⟨na,hna⟩:∃ z,z=A.length:=⟨_,rfl⟩
 have HNA:=Lib.hid hna
 rw [←hna] at hA hlA
 rw [←hna]
 have HAQ:=Lib.hid hA
 have HC:=Lib.hid hC
 clear hp hA hC hna
 go_wp2_with fail
 go_at_call 30
 refine (HVL.out w7 hx57).mono ?_
 rintro e w8 ⟨rfl,hx8⟩
 have hxw8:=hxw7.trans hx8
 have hx18:=hx17.trans hx8
 have hx58:=hx57.trans hx8
 have hx68:=hx67.trans hx8
 have hx78:=hx8
 clear hx8 HVL
 go_wp2_with fail
 go_at_call 31
 refine (HLU.out w8 hx58).mono ?_
 rintro e w9 ⟨hx9,v9,rfl,hq9⟩
 obtain ⟨fa,fg,fo,fc,rfl,hfull⟩:=hq9.num (by omega)
 have HFULL:=Lib.hid hfull
 have hxw9:=hxw8.trans hx9
 have hx19:=hx18.trans hx9
 have hx59:=hx58.trans hx9
 have hx69:=hx68.trans hx9
 have hx79:=hx78.trans hx9
 have hx99:Ext w9 w9:=Ext.refl _
 clear hq9 hfull hx9 hx18 hx58 hx68 hx78 HLU
 go_upto_region 12 with fail
 refine wp_region_held_drew (S:=fun w'=>Ext w9 w') (by kernel_rfl) (Ext.refl _).drew (fun hHeld=>?_)
 refine hQ 0 (v:=?_) rfl (y:=.inl ⟨by rfl,?_⟩) (h:=?_)
 rotate_left
 ·(intro w' hSw;(try dsimp only at hSw);have hSS:=Ext.refl w';have hS1:=hx19.trans hSw;have hS0:=hx69.trans hSw;go_simp;try with_reducible rfl)
 try simp only [Act.put,zA,zB,zC]
 refine hQ 1 (v:=?_) rfl (y:=.inl ⟨by rfl,?_⟩) (h:=?_)
 rotate_left
 ·(intro w' hSw;(try dsimp only at hSw);have hSS:=Ext.refl w';have hS1:=hx19.trans hSw;have hS0:=hx69.trans hSw;go_simp;try with_reducible rfl)
 try simp only [Act.put,zA,zB,zC]
 refine hQ 2 (v:=?_) rfl (y:=.inl ⟨by rfl,?_⟩) (h:=?_)
 rotate_left
 ·(intro w' hSw;(try dsimp only at hSw);have hSS:=Ext.refl w';have hS1:=hx19.trans hSw;have hS0:=hx69.trans hSw;go_simp;try with_reducible rfl)
 try simp only [Act.put,zA,zB,zC]
 refine hQ 4 (v:=?_) rfl (y:=.inl ⟨by rfl,?_⟩) (h:=?_)
 rotate_left
 ·(intro w' hSw;(try dsimp only at hSw);have hSS:=Ext.refl w';have hS1:=hx19.trans hSw;have hS0:=hx69.trans hSw;go_simp;try with_reducible rfl)
 try simp only [Act.put,zA,zB,zC]
 have hA9:Ext w9 w9.drew:=(Ext.refl _).drew
 have hpj:=HPJ.out w9.drew (hx59.trans hA9) (hxw9.trans hA9) fa fg fo fc U.en (HFULL.out.ext hA9) (fun _ _=>Nat.le_refl _)
 refine wpAnyH_ready (rs:=[3]) (by kernel_rfl) (by simp) ?_
 refine AllReadyH.cons rfl (fun K hK=>?_) AllReadyH.nil
 go_simp
 go_at_call 32
 refine hpj.mono ?_
 rintro e w10 ⟨hx10,g10,rfl,hg10,hR10⟩
 have hx910:=hA9.trans hx10
 refine hK.out _ _ hx910 (fun hHeld2=>?_)
 clear hK K
 try simp only [Act.put,zA,zB,zC]
 clear hHeld
 have hHeld:=hHeld2
 clear hHeld2 hpj
 have hlt:=HLT.out w10 (hxw9.trans hx910) HB.out
 refine wpAnyH_ready (rs:=[5]) (by kernel_rfl) (by simp) ?_
 refine AllReadyH.cons rfl (fun K hK=>?_) AllReadyH.nil
 go_simp
 go_at_call 31
 refine hlt.mono ?_
 rintro e w11 ⟨hx11',v11,rfl,hq11⟩
 obtain ⟨ea,eg,eo,ec,rfl,hnum⟩:=hq11.num (by omega)
 have hx911:=hx910.trans hx11'
 refine hK.out _ _ hx911 (fun hHeld2=>?_)
 clear hK K
 try simp only [Act.put,zA,zB,zC]
 clear hHeld
 have hHeld:=hHeld2
 clear hHeld2 hlt
 have heq:=bool_fix (eqi_any w11 (some ⟨g10,0,none⟩) ea g10 0 eg eo T.n T.n T.n ec _ _ ((hR10.ext hx11').num (by omega)) hnum) (b:=true) ⟨fun _=>⟨rfl,fun p hp=>by
  show ((T.toTr.prj N F p (U.en p):Nat):Int)=((T.en p:Nat):Int)
  rw [HEN.out p,prj_apl (Nat.le_refl _)]⟩,fun _=>rfl⟩
 refine wpAnyH_ready (rs:=[6]) (by kernel_rfl) (by simp) ?_
 refine AllReadyH.cons rfl (fun K hK=>?_) AllReadyH.nil
 go_simp
 go_at_call 22
 refine heq.mono ?_
 rintro e w12 ⟨rfl,hx12⟩
 have hx912:=hx911.trans hx12
 refine hK.out _ _ hx912 (fun hHeld2=>?_)
 clear hK K
 try simp only [Act.put,zA,zB,zC]
 clear hHeld
 have hHeld:=hHeld2
 clear hHeld2 heq
 refine hQ 7 (v:=?_) rfl (y:=.inl ⟨by rfl,?_⟩) (h:=?_)
 rotate_left
 ·(intro w' hSw;(try dsimp only at hSw);have hSS:=Ext.refl w';have hS1:=hx19.trans hSw;have hS0:=hx69.trans hSw;go_simp;try with_reducible rfl)
 try simp only [Act.put,zA,zB,zC]
 refine wpAnyH_done (by kernel_rfl) ?_ _
 have hxw12:=hxw9.trans hx912
 have hx112:=hx19.trans hx912
 have hx512:=hx59.trans hx912
 have hx612:=hx69.trans hx912
 have hx712:=hx79.trans hx912
 clear hHeld hA9 hx10 hx910 hx11' hx911 hx12 hx912 hq11 hnum hR10 hx19 hx59 hx69 hx79 hxw9 hx99
 have h1212:Ext w12 w12:=Ext.refl _
 go_wp2_with fail
 go_loopg [83] T.n (fun gg v83 wp=>∃ p:Nat,p≤T.n∧gg=T.n - p∧v83=.int .i64 p∧Ext w12 wp)
 case atStart=>exact ⟨0,by omega,rfl,rfl,h1212⟩
 case round=>
  clear h1212
  rename World=>wp
  obtain ⟨p,hp,rfl,rfl,hx12p⟩:=hrel
  have hxwp:=hxw12.trans hx12p
  have hx1p:=hx112.trans hx12p
  have hx5p:=hx512.trans hx12p
  have hx6p:=hx612.trans hx12p
  have hx7p:=hx712.trans hx12p
  by_cases hpn:p<T.n
  case neg=>
   obtain rfl:p=T.n:=by omega
   go_wp2_with fail
   go_at_call 34
   refine (HKL.out wp hx5p).mono ?_
   rintro e wq ⟨hxq,vc,ch,R2,rfl,hR2,hl2,hch⟩
   obtain ⟨ca,cc,hvc⟩:=hR2.1.slice
   subst hvc
   have hxwq:=hxwp.trans hxq
   have hx1q:=hx1p.trans hxq
   have hx5q:=hx5p.trans hxq
   have hx6q:=hx6p.trans hxq
   have hx7q:=hx7p.trans hxq
   rcases hch with ⟨rfl,hcu⟩ | ⟨rfl,hr0⟩
   case inr=>
    clear hR2 hr0
    go_wp2_with fail
    go_ret
    exact ⟨rfl,hxwq⟩
   obtain ⟨nc,hnc⟩:∃ z,z=R2.length:=⟨_,rfl⟩
   have HNC:=Lib.hid hnc
   have HCUT:=Lib.hid hcu
   rw [←hnc] at hR2 hl2
   rw [←hnc]
   have HR2:=Lib.hid hR2
   clear hR2 hcu hnc hxq
   have hqq:Ext wq wq:=Ext.refl _
   go_upto_region 33 with (at_make;refine wpList_make_full _ rfl _ _ 68 rfl wq.heap.size 4 b0 (.bool false) 1 Tryz.underlying68 hb0 hbz0 hbz1 .i64 .i64 _ _ na rfl rfl rfl rfl (by rw [hbz2];omega) (by unfold maxLen;omega) (Nat.le_refl _) ?_;intro ws hown4 hg4;have hxs:Ext wq ws:=((Below.refl _ _).grown hg4 (Nat.le_refl _) (by simp));have HR4:=Lib.hid (BRow.made hown4);clear hown4 hg4)
   obtain ⟨gs,hgs⟩:∃ z,z=wq.heap.size:=⟨_,rfl⟩
   rw [←hgs] at HR4 ⊢
   have HGS:=Lib.hid hgs
   clear hgs hqq
   obtain ⟨ca',cg,co,cc',ec1,_,ec3,ec4⟩:=HR2.out.get
   rw [←HNC.out] at ec1 ec3
   simp only [Value.slice.injEq] at ec1
   obtain ⟨rfl,_,rfl⟩:=ec1
   have EC:=Lib.hid (And.intro ec3 ec4)
   clear ec3 ec4
   go_wp2_with fail
   go_loopg [144] nc (fun gg v144 wr=>∃ (i:Nat) (f:Nat→Bool),i≤nc∧gg=nc - i∧v144=.int .i64 i∧Ext wq wr∧BRow wr gs na f∧∀ m r,m<i→(R2.map Row.l)[m]?=some r→∃ k:Nat,k<na∧(A.map Row.l)[k]?=some (rowOf T.n fun p=>T.toTr.prj N F p (fn r p))∧f k=true)
   case atStart=>exact ⟨0,_,by omega,rfl,rfl,hxs,HR4.out,fun m r h=>absurd h (Nat.not_lt_zero _)⟩
   case round=>
    clear hxs HR4
    rename World=>wr
    obtain ⟨i,f,hi,rfl,rfl,hxqr,hR,hS⟩:=hrel
    have HR:=Lib.hid hR
    have HS:=Lib.hid hS
    have hxwr:=hxwq.trans hxqr
    have hx1r:=hx1q.trans hxqr
    have hx5r:=hx5q.trans hxqr
    have hx6r:=hx6q.trans hxqr
    have hx7r:=hx7q.trans hxqr
    clear hR hS
    by_cases hin:i<nc
    case neg=>
     obtain rfl:i=nc:=by omega
     have hct:=contains_bool wr gs na f HR.out (fun k hk=>by
      have hkA:k<A.length:=by rw [←HNA.out];exact hk
      have hck:=(HC.out.2 A[k].l).1 (List.mem_map_of_mem (List.getElem_mem hkA))
      have hcN:PCut T.toTr N (fn A[k].l):=by rw [HN.out];exact (pcut_needed HV.out HL.out HCY.out).2 hck.2
      have hcU:=HA.out.apl_cut HV.out hcN
      have hmem:rowOf T.n (fun p=>(T.toTr.apl N F p (fn A[k].l p)).length)∈R2.map Row.l:=(HCUT.out.2 _).2 ⟨by rw [rowOf_len];exact HUN.out.symm,by
       rw [HUT.out]
       exact hcU.congr fun p hp=>fn_rowOf hp⟩
      obtain ⟨m,hm⟩:=List.getElem?_of_mem hmem
      have hml:=(List.getElem?_eq_some_iff.1 hm).1
      rw [List.length_map,←HNC.out] at hml
      obtain ⟨k',hk',h1,h2⟩:=HS.out m _ hml hm
      have h3:(A.map Row.l)[k]?=some A[k].l:=by rw [List.getElem?_map,List.getElem?_eq_getElem hkA];rfl
      have h4:rowOf T.n (fun p=>T.toTr.prj N F p (fn (rowOf T.n fun p=>(T.toTr.apl N F p (fn A[k].l p)).length) p))=A[k].l:=by
       refine fn_ext (by rw [rowOf_len];exact hck.1.symm) fun p hp=>?_
       rw [rowOf_len] at hp
       rw [fn_rowOf hp,fn_rowOf hp,prj_apl (hck.2.cut.le p hp)]
      rw [h4] at h1
      have hnd:=pw_nodup (r:=fun a b:List Nat=>befP T.n (fn a) (fn b)) (fun _=>befP_irrefl _ _) HC.out.1
      obtain ⟨l1,e1⟩:=List.getElem?_eq_some_iff.1 h1
      obtain ⟨l3,e3⟩:=List.getElem?_eq_some_iff.1 h3
      have:k'=k:=(List.getElem_inj hnd).1 (e1.trans e3.symm)
      rw [←this];exact h2) (by omega)
     go_wp2_with fail
     go_at_call 36
     refine hct.mono ?_
     rintro e wz ⟨rfl,hxz⟩
     clear hct
     go_wp2_with fail
     go_ret
     exact ⟨rfl,(hxwr.trans hxz)⟩
    have hin':(i:Int)<(nc:Int):=by omega
    have hiA:i<R2.length:=by rw [←HNC.out];exact hin
    obtain ⟨rfl,_,hcg⟩:=EC.out.1 (by omega)
    obtain ⟨r,hr⟩:∃ r,r=R2[i]:=⟨_,rfl⟩
    have hrA:r∈R2:=by rw [hr];exact List.getElem_mem hiA
    have hri:(R2.map Row.l)[i]?=some r.l:=by rw [List.getElem?_map,List.getElem?_eq_getElem hiA,←hr];rfl
    have hcut:=(HCUT.out.2 _).1 (List.mem_map_of_mem hrA)
    have hrl:r.l.length=T.n:=hcut.1.trans HUN.out
    have pb:=fun w' (x:Ext wq w')=>Nat.lt_of_lt_of_le hcg x.le
    have p1:∀ w',Ext wq w'→w'.cell? ⟨cg,co+i,none⟩=some (.slice r.a T.n r.c):=fun w' x=>by rw [←hrl,hr];exact EC.out.2 i hiA w' x
    have hnum:NumAt wr T.n r.a r.g r.o (natV (fn r.l)):=by have:=Row.At.ext (HR2.out.2 r hrA) hxqr;unfold Row.At at this;rw [hrl] at this;exact this
    have hpj:=HPJ.out wr hx5r hxwr r.a r.g r.o r.c (fn r.l) hnum (fun p hp=>hcut.2.le p (by rw [HUN.out];exact hp))
    have HPM:=Lib.hid (show (rowOf T.n fun p=>T.toTr.prj N F p (fn r.l p))∈A.map Row.l from (HC.out.2 _).2 (pcutL_row HL.out ((pcut_needed HV.out HL.out HCY.out).1 (by
     have h:=HA.out.prj_cut HV.out (d:=fn r.l) (by have:=hcut.2;rw [HUT.out] at this;exact this)
     rw [HN.out] at h ⊢
     exact h))))
    have HRI:=Lib.hid hri
    clear hr hrA hri hcut hrl hnum hcg
    go_wp2_with fail
    go_at_call 32
    refine hpj.mono ?_
    rintro e wm ⟨hxm,gm,rfl,hgm,hRm⟩
    have hxqm:=hxqr.trans hxm
    have hxwm:=hxwr.trans hxm
    have hx7m:=hx7r.trans hxm
    have hfd:=find_any' wm (.slice aa na ac) w6.heap.size A (HAQ.out.ext hx7m) (by rw [←HNA.out];omega) (some ⟨gm,0,none⟩) gm 0 T.n T.n (fun p=>T.toTr.prj N F p (fn r.l p)) (hRm.num (by omega))
    have HRM:=Lib.hid (HR.out.extN hxm)
    clear hpj hRm p1 pb
    go_wp2_with fail
    go_at_call 35
    refine hfd.mono ?_
    rintro e wn ⟨hxn,z,rfl,hz⟩
    have hxqn:=hxqm.trans hxn
    obtain ⟨k,hk,rfl,hkl⟩:∃ k,∃ h:k<A.length,z=k∧A[k].l=rowOf T.n fun p=>T.toTr.prj N F p (fn r.l p):=by
     rcases hz with ⟨_,h2⟩ | h2
     ·obtain ⟨x,hx,e⟩:=List.mem_map.1 HPM.out
      exact absurd e (h2 x hx)
     ·exact h2
    have hkn:k<na:=by rw [HNA.out];exact hk
    have hkn':(k:Int)<(na:Int):=by omega
    have hk0:¬(k:Int)<0:=by omega
    have d0:decide ((k:Int)<0)=false:=decide_eq_false hk0
    have HRN:=Lib.hid (HRM.out.extN hxn)
    have s0:∀ w',Ext wn w'→w'.cell? ⟨gs,k,none⟩=some (.bool (f k)):=fun w' x=>x.cell (HRN.out.c k hkn)
    have sf:∀ w',Ext wn w'→∀ o,w'.frozen? ⟨gs,o,none⟩=false:=fun w' x o=>(x.frozen (p:=⟨gs,o,none⟩) HRN.out.lt).trans (HRN.out.fr o)
    have sl:∀ w',Ext wn w'→gs<w'.heap.size:=fun w' x=>Nat.lt_of_lt_of_le HRN.out.lt x.le
    have hnn:Ext wn wn:=Ext.refl _
    have HB:=Lib.hid (HRN.out.set hkn true)
    have hxs:=hxqn.setCell (p:=⟨gs,k,none⟩) (by have:=HGS.out;show wq.heap.size≤gs;omega) (.bool true)
    have HNX:=Lib.hid (show ∀ m r,m<i+1→(R2.map Row.l)[m]?=some r→∃ k':Nat,k'<na∧(A.map Row.l)[k']?=some (rowOf T.n fun p=>T.toTr.prj N F p (fn r p))∧(if k'=k then true else f k')=true from fun m r' hm hr'=>by
     by_cases e:m=i
     ·subst e
      obtain rfl:=Option.some.inj (HRI.out.symm.trans hr')
      exact ⟨k,hkn,by rw [List.getElem?_map,List.getElem?_eq_getElem hk,←hkl];rfl,if_pos rfl⟩
     ·obtain ⟨k',h1,h2,h3⟩:=HS.out m r' (by omega) hr'
      refine ⟨k',h1,h2,?_⟩
      split
      ·rfl
      ·exact h3)
    clear hfd hz hkl hk hxn hxm
    go_upto_region 40 with fail
    clear s0 sf sl hnn
    generalize wn.setCell ⟨gs,k,none⟩ (.bool true)=w5' at HB hxs ⊢
    go_wp2_with fail
    go_roundg (nc - (i+1))
    case rel=>exact ⟨i+1,_,by omega,rfl,by go_num,hxs,HB.out,HNX.out⟩
    case measure=>omega
  have hpn':(p:Int)<(T.n:Int):=by omega
  have hpU:p<U.n:=by rw [HUN.out];exact hpn
  obtain rfl:ua=some ⟨U.b,U.off,none⟩:=HUA.out.trans (HU.out.P.pa (by omega))
  have pb:=HU.out.P.pb (by omega)
  obtain ⟨ue,hue⟩:∃ z,z=U.en p:=⟨_,rfl⟩
  have HUE:=Lib.hid hue
  obtain ⟨ea,hea⟩:∃ z,z=U.ea p:=⟨_,rfl⟩
  have HEA:=Lib.hid hea
  have hue64:ue≤64:=by rw [hue];exact HUV.out.en64 hpU
  have p0:=fun w' (h:Ext w5 w')=>HU.out.P.p0 w' h p hpU
  have p1:=fun w' (h:Ext w5 w')=>HU.out.P.p1 w' h p hpU
  have p2:∀ w',Ext w5 w'→w'.cell? ⟨U.b,U.off+p*3+2,none⟩=some (.slice ea ue (U.ec p)):=fun w' h=>by rw [hue,hea];exact HU.out.P.p2 w' h p hpU
  clear hue hea
  go_upto_region 17 with fail
  refine boxed1 (w:=wp) (G:=fun x=>Code.wp _ _ _ _ x) ?_
  intro wq hxq hsq ⟨l11,c11,_,_⟩
  have hqq:Ext wq wq:=Ext.refl _
  have hxwq:=hxwp.trans hxq
  have hx1q:=hx1p.trans hxq
  have hx5q:=hx5p.trans hxq
  have hx6q:=hx6p.trans hxq
  have hx12q:=hx12p.trans hxq
  clear hsq p0 p1 p2 pb
  go_wp2_with fail
  go_loopg [12,91] ue (fun gg v12 v91 wi=>∃ i:Nat,i≤ue∧gg=ue - i∧v91=.int .i64 i∧v12=.int .i64 (T.toTr.prj N F p i:Nat)∧Ext wq wi)
  case atStart=>exact ⟨0,by omega,rfl,rfl,rfl,hqq⟩
  case round=>
   clear hqq
   rename World=>wi
   obtain ⟨i,hi,rfl,rfl,rfl,hxqi⟩:=hrel
   have hxwi:=hxwq.trans hxqi
   have hx1i:=hx1q.trans hxqi
   have hx5i:=hx5q.trans hxqi
   have hx6i:=hx6q.trans hxqi
   have hx12i:=hx12q.trans hxqi
   obtain ⟨k,hk⟩:∃ z,z=T.toTr.prj N F p i:=⟨_,rfl⟩
   have HK:=Lib.hid hk
   have hke:k≤T.en p:=by rw [hk];exact prj_le i
   have hk64:k≤64:=by have:=HV.out.en64 hpn;omega
   rw [←hk]
   clear hk
   by_cases hin:i<ue
   case neg=>
    obtain rfl:i=ue:=by omega
    go_wp2_with fail
    go_roundg (T.n - (p+1))
    case rel=>exact ⟨p+1,by omega,rfl,by go_num,hx12i⟩
    case measure=>omega
   have hin':(i:Int)<(ue:Int):=by omega
   have hiU:i<U.en p:=by rw [←HUE.out];exact hin
   obtain rfl:ea=some ⟨U.eb p,U.eo p,none⟩:=HEA.out.trans (HU.out.E.ea p hpU (by omega))
   have eb:=HU.out.E.eb p hpU (by omega)
   have e0:=fun w' (x:Ext w5 w')=>HU.out.E.e0 w' x p i hpU hiU
   have e1:=fun w' (x:Ext w5 w')=>HU.out.E.e1 w' x p i hpU hiU
   have e2:=fun w' (x:Ext w5 w')=>HU.out.E.e2 w' x p i hpU hiU
   have e3:=fun w' (x:Ext w5 w')=>HU.out.E.e3 w' x p i hpU hiU
   have e4:=fun w' (x:Ext w5 w')=>HU.out.E.e4 w' x p i hpU hiU
   have hw1:IntKind.i64.wrap ((i:Int)+1)=(i:Int)+1:=IntWalk.i64_in _ (by omega)
   have hw2:IntKind.i64.wrap ((k:Int)+1)=(k:Int)+1:=IntWalk.i64_in _ (by omega)
   go_upto_region 21 with fail
   refine boxed1 (w:=wi) (G:=fun x=>Code.wp _ _ _ _ x) ?_
   intro wj hxj hsj ⟨l14,c14,_,_⟩
   have hxwj:=hxwi.trans hxj
   have hx1j:=hx1i.trans hxj
   have hx5j:=hx5i.trans hxj
   have hx6j:=hx6i.trans hxj
   have hx12j:=hx12i.trans hxj
   have hxqj:=hxqi.trans hxj
   have hjj:Ext wj wj:=Ext.refl _
   clear hsj e0 e1 e2 e3 e4 eb
   go_upto_region 22 with (at_make;refine wpList_make_full _ rfl _ _ 39 rfl wj.heap.size 3 j0 (.int .i64 0) 1 Tryz.underlying39 hj0 hy0 hy1 .i64 .i64 _ _ T.n rfl rfl rfl rfl (by rw [hy2];omega) (by unfold maxLen;omega) (Nat.le_refl _) ?_;intro wk hown4 hg4;have hxk:Ext wj wk:=((Below.refl _ _).grown hg4 (Nat.le_refl _) (by simp));have HR4:=Lib.hid (IntRow.made hown4);clear hown4 hg4)
   obtain ⟨gd,hgd⟩:∃ z,z=wj.heap.size:=⟨_,rfl⟩
   rw [←hgd] at HR4 ⊢
   have z0:∀ w',Ext wk w'→w'.cell? ⟨gd,p,none⟩=some (.int .i64 0):=fun w' x=>x.cell (HR4.out.c p hpn)
   have zl:∀ w',Ext wk w'→gd<w'.heap.size:=fun w' x=>Nat.lt_of_lt_of_le HR4.out.lt x.le
   have zf:∀ w',Ext wk w'→∀ o,w'.frozen? ⟨gd,o,none⟩=false:=fun w' x o=>(x.frozen (p:=⟨gd,o,none⟩) HR4.out.lt).trans (HR4.out.fr o)
   have hkk:Ext wk wk:=Ext.refl _
   have HRS:=Lib.hid (HR4.out.put p ((i:Int)+1))
   have hxks:Ext wj (wk.setCell ⟨gd,p,none⟩ (.int .i64 ((i:Int)+1))):=hxk.setCell (p:=⟨gd,p,none⟩) (by show wj.heap.size≤gd;omega) _
   clear hgd
   go_upto_region 23 with fail
   clear z0 zl zf hkk HR4 hxk
   generalize wk.setCell ⟨gd,p,none⟩ (.int .i64 ((i:Int)+1))=wl at HRS hxks ⊢
   have hxwl:=hxwj.trans hxks
   have hx1l:=hx1j.trans hxks
   have hx5l:=hx5j.trans hxks
   have hx6l:=hx6j.trans hxks
   have hx12l:=hx12j.trans hxks
   have hxql:=hxqj.trans hxks
   have hxjl:=hxks
   have hll:Ext wl wl:=Ext.refl _
   have hpj:=HPJ.out wl hx5l hxwl (some ⟨gd,0,none⟩) gd 0 T.n (fun q=>if q=p then i+1 else 0) ((HRS.out.as (f':=natV (fun q=>if q=p then i+1 else 0)) (fun q hq=>by simp only [natV];split <;> simp)).num (by omega)) (fun q hq=>by
    by_cases e:q=p
    ·rw [if_pos e,e];omega
    ·rw [if_neg e];exact Nat.zero_le _)
   clear hxks
   go_wp2_with fail
   go_at_call 32
   refine hpj.mono ?_
   rintro e wm ⟨hxm,gm,rfl,hgm,hRm⟩
   have hxwm:=hxwl.trans hxm
   have hx1m:=hx1l.trans hxm
   have hx5m:=hx5l.trans hxm
   have hx6m:=hx6l.trans hxm
   have hx12m:=hx12l.trans hxm
   have hxqm:=hxql.trans hxm
   have hxjm:=hxjl.trans hxm
   have HRM:=Lib.hid hRm
   obtain ⟨k1,hk1⟩:∃ z,z=T.toTr.prj N F p (i+1):=⟨_,rfl⟩
   have HK1:=Lib.hid hk1
   have y0:∀ w',Ext wm w'→w'.cell? ⟨gm,p,none⟩=some (.int .i64 (k1:Nat)):=fun w' x=>by
    rw [hk1,x.cell (HRM.out.c p hpn)]
    show some (Value.int .i64 ((T.toTr.prj N F p (if p=p then i+1 else 0):Nat):Int))=_
    rw [if_pos rfl]
   have yl:∀ w',Ext wm w'→gm<w'.heap.size:=fun w' x=>Nat.lt_of_lt_of_le HRM.out.lt x.le
   have hmm:Ext wm wm:=Ext.refl _
   clear hpj hRm hxm hk1 hll
   by_cases how:∃ i0,i0<T.en p∧T.toTr.pos N F p i0=i
   case neg=>
    obtain rfl:k1=k:=by rw [HK1.out,prj_same how,HK.out]
    go_wp2_with fail
    go_roundg (ue - (i+1))
    case rel=>exact ⟨i+1,by omega,rfl,by go_num,by rw [HK1.out],hxqm⟩
    case measure=>omega
   obtain rfl:k1=k+1:=by rw [HK1.out,prj_succ how,HK.out]
   have d1:((((k+1:Nat):Int)) == (k:Int))=false:=by rw [beq_eq_false_iff_ne];omega
   have d2:(((k:Int)+1) == (k:Int))=false:=by rw [beq_eq_false_iff_ne];omega
   have hown:k<T.en p∧T.toTr.pos N F p k=i:=by
    obtain ⟨i0,h1,h2⟩:=how
    have h3:=(prj_lt (T:=T.toTr) (N:=N) (F:=F) (p:=p) (i+1) k).1 (by rw [←HK1.out];omega)
    have h4:=mt (prj_lt (T:=T.toTr) (N:=N) (F:=F) (p:=p) i k).2 (by rw [←HK.out];omega)
    exact ⟨h3.1,Nat.le_antisymm (by omega) (Nat.le_of_not_lt fun h=>h4 ⟨h3.1,h⟩)⟩
   have HOWN:=Lib.hid hown
   have hkT:k<T.en p:=hown.1
   have hse:=bool_fix (HSE.out wm.drew (hxwm.drew) U (HU.out.ext hx5m.drew) p i p k hpU hiU hpn hkT) (b:=true) ⟨fun _=>by
    have hg:=own_k (u:=(p,i)) (T:=T.toTr) (N:=N) (F:=F) (i:=k) (by
     show (T.toTr.apl N F p (T.en p))[i]?=_
     rw [←HOWN.out.2];exact pos_get HOWN.out.1)
    simp only at hg
    rw [HUT.out]
    obtain ⟨g1,g2,g3,g4,g5,g6,g7⟩:=hg
    exact ⟨g1,g2,g3,g4,g5,fun l _=>⟨by rw [g6],by rw [g7]⟩⟩,fun _=>rfl⟩
   simp only [TM.ev] at hse
   obtain ⟨tb,htb⟩:∃ z,z=ta:=⟨_,rfl⟩
   obtain rfl:tb=some ⟨T.b,T.off,none⟩:=htb.trans (HTA.out.trans (HT.out.P.pa (by omega)))
   obtain ⟨te,hte⟩:∃ z,z=T.ea p:=⟨_,rfl⟩
   obtain rfl:te=some ⟨T.eb p,T.eo p,none⟩:=hte.trans (HT.out.E.ea p hpn (by omega))
   have tpb:=HT.out.P.pb (by omega)
   have tp2:=fun w' (h:Ext w w')=>HT.out.P.p2 w' h p hpn
   rw [←hte] at tp2
   have teb:=HT.out.E.eb p hpn (by omega)
   have te0:=fun w' (x:Ext w w')=>HT.out.E.e0 w' x p k hpn hkT
   have te1:=fun w' (x:Ext w w')=>HT.out.E.e1 w' x p k hpn hkT
   have te2:=fun w' (x:Ext w w')=>HT.out.E.e2 w' x p k hpn hkT
   have te3:=fun w' (x:Ext w w')=>HT.out.E.e3 w' x p k hpn hkT
   have te4:=fun w' (x:Ext w w')=>HT.out.E.e4 w' x p k hpn hkT
   have hken:(k:Int)<(T.en p:Int):=by omega
   rw [←htb] at c0
   clear how hown hte htb
   go_upto_region 24 with fail
   refine wp_region_held_drew (S:=fun w'=>Ext wm w') (by kernel_rfl) (Ext.refl _).drew (fun hHeld=>?_)
   refine hQ 0 (v:=?_) rfl (y:=.inl ⟨by rfl,?_⟩) (h:=?_)
   rotate_left
   ·(intro w' hSw;(try dsimp only at hSw);have hSS:=Ext.refl w';have hS1:=hx1m.trans hSw;have hS0:=hxjm.trans hSw;have hSW:=hxwm.trans hSw;go_simp;try with_reducible rfl)
   try simp only [Act.put,zA,zB,zC]
   refine hQ 1 (v:=?_) rfl (y:=.inl ⟨by rfl,?_⟩) (h:=?_)
   rotate_left
   ·(intro w' hSw;(try dsimp only at hSw);have hSS:=Ext.refl w';have hS1:=hx1m.trans hSw;have hS0:=hxjm.trans hSw;have hSW:=hxwm.trans hSw;go_simp;try with_reducible rfl)
   try simp only [Act.put,zA,zB,zC]
   refine hQ 2 (v:=?_) rfl (y:=.inl ⟨by rfl,?_⟩) (h:=?_)
   rotate_left
   ·(intro w' hSw;(try dsimp only at hSw);have hSS:=Ext.refl w';have hS1:=hx1m.trans hSw;have hS0:=hxjm.trans hSw;have hSW:=hxwm.trans hSw;go_simp;try with_reducible rfl)
   try simp only [Act.put,zA,zB,zC]
   refine hQ 3 (v:=?_) rfl (y:=.inl ⟨by rfl,?_⟩) (h:=?_)
   rotate_left
   ·(intro w' hSw;(try dsimp only at hSw);have hSS:=Ext.refl w';have hS1:=hx1m.trans hSw;have hS0:=hxjm.trans hSw;have hSW:=hxwm.trans hSw;go_simp;try with_reducible rfl)
   try simp only [Act.put,zA,zB,zC]
   refine hQ 4 (v:=?_) rfl (y:=.inl ⟨by rfl,?_⟩) (h:=?_)
   rotate_left
   ·(intro w' hSw;(try dsimp only at hSw);have hSS:=Ext.refl w';have hS1:=hx1m.trans hSw;have hS0:=hxjm.trans hSw;have hSW:=hxwm.trans hSw;go_simp;try with_reducible rfl)
   try simp only [Act.put,zA,zB,zC]
   refine hQ 5 (v:=?_) rfl (y:=.inl ⟨by rfl,?_⟩) (h:=?_)
   rotate_left
   ·(intro w' hSw;(try dsimp only at hSw);have hSS:=Ext.refl w';have hS1:=hx1m.trans hSw;have hS0:=hxjm.trans hSw;have hSW:=hxwm.trans hSw;go_simp;try with_reducible rfl)
   try simp only [Act.put,zA,zB,zC]
   refine hQ 6 (v:=?_) rfl (y:=.inl ⟨by rfl,?_⟩) (h:=?_)
   rotate_left
   ·(intro w' hSw;(try dsimp only at hSw);have hSS:=Ext.refl w';have hS1:=hx1m.trans hSw;have hS0:=hxjm.trans hSw;have hSW:=hxwm.trans hSw;go_simp;try with_reducible rfl)
   try simp only [Act.put,zA,zB,zC]
   refine hQ 7 (v:=?_) rfl (y:=.inl ⟨by rfl,?_⟩) (h:=?_)
   rotate_left
   ·(intro w' hSw;(try dsimp only at hSw);have hSS:=Ext.refl w';have hS1:=hx1m.trans hSw;have hS0:=hxjm.trans hSw;have hSW:=hxwm.trans hSw;go_simp;try with_reducible rfl)
   try simp only [Act.put,zA,zB,zC]
   refine hQ 8 (v:=?_) rfl (y:=.inl ⟨by rfl,?_⟩) (h:=?_)
   rotate_left
   ·(intro w' hSw;(try dsimp only at hSw);have hSS:=Ext.refl w';have hS1:=hx1m.trans hSw;have hS0:=hxjm.trans hSw;have hSW:=hxwm.trans hSw;go_simp;try with_reducible rfl)
   try simp only [Act.put,zA,zB,zC]
   refine hQ 9 (v:=?_) rfl (y:=.inl ⟨by rfl,?_⟩) (h:=?_)
   rotate_left
   ·(intro w' hSw;(try dsimp only at hSw);have hSS:=Ext.refl w';have hS1:=hx1m.trans hSw;have hS0:=hxjm.trans hSw;have hSW:=hxwm.trans hSw;go_simp;try with_reducible rfl)
   try simp only [Act.put,zA,zB,zC]
   refine wpAnyH_ready (rs:=[10]) (by kernel_rfl) (by simp) ?_
   refine AllReadyH.cons rfl (fun K hK=>?_) AllReadyH.nil
   go_simp
   go_at_call 33
   refine hse.mono ?_
   rintro e wn ⟨rfl,hxn⟩
   have hxmn:Ext wm wn:=(Ext.refl wm).drew.trans hxn
   refine hK.out _ _ hxmn (fun hHeld2=>?_)
   clear hK K
   try simp only [Act.put,zA,zB,zC]
   clear hHeld
   have hHeld:=hHeld2
   clear hHeld2 hse
   refine hQ 11 (v:=?_) rfl (y:=.inl ⟨by rfl,?_⟩) (h:=?_)
   rotate_left
   ·(intro w' hSw;(try dsimp only at hSw);have hSS:=Ext.refl w';have hS1:=hx1m.trans hSw;have hS0:=hxjm.trans hSw;have hSW:=hxwm.trans hSw;go_simp;try with_reducible rfl)
   try simp only [Act.put,zA,zB,zC]
   refine wpAnyH_done (by kernel_rfl) ?_ _
   have hxqn:=hxqm.trans hxmn
   have HKN:=Lib.hid (show T.toTr.prj N F p (i+1)=k+1 from HK1.out.symm)
   clear hHeld hxn tpb tp2 teb te0 te1 te2 te3 te4
   go_wp2_with fail
   go_roundg (ue - (i+1))
   case rel=>exact ⟨i+1,by omega,rfl,by go_num,by rw [HKN.out];go_num,hxqn⟩
   case measure=>omega
set_option maxRecDepth 100000 in
theorem lifted (os : Os) (started : os.Started) (H : Type) (enc : TypeId × Value → H) :
    ReturnsInHanded {} Tryz.checked os 6 .any (Rows.replayControlsSpec.pre6 enc Tryz.prog Tryz.f6 Rows.replayControlsRow.domain false) (Rows.replayControlsSpec.post enc Tryz.prog Tryz.f6 false true false false):=by
 refine returnsInHanded_of_change_sized (C:=Tryz.checked) own14 started (by kernel_rfl) Tryz.func6
  (ChangeSpec.witness6 (enc:=enc) (C:=Tryz.checked) false ⟨#[],#[.agg #[.slice none 0 0],.slice none 0 0],[]⟩ 8 (by kernel_rfl) (by kernel_rfl) (by kernel_rfl) (by kernel_rfl)) ?_
 intro W base args ds gs before hval0 hW _ hsz0 _
 have hsz1:(DataW.weightsEach Tryz.prog (Tryz.f6.params.toList++Rows.replayControlsSpec.plain.varTypes Tryz.prog) (ds++gs)).all (·≤reachBytes)=true:=hsz0
 clear hsz0
 have hval:∀ (j:Nat) t v,Tryz.f6.params[j]?=some t→args[j]?=some v→Value.okWide Tryz.prog W .any base t v:=hval0
 have hW':=hW
 obtain ⟨p,q,hA0,hV,rfl,hfz,hnd⟩:=hW
 have hA:DataW.TrodAll enc Tryz.prog W 0 (fun _=>true) true Tryz.f6.params.toList args.toList ds p:=hA0
 rw [Tryz.params6] at hA hval hsz1
 obtain ⟨v0,vs0,d0,ds0,p0,q0,hargs,rfl,rfl,h0,r0⟩:=trodAll_cons hA
 obtain ⟨v1,vs1,d1,ds1,p1,q1,rfl,rfl,rfl,h1,r1⟩:=trodAll_cons r0
 obtain ⟨rfl,rfl,rfl⟩:=trodAll_nil r1
 obtain rfl:args=#[v0,v1]:=by cases args;simp_all
 obtain ⟨rfl,rfl⟩:=trodVars_none hV
 obtain ⟨T0,rfl,hT0⟩:=arg_trace (hval 0 24 v0 rfl rfl) h0 (small_of hsz1 (j:=0) rfl rfl)
 obtain ⟨D1,rfl,hD1⟩:=arg_syncs (hval 1 25 v1 rfl rfl) h1 (small_of hsz1 (j:=1) rfl rfl)
 clear hA0 hval0 hsz1
 simp only [List.append_nil] at hW'
 have hl1:∀ x∈p1,x.block<W.heap.size:=fun x hx=>hW'.lt x (by simp [hx])
 have hl0:∀ x∈p0,x.block<W.heap.size:=fun x hx=>hW'.lt x (by simp [hx])
 refine (walk T0 D1 W hT0 hD1).mono fun e W' ⟨he,hg⟩=>?_
 subst he
 exact ⟨_,rfl,post_ext1 (pa:=(p0++(p1++[]))) (pv:=[]) hW' (fun _ _ _=>(trodAll_cons_mk (shut_bool Tryz.underlying4 _) trodAll_mk0)) (trodAll_cons_mk (Below.trod laid14 (by kernel_rfl) (of_decide_eq_true (by kernel_rfl)) h0 hg.below hl0) (trodAll_cons_mk (Below.trod laid14 (by kernel_rfl) (of_decide_eq_true (by kernel_rfl)) h1 hg.below hl1) trodAll_mk0)) rfl hg⟩
theorem j0:(Rows.replayControlsRow.wf (OpenSpec.ofChange Rows.replayControlsSpec))=true:=by kernel_rfl
theorem j1:(laidOutB Tryz.pinned.checked.prog)=true:=by kernel_rfl
theorem j2:(mapsRowed Tryz.pinned.checked.prog)=true:=by kernel_rfl
theorem j3:(Tryz.f6.params.all (Tryz.pinned.checked.prog.readableRec ·))=true:=by kernel_rfl
theorem j4:(namedTie Tryz.pinned.checked.prog Rows.replayControlsRow.named Rows.replayControlsSpec.vars)=true:=by kernel_rfl
theorem j5:(Rows.replayControlsRow.stops == [])=true:=by kernel_rfl
theorem j6:(Tryz.pinned.checked.prog.stops == [])=true:=by kernel_rfl
theorem j7:(Rows.replayControlsRow.knobs == [])=true:=by kernel_rfl
theorem j8:(Tryz.pinned.checked.prog.stopKnobs == [])=true:=by kernel_rfl
theorem j9:(Rows.replayControlsRow.inPlace == Tryz.pinned.checked.prog.inPlace 6)=true:=by kernel_rfl
theorem j10:(Rows.replayControlsRow.unfollowed == Tryz.pinned.checked.prog.unfollowed 6)=true:=by kernel_rfl
theorem j11:(Rows.replayControlsRow.recurses == Tryz.pinned.checked.prog.recurses 6)=true:=by kernel_rfl
theorem j12:(Rows.replayControlsRow.named == Tryz.pinned.checked.prog.varsNamed 6)=true:=by kernel_rfl
theorem j13:(Rows.replayControlsRow.maps == (Tryz.f6.params.toList++Rows.replayControlsSpec.plain.varTypes Tryz.pinned.checked.prog).any (Tryz.pinned.checked.prog.mapsRec ·))=true:=by kernel_rfl
theorem j14:(Rows.replayControlsRow.ifaces == (Tryz.f6.params.toList++Rows.replayControlsSpec.plain.varTypes Tryz.pinned.checked.prog).any (Tryz.pinned.checked.prog.ifacesRec ·))=true:=by kernel_rfl
theorem j15:(Rows.replayControlsRow.mapsOut == Tryz.pinned.checked.prog.mapsAmong Tryz.f6.resultTypes.toList)=true:=by kernel_rfl
theorem j16:(Rows.replayControlsRow.loops == (Tryz.f6.params.toList++Rows.replayControlsSpec.plain.varTypes Tryz.pinned.checked.prog).any (Tryz.pinned.checked.prog.loopsFrom ·))=true:=by kernel_rfl
theorem j17:(Rows.replayControlsRow.wideKeys == (Tryz.f6.params.toList++Rows.replayControlsSpec.plain.varTypes Tryz.pinned.checked.prog++Tryz.f6.resultTypes.toList).any (Tryz.pinned.checked.prog.wideKeysFrom ·))=true:=by kernel_rfl
theorem j18:(Rows.replayControlsSpec.vars.all (Tryz.pinned.checked.prog.varReadable ·))=true:=by kernel_rfl
theorem j19:(Tryz.f6.resultTypes.all (fun t=>Tryz.pinned.checked.prog.readableRec t && decide (t<Tryz.pinned.checked.prog.types.size)))=true:=by kernel_rfl
theorem j20:(Rows.replayControlsRow.ifacesOut == Tryz.f6.resultTypes.toList.any (Tryz.pinned.checked.prog.ifacesRec ·))=true:=by kernel_rfl
theorem j21:(Rows.replayControlsRow.loopsOut == Tryz.f6.resultTypes.toList.any (Tryz.pinned.checked.prog.loopsFrom ·))=true:=by kernel_rfl
theorem j22:(Rows.replayControlsRow.plainKeys == Tryz.pinned.checked.prog.plainKeys)=true:=by kernel_rfl
theorem j23:(Rows.replayControlsRow.shortTexts.isNone)=true:=by kernel_rfl
theorem j24:(Tryz.pinned.checked.prog.stopsHeard)=true:=by kernel_rfl
theorem j25:(Tryz.pinned.checked.prog.mayEnter)=true:=by kernel_rfl
theorem j26:(Rows.replayControlsRow.lifted == Tryz.pinned.checked.prog.liftsFinal)=true:=by kernel_rfl
theorem j27:(Tryz.pinned.checked.prog.make == some Rows.replayControlsRow.make)=true:=by kernel_rfl
theorem j28:(Rows.replayControlsRow.kinds == (if Rows.replayControlsRow.domain.isEmpty then [] else Tryz.f6.params.toList.map fun t=>match Tryz.pinned.checked.prog.underlying t with | some (.int k)=>some k | _=>none))=true:=by kernel_rfl
theorem j29:(Rows.replayControlsRow.pinned == Rows.replayControlsRow.pinnedBy)=true:=by kernel_rfl
theorem j30:(Rows.replayControlsRow.veiled == (Tryz.f6.params.toList++Rows.replayControlsSpec.plain.varTypes Tryz.pinned.checked.prog++Tryz.f6.resultTypes.toList).any (Tryz.pinned.checked.prog.veiledRec ·))=true:=by kernel_rfl
theorem j31:(Rows.replayControlsRow.veiledFits Tryz.pinned.checked.prog Tryz.f6.params.toList (Tryz.f6.params.toList++Rows.replayControlsSpec.plain.varTypes Tryz.pinned.checked.prog++Tryz.f6.resultTypes.toList))=true:=by kernel_rfl
set_option maxRecDepth 100000 in
theorem closed:joinedFacts Tryz.pinned.checked.prog 6 Tryz.f6 Rows.replayControlsSpec Rows.replayControlsRow=true:=by
 unfold joinedFacts
 rw [j0,j1,j2,j3,j4,j5,j6,j7,j8,j9,j10,j11,j12,j13,j14,j15,j16,j17,j18,j19,j20,j21,j22,j23,j24,j25,j26,j27,j29,j30,j31]
 simp only [Bool.true_and,Bool.and_true]
 first | exact j28 | kernel_rfl
theorem over:Rows.replayControlsRow.holds Tryz.pinned (OpenSpec.ofChange Rows.replayControlsSpec):=
 OpenClaim.holds_of_wide 6 Tryz.f6 rfl rfl rfl rfl rfl rfl rfl ⟨rfl,rfl,rfl,rfl,rfl⟩ rfl rfl rfl rfl rfl (by kernel_rfl) Tryz.func6 closed
  (of_decide_eq_true (by kernel_rfl)) (by unfold Func.isWrapper;first | (rw [if_pos (by decide +kernel)];kernel_rfl) | (rw [if_neg (by decide +kernel)];exact ⟨rfl,rfl⟩))
  (fun os started H enc _=>lifted os started H enc)
theorem proved:Rows.ReplayControlsSaid:=
 over
#print axioms proved
end Go.Proofs.YtkhgpockmaghjaaGreat.replayControls
