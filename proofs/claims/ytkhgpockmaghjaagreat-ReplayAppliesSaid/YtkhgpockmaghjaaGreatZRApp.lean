/-
  PROVED HERE: 'ReplayApplies' returns true for every trace and list of syncs, in every memory: no condition.
  (The row's step follows the shell that the kit's program wrote for 'LamportSteps'.)
-/
import Derived.Test.YtkhgpockmaghjaaGreatRows
import Derived.WalkKit
import Derived.Test.YtkhgpockmaghjaaGreatW67
import Derived.Test.YtkhgpockmaghjaaGreatW73
import Derived.Test.YtkhgpockmaghjaaGreatW80
namespace Go.Proofs.YtkhgpockmaghjaaGreat.replayApplies
open Go.ChangeShapes Go.WideShapes Go.ChangeAt Go.RowKit Go.Shelf Go.Proofs.YtkhgpockmaghjaaGreat
set_option linter.unusedVariables false
def TruePost (w:World) (e:Ending) (w':World):Prop:=e=.returned (.bool true)∧Ext w w'
def nilTM:TM where
 n:=0
 name:=fun _=>⟨#[]⟩
 vn:=fun _=>0
 vname:=fun _ _=>⟨#[]⟩
 vinit:=fun _ _=>0
 en:=fun _=>0
 kind:=fun _ _=>0
 peer:=fun _ _=>0
 msg:=fun _ _=>0
 time:=fun _ _=>0
 an:=fun _ _=>0
 avar:=fun _ _ _=>0
 aval:=fun _ _ _=>0
 a:=none
 b:=0
 off:=0
 cap:=0
 va:=fun _=>none
 vb:=fun _=>0
 vo:=fun _=>0
 vc:=fun _=>0
 ea:=fun _=>none
 eb:=fun _=>0
 eo:=fun _=>0
 ec:=fun _=>0
 aa:=fun _ _=>none
 ab:=fun _ _=>0
 ao:=fun _ _=>0
 ac:=fun _ _=>0
theorem nilTM_at (w:World):nilTM.At w:=by
 have no:∀ {k:Nat} {P:Prop},k<nilTM.n→P:=fun h=>absurd h (Nat.not_lt_zero _)
 exact ⟨⟨Nat.zero_le _,Nat.zero_le _,fun h=>no h,fun h=>no h,fun _ _ _ h=>no h,fun _ _ _ h=>no h,fun _ _ _ h=>no h⟩,
  ⟨fun _ h=>no h,fun _ h=>no h,fun _ h=>no h,fun _ h=>no h,fun _ _ _ _ h=>no h,fun _ _ _ _ h=>no h⟩,
  ⟨fun _ h=>no h,fun _ h=>no h,fun _ h=>no h,fun _ h=>no h,fun _ _ _ _ h=>no h,fun _ _ _ _ h=>no h,fun _ _ _ _ h=>no h,fun _ _ _ _ h=>no h,fun _ _ _ _ h=>no h⟩,
  ⟨fun _ _ h=>no h,fun _ _ h=>no h,fun _ _ h=>no h,fun _ _ h=>no h,fun _ _ _ _ _ h=>no h,fun _ _ _ _ _ h=>no h⟩,
  ⟨fun _ h=>no h,fun _ _ h=>no h,fun _ _ h=>no h,fun _ _ h=>no h,fun _ _ h=>no h,fun _ _ h=>no h,fun _ _ h=>no h,fun _ _ _ h=>no h,fun _ _ _ h=>no h⟩⟩
theorem same_refl (T:Tr):SameTr T T:=⟨rfl,fun _ _=>⟨rfl,rfl,rfl,fun _ _=>⟨rfl,rfl⟩,fun _ _=>⟨rfl,rfl,rfl,rfl,rfl,fun _ _=>⟨rfl,rfl⟩⟩⟩⟩
theorem same_of {T U:Tr} (h:T=U):SameTr T U:=by subst h;exact same_refl T
def AppK (T:Tr) (L:List Syn) (V:TM) (f:Int) (w:World):Prop:=V.At w∧((T.AplBig (T.ndL L L.length) (T.freeL 200)∧V=nilTM∧f=9)∨(¬T.AplBig (T.ndL L L.length) (T.freeL 200)∧V.toTr=T.aplTr (T.ndL L L.length) (T.freeL 200)∧f=0))
theorem AppK.same {T:Tr} {L:List Syn} {V V':TM} {f f':Int} {w w':World} (h:AppK T L V f w) (k:AppK T L V' f' w'):SameTr V.toTr V'.toTr∧f=f':=by
 rcases h.2 with ⟨h1,h2,h3⟩ | ⟨h1,h2,h3⟩ <;> rcases k.2 with ⟨k1,k2,k3⟩ | ⟨k1,k2,k3⟩
 ·rw [h2,k2,h3,k3];exact ⟨same_refl _,rfl⟩
 ·exact absurd h1 k1
 ·exact absurd k1 h1
 ·rw [h2,k2,h3,k3];exact ⟨same_refl _,rfl⟩
theorem appP {T : Tr} {L : List Syn} {w w' : World} {e : Ending} (h : PAppPost T L w e w') : Ext w w' ∧ ((∃ r : Int, PFault T L True False r ∧ r ≠ 0 ∧ e = .returned (.tuple #[.agg #[.slice none 0 0], .int .i64 r])) ∨
    (PFault T L True False 0∧∃ (V:TM) (f:Int),e=.returned (.tuple #[.agg #[.slice V.a V.n V.cap],.int .i64 f])∧AppK T L V f w')):=by
 obtain ⟨hx,h | ⟨hf,⟨h1,h2⟩ | ⟨h1,U,h2,h3,h4⟩⟩⟩:=h
 ·exact ⟨hx,.inl h⟩
 ·exact ⟨hx,.inr ⟨hf,nilTM,9,h2,nilTM_at _,.inl ⟨h1,rfl,rfl⟩⟩⟩
 ·exact ⟨hx,.inr ⟨hf,U,0,h4,h2,.inr ⟨h1,h3,rfl⟩⟩⟩
theorem appR {T:Tr} {L:List Syn} {w w':World} {e:Ending} (h:RAppPost T L w e w'):Ext w w'∧∃ (V:TM) (f:Int),e=.returned (.tuple #[.agg #[.slice V.a V.n V.cap],.int .i64 f])∧AppK T L V f w':=by
 obtain ⟨hx,⟨h1,h2⟩ | ⟨h1,U,h2,h3,h4⟩⟩:=h
 ·exact ⟨hx,nilTM,9,h2,nilTM_at _,.inl ⟨h1,rfl,rfl⟩⟩
 ·exact ⟨hx,U,0,h4,h2,.inr ⟨h1,h3,rfl⟩⟩
set_option maxRecDepth 100000 in
set_option maxHeartbeats 8000000 in
theorem walk (T : TM) (D : SyD) (w : World) (hT : T.At w) (hD : D.At w) :
    Calls Tryz.prog 3 #[T.val,.slice D.s.a D.s.n D.s.c] w (TruePost w):=by
 have HT:=Lib.hid hT
 have HD:=Lib.hid hD
 have hdn:=hD.hn
 have HBIG:=Lib.hid (fun W (x:Ext w W)=>big_any W T (hT.ext x) D.s.a D.s.n D.s.c hdn)
 have HFL:=Lib.hid (fun W (x:Ext w W) b=>rfault45_any W T (hT.ext x) D (hD.ext x) b)
 have HND:=Lib.hid (fun W (x:Ext w W) (h:BigNo T.toTr D.s.n)=>pneeded_any W T (hT.ext x) (by have:=h.n;omega) D (hD.ext x))
 have HAP:=Lib.hid (fun W (x:Ext w W) (h:BigNo T.toTr D.s.n)=>papply_any W T (hT.ext x) (by have:=h.n;omega) D (hD.ext x))
 have HRA:=Lib.hid (fun W (x:Ext w W) hV hL (hn:D.s.n≤1000) hA=>rapply_any W T (hT.ext x) hV D (hD.ext x) hL hn hA)
 have HRN:=Lib.hid (fun W (x:Ext w W) hV hL (hn:D.s.n≤1000) hA=>rneeded_any W T (hT.ext x) hV D (hD.ext x) hL hn hA)
 have HDL:=Lib.hid (show D.l.length=D.s.n from D.len)
 obtain ⟨ta,hta⟩:∃ z,z=T.a:=⟨_,rfl⟩
 obtain ⟨da,hda⟩:∃ z,z=D.s.a:=⟨_,rfl⟩
 obtain ⟨dn,hdn'⟩:∃ z,z=D.s.n:=⟨_,rfl⟩
 simp only [TM.val,←hta] at HBIG HFL HND HAP HRA HRN ⊢
 rw [←hda,←hdn'] at HBIG HFL HND HAP HRA HRN
 rw [←hdn'] at hdn HDL
 rw [←hda,←hdn']
 clear hT hD hta hda hdn'
 go_enter Tryz.func3,Tryz.ntmps3
 go_upto_region 1 with fail
 refine boxed1 (w:=w) (G:=fun x=>Code.wp _ _ _ _ x) ?_
 intro w1 hx1 hs1 ⟨l0,c0,_,_⟩
 have hx11:Ext w1 w1:=Ext.refl _
 clear hs1
 go_wp2_with fail
 go_at_call 9
 refine (awake45_any w1).mono ?_
 rintro e w2 ⟨rfl,hx2⟩
 have hxw2:=hx1.trans hx2
 go_wp2_with fail
 go_at_call 10
 refine (HBIG.out w2 hxw2).mono ?_
 rintro e w3 ⟨bb,rfl,hbb,hx3⟩
 have hxw3:=hxw2.trans hx3
 have hx13:=hx2.trans hx3
 cases bb with
 | true =>
  clear hbb
  go_wp2_with fail
  go_ret
  exact ⟨rfl,hxw3⟩
 | false =>
 have HB:=Lib.hid (hbb rfl)
 clear hbb hx2 hx3 hxw2
 go_wp2_with fail
 go_at_call 11
 refine (HND.out w3 hxw3 HB.out).mono ?_
 rintro e w4 ⟨hx4,hp⟩
 have hxw4:=hxw3.trans hx4
 have hx14:=hx13.trans hx4
 clear hx13 hxw3
 rcases hp with ⟨r,hf,hr0,rfl⟩ | ⟨hf,v4,rfl,hq4⟩
 ·have HF:=Lib.hid hf
  have HR0:=Lib.hid hr0
  clear hf hr0
  go_wp2_with fail
  go_at_call 12
  refine (HAP.out w4 hxw4 HB.out).mono ?_
  rintro e w5 hp5
  obtain ⟨hx5,⟨r5,hf5,h50,rfl⟩ | ⟨hf5,_⟩⟩:=appP hp5
  ·obtain rfl:r5=r:=hf5.uniq HF.out Iff.rfl Iff.rfl
   have hxw5:=hxw4.trans hx5
   have hx15:=hx14.trans hx5
   clear hp5 hf5 h50
   go_upto_region 7 with fail
   refine boxed1 (w:=w5) (G:=fun x=>Code.wp _ _ _ _ x) ?_
   intro w6 hx6 hs6 ⟨l6,c6,_,_⟩
   have hx66:Ext w6 w6:=Ext.refl _
   have hxw6:=hxw5.trans hx6
   have hx16:=hx15.trans hx6
   clear hs6
   go_wp2_with fail
   go_at_call 13
   refine (HFL.out w6 hxw6 false).mono ?_
   rintro e w7 ⟨hx7,r0,rfl,hf0⟩
   obtain rfl:r0=r5:=PFault.uniq (show PFault T.toTr D.l True False r0 from hf0.congr Iff.rfl ⟨fun h=>(by cases h),fun h=>h.elim⟩) HF.out Iff.rfl Iff.rfl
   have hxw7:=hxw6.trans hx7
   have hx17:=hx16.trans hx7
   have hx67:=hx7
   clear hf0 hx7
   have d1:(r0 == 0)=false:=by simpa using HR0.out
   have d1':(r0 != 0)=true:=by simpa using HR0.out
   have hsm:=bool_fix (rsametr_any w7 nilTM nilTM (nilTM_at _) (nilTM_at _)) (b:=true) ⟨fun _=>same_refl _,fun _=>rfl⟩
   simp only [TM.val,show nilTM.a=none from rfl,show nilTM.n=0 from rfl,show nilTM.cap=0 from rfl] at hsm
   go_wp2_with fail
   go_at_call 14
   refine hsm.mono ?_
   rintro e w8 ⟨rfl,hx8⟩
   clear hsm
   go_wp2_with fail
   go_ret
   exact ⟨rfl,(hxw7.trans hx8)⟩
  ·exact absurd (hf5.uniq HF.out Iff.rfl Iff.rfl).symm HR0.out
 have HF:=Lib.hid hf
 obtain ⟨⟨⟨hV,_⟩,hl,hL,_,hA⟩⟩:_∧True:=⟨hf.ok,trivial⟩
 have HV:=Lib.hid hV
 have HL:=Lib.hid hL
 have HA:=Lib.hid hA
 have hdn2:dn≤1000:=by rw [←HDL.out];exact hl
 have hNd:(T.toTr.ndL D.l dn).length≤1000:=by have:=ndL_len T.toTr D.l dn;omega
 have hNs:∀ s,s∈T.toTr.ndL D.l dn→okI s.1.1∧okI s.1.2∧okI s.2.1∧okI s.2.2:=fun s hs=>synOkI (by have:=hV.n8;omega) (fun p hp=>by have:=hV.en64 hp;omega) hL s (ndL_sub hs)
 have HNS:=Lib.hid hNs
 have HNL:=Lib.hid hNd
 obtain ⟨D4,rfl,hD4,hl4⟩:=queSyD hq4 rfl hNd hNs
 have HD4:=Lib.hid hD4
 have HL4:=Lib.hid hl4
 clear hf hV hL hA hl hNd hNs hq4 hD4 hl4
 go_wp2_with fail
 go_at_call 12
 refine (HAP.out w4 hxw4 HB.out).mono ?_
 rintro e w5 hp5
 obtain ⟨hx5,⟨r5,hf5,h50,rfl⟩ | ⟨hf5,V5,f5,rfl,hk5⟩⟩:=appP hp5
 ·exact absurd (hf5.uniq HF.out Iff.rfl Iff.rfl) h50
 have HK5:=Lib.hid hk5
 have hxw5:=hxw4.trans hx5
 have hx15:=hx14.trans hx5
 clear hp5 hf5 hk5
 go_upto_region 7 with fail
 refine boxed1 (w:=w5) (G:=fun x=>Code.wp _ _ _ _ x) ?_
 intro w6 hx6 hs6 ⟨l6,c6,_,_⟩
 have hx66:Ext w6 w6:=Ext.refl _
 have hxw6:=hxw5.trans hx6
 have hx16:=hx15.trans hx6
 have hx46:=hx5.trans hx6
 have HX56:=Lib.hid hx6
 clear hs6
 go_wp2_with fail
 go_at_call 13
 refine (HFL.out w6 hxw6 false).mono ?_
 rintro e w7 ⟨hx7,r0,rfl,hf0⟩
 obtain rfl:r0=0:=PFault.uniq (show PFault T.toTr D.l True False r0 from hf0.congr Iff.rfl ⟨fun h=>(by cases h),fun h=>h.elim⟩) HF.out Iff.rfl Iff.rfl
 have hxw7:=hxw6.trans hx7
 have hx17:=hx16.trans hx7
 have hx67:=hx7
 have hx47:=hx46.trans hx7
 clear hf0 hx7
 go_wp2_with fail
 go_at_call 15
 refine (HRA.out w7 hxw7 HV.out HL.out hdn2 HA.out).mono ?_
 rintro e w8 hp8
 obtain ⟨hx8,V8,f8,rfl,hk8⟩:=appR hp8
 have HK8:=Lib.hid hk8
 have hxw8:=hxw7.trans hx8
 have hx18:=hx17.trans hx8
 have hx68:=hx67.trans hx8
 have hx48:=hx47.trans hx8
 clear hp8 hk8 hx8
 go_upto_region 11 with fail
 refine boxed1 (w:=w8) (G:=fun x=>Code.wp _ _ _ _ x) ?_
 intro w9 hx9 hs9 ⟨l9,c9,_,_⟩
 have hx99:Ext w9 w9:=Ext.refl _
 have hxw9:=hxw8.trans hx9
 have hx19:=hx18.trans hx9
 have hx69:=hx68.trans hx9
 have hx49:=hx48.trans hx9
 have HX89:=Lib.hid hx9
 clear hs9
 obtain rfl:f5=f8:=(HK5.out.same HK8.out).2
 go_wp2_with fail
 go_at_call 17
 refine (HRN.out w9 hxw9 HV.out HL.out hdn2 HA.out).mono ?_
 rintro e w10 ⟨hx10,v10,rfl,hq10⟩
 obtain ⟨E,rfl,hE,hlE⟩:=queSyD hq10 rfl HNL.out HNS.out
 have hx410:=hx49.trans hx10
 have hss:=bool_fix (rsamesyncs_any w10 D4 E (HD4.out.ext hx410) hE) (b:=true) ⟨fun _=>by
  have h1:D4.l=E.l:=HL4.out.trans hlE.symm
  have h2:D4.s.n=E.s.n:=by rw [←D4.len,←E.len,h1]
  refine ⟨h2,fun i hi=>?_⟩
  have h3:=SyD.get D4 hi
  have h4:=SyD.get E (i:=i) (by omega)
  rw [h1,h4] at h3
  exact (Option.some.inj h3).symm,fun _=>rfl⟩
 have hx610:=hx69.trans hx10
 have hx910:=hx10
 clear hq10 hE hlE
 go_wp2_with fail
 go_at_call 16
 refine hss.mono ?_
 rintro e w11 ⟨rfl,hx11'⟩
 have hx611:=hx610.trans hx11'
 have hx911:=hx910.trans hx11'
 have hsm:=bool_fix (rsametr_any w11 V5 V8 (HK5.out.1.ext (HX56.out.trans hx611)) (HK8.out.1.ext (HX89.out.trans hx911))) (b:=true) ⟨fun _=>(HK5.out.same HK8.out).1,fun _=>rfl⟩
 simp only [TM.val] at hsm
 have hxw11:=hxw9.trans hx911
 clear hss
 go_wp2_with fail
 go_at_call 14
 refine hsm.mono ?_
 rintro e w12 ⟨rfl,hx12⟩
 clear hsm
 go_wp2_with fail
 go_ret
 exact ⟨rfl,(hxw11.trans hx12)⟩
set_option maxRecDepth 100000 in
theorem lifted (os : Os) (started : os.Started) (H : Type) (enc : TypeId × Value → H) :
    ReturnsInHanded {} Tryz.checked os 3 .any (Rows.replayAppliesSpec.pre6 enc Tryz.prog Tryz.f3 Rows.replayAppliesRow.domain false) (Rows.replayAppliesSpec.post enc Tryz.prog Tryz.f3 false true false false):=by
 refine returnsInHanded_of_change_sized (C:=Tryz.checked) own14 started (by kernel_rfl) Tryz.func3
  (ChangeSpec.witness6 (enc:=enc) (C:=Tryz.checked) false ⟨#[],#[.agg #[.slice none 0 0],.slice none 0 0],[]⟩ 8 (by kernel_rfl) (by kernel_rfl) (by kernel_rfl) (by kernel_rfl)) ?_
 intro W base args ds gs before hval0 hW _ hsz0 _
 have hsz1:(DataW.weightsEach Tryz.prog (Tryz.f3.params.toList++Rows.replayAppliesSpec.plain.varTypes Tryz.prog) (ds++gs)).all (·≤reachBytes)=true:=hsz0
 clear hsz0
 have hval:∀ (j:Nat) t v,Tryz.f3.params[j]?=some t→args[j]?=some v→Value.okWide Tryz.prog W .any base t v:=hval0
 have hW':=hW
 obtain ⟨p,q,hA0,hV,rfl,hfz,hnd⟩:=hW
 have hA:DataW.TrodAll enc Tryz.prog W 0 (fun _=>true) true Tryz.f3.params.toList args.toList ds p:=hA0
 rw [Tryz.params3] at hA hval hsz1
 obtain ⟨v0,vs0,d0,ds0,p0,q0,hargs,rfl,rfl,h0,r0⟩:=trodAll_cons hA
 obtain ⟨v1,vs1,d1,ds1,p1,q1,rfl,rfl,rfl,h1,r1⟩:=trodAll_cons r0
 obtain ⟨rfl,rfl,rfl⟩:=trodAll_nil r1
 obtain rfl:args=#[v0,v1]:=by cases args;simp_all
 obtain ⟨rfl,rfl⟩:=trodVars_none hV
 obtain ⟨T0,rfl,hT0⟩:=arg_trace (hval 0 24 v0 rfl rfl) h0 (small_of hsz1 (j:=0) rfl rfl)
 obtain ⟨D1,rfl,hD1⟩:=arg_syncs (hval 1 25 v1 rfl rfl) h1 (small_of hsz1 (j:=1) rfl rfl)
 clear hA0 hval0 hsz1
 simp only [List.append_nil] at hW'
 have hl1:∀ x∈p1,x.block<W.heap.size:=fun x hx=>hW'.lt x (by simp [hx])
 have hl0:∀ x∈p0,x.block<W.heap.size:=fun x hx=>hW'.lt x (by simp [hx])
 refine (walk T0 D1 W hT0 hD1).mono fun e W' ⟨he,hg⟩=>?_
 subst he
 exact ⟨_,rfl,post_ext1 (pa:=(p0++(p1++[]))) (pv:=[]) hW' (fun _ _ _=>(trodAll_cons_mk (shut_bool Tryz.underlying4 _) trodAll_mk0)) (trodAll_cons_mk (Below.trod laid14 (by kernel_rfl) (of_decide_eq_true (by kernel_rfl)) h0 hg.below hl0) (trodAll_cons_mk (Below.trod laid14 (by kernel_rfl) (of_decide_eq_true (by kernel_rfl)) h1 hg.below hl1) trodAll_mk0)) rfl hg⟩
theorem j0:(Rows.replayAppliesRow.wf (OpenSpec.ofChange Rows.replayAppliesSpec))=true:=by kernel_rfl
theorem j1:(laidOutB Tryz.pinned.checked.prog)=true:=by kernel_rfl
theorem j2:(mapsRowed Tryz.pinned.checked.prog)=true:=by kernel_rfl
theorem j3:(Tryz.f3.params.all (Tryz.pinned.checked.prog.readableRec ·))=true:=by kernel_rfl
theorem j4:(namedTie Tryz.pinned.checked.prog Rows.replayAppliesRow.named Rows.replayAppliesSpec.vars)=true:=by kernel_rfl
theorem j5:(Rows.replayAppliesRow.stops == [])=true:=by kernel_rfl
theorem j6:(Tryz.pinned.checked.prog.stops == [])=true:=by kernel_rfl
theorem j7:(Rows.replayAppliesRow.knobs == [])=true:=by kernel_rfl
theorem j8:(Tryz.pinned.checked.prog.stopKnobs == [])=true:=by kernel_rfl
theorem j9:(Rows.replayAppliesRow.inPlace == Tryz.pinned.checked.prog.inPlace 3)=true:=by kernel_rfl
theorem j10:(Rows.replayAppliesRow.unfollowed == Tryz.pinned.checked.prog.unfollowed 3)=true:=by kernel_rfl
theorem j11:(Rows.replayAppliesRow.recurses == Tryz.pinned.checked.prog.recurses 3)=true:=by kernel_rfl
theorem j12:(Rows.replayAppliesRow.named == Tryz.pinned.checked.prog.varsNamed 3)=true:=by kernel_rfl
theorem j13:(Rows.replayAppliesRow.maps == (Tryz.f3.params.toList++Rows.replayAppliesSpec.plain.varTypes Tryz.pinned.checked.prog).any (Tryz.pinned.checked.prog.mapsRec ·))=true:=by kernel_rfl
theorem j14:(Rows.replayAppliesRow.ifaces == (Tryz.f3.params.toList++Rows.replayAppliesSpec.plain.varTypes Tryz.pinned.checked.prog).any (Tryz.pinned.checked.prog.ifacesRec ·))=true:=by kernel_rfl
theorem j15:(Rows.replayAppliesRow.mapsOut == Tryz.pinned.checked.prog.mapsAmong Tryz.f3.resultTypes.toList)=true:=by kernel_rfl
theorem j16:(Rows.replayAppliesRow.loops == (Tryz.f3.params.toList++Rows.replayAppliesSpec.plain.varTypes Tryz.pinned.checked.prog).any (Tryz.pinned.checked.prog.loopsFrom ·))=true:=by kernel_rfl
theorem j17:(Rows.replayAppliesRow.wideKeys == (Tryz.f3.params.toList++Rows.replayAppliesSpec.plain.varTypes Tryz.pinned.checked.prog++Tryz.f3.resultTypes.toList).any (Tryz.pinned.checked.prog.wideKeysFrom ·))=true:=by kernel_rfl
theorem j18:(Rows.replayAppliesSpec.vars.all (Tryz.pinned.checked.prog.varReadable ·))=true:=by kernel_rfl
theorem j19:(Tryz.f3.resultTypes.all (fun t=>Tryz.pinned.checked.prog.readableRec t && decide (t<Tryz.pinned.checked.prog.types.size)))=true:=by kernel_rfl
theorem j20:(Rows.replayAppliesRow.ifacesOut == Tryz.f3.resultTypes.toList.any (Tryz.pinned.checked.prog.ifacesRec ·))=true:=by kernel_rfl
theorem j21:(Rows.replayAppliesRow.loopsOut == Tryz.f3.resultTypes.toList.any (Tryz.pinned.checked.prog.loopsFrom ·))=true:=by kernel_rfl
theorem j22:(Rows.replayAppliesRow.plainKeys == Tryz.pinned.checked.prog.plainKeys)=true:=by kernel_rfl
theorem j23:(Rows.replayAppliesRow.shortTexts.isNone)=true:=by kernel_rfl
theorem j24:(Tryz.pinned.checked.prog.stopsHeard)=true:=by kernel_rfl
theorem j25:(Tryz.pinned.checked.prog.mayEnter)=true:=by kernel_rfl
theorem j26:(Rows.replayAppliesRow.lifted == Tryz.pinned.checked.prog.liftsFinal)=true:=by kernel_rfl
theorem j27:(Tryz.pinned.checked.prog.make == some Rows.replayAppliesRow.make)=true:=by kernel_rfl
theorem j28:(Rows.replayAppliesRow.kinds == (if Rows.replayAppliesRow.domain.isEmpty then [] else Tryz.f3.params.toList.map fun t=>match Tryz.pinned.checked.prog.underlying t with | some (.int k)=>some k | _=>none))=true:=by kernel_rfl
theorem j29:(Rows.replayAppliesRow.pinned == Rows.replayAppliesRow.pinnedBy)=true:=by kernel_rfl
theorem j30:(Rows.replayAppliesRow.veiled == (Tryz.f3.params.toList++Rows.replayAppliesSpec.plain.varTypes Tryz.pinned.checked.prog++Tryz.f3.resultTypes.toList).any (Tryz.pinned.checked.prog.veiledRec ·))=true:=by kernel_rfl
theorem j31:(Rows.replayAppliesRow.veiledFits Tryz.pinned.checked.prog Tryz.f3.params.toList (Tryz.f3.params.toList++Rows.replayAppliesSpec.plain.varTypes Tryz.pinned.checked.prog++Tryz.f3.resultTypes.toList))=true:=by kernel_rfl
set_option maxRecDepth 100000 in
theorem closed:joinedFacts Tryz.pinned.checked.prog 3 Tryz.f3 Rows.replayAppliesSpec Rows.replayAppliesRow=true:=by
 unfold joinedFacts
 rw [j0,j1,j2,j3,j4,j5,j6,j7,j8,j9,j10,j11,j12,j13,j14,j15,j16,j17,j18,j19,j20,j21,j22,j23,j24,j25,j26,j27,j29,j30,j31]
 simp only [Bool.true_and,Bool.and_true]
 first | exact j28 | kernel_rfl
theorem over:Rows.replayAppliesRow.holds Tryz.pinned (OpenSpec.ofChange Rows.replayAppliesSpec):=
 OpenClaim.holds_of_wide 3 Tryz.f3 rfl rfl rfl rfl rfl rfl rfl ⟨rfl,rfl,rfl,rfl,rfl⟩ rfl rfl rfl rfl rfl (by kernel_rfl) Tryz.func3 closed
  (of_decide_eq_true (by kernel_rfl)) (by unfold Func.isWrapper;first | (rw [if_pos (by decide +kernel)];kernel_rfl) | (rw [if_neg (by decide +kernel)];exact ⟨rfl,rfl⟩))
  (fun os started H enc _=>lifted os started H enc)
theorem proved:Rows.ReplayAppliesSaid:=
 over
#print axioms proved
end Go.Proofs.YtkhgpockmaghjaaGreat.replayApplies
