/-
  PROVED HERE: 'ReplayLists' returns true for every trace, list of syncs and list of choices, in every memory: no condition.
  (The row's step follows the shell that the kit's program wrote for 'LamportSteps'.)
-/
import Derived.Test.YtkhgpockmaghjaaGreatRows
import Derived.WalkKit
import Derived.Test.YtkhgpockmaghjaaGreatW67
import Derived.Test.YtkhgpockmaghjaaGreatW77
import Derived.Test.YtkhgpockmaghjaaGreatW69
import Derived.Test.YtkhgpockmaghjaaGreatW73
namespace Go.Proofs.YtkhgpockmaghjaaGreat.replayLists
open Go.ChangeShapes Go.WideShapes Go.ChangeAt Go.RowKit Go.Shelf Go.Proofs.YtkhgpockmaghjaaGreat
set_option linter.unusedVariables false
def TruePost (w:World) (e:Ending) (w':World):Prop:=e=.returned (.bool true)∧Ext w w'
def RunK (T:Tr) (L:List Syn) (n:Nat) (ch:Nat→Int) (r:Int) (R:List Row):Prop:=(PFault T L True (∃ i,i<n∧ch i<0) r)∧(r≠0→R=[])∧(r=0→IsPRun T L (chN n ch) (R.map Row.l))
theorem RunK.uniq {T:Tr} {L:List Syn} {n:Nat} {ch:Nat→Int} {r r':Int} {R R':List Row} (h:RunK T L n ch r R) (k:RunK T L n ch r' R'):r=r'∧R.map Row.l=R'.map Row.l:=by
 obtain rfl:=h.1.uniq k.1 Iff.rfl Iff.rfl
 refine ⟨rfl,?_⟩
 by_cases e:r=0
 ·exact (h.2.2 e).uniq (k.2.2 e)
 ·rw [h.2.1 e,k.2.1 e]
theorem run_len {T:Tr} {L:List Syn} {cf:Nat→Nat} {M:List (List Nat)} (hV:T.Valid) (hL:SynOk T L) (h:IsPRun T L cf M):M.length≤513:=by
 have hz:tot (fun _=>0) T.n=0:=by
  have:∀ n,tot (fun _=>0) n=0:=fun n=>by induction n with | zero=>rfl | succ n ih=>exact ih
  exact this _
 have key:∀ i,i<M.length→PCutL T L (M.getD i [])∧tot (fn (M.getD i [])) T.n=i:=by
  intro i
  induction i with
  | zero =>
   intro _
   rw [List.getD_eq_getElem?_getD,h.1.z]
   exact ⟨⟨rowOf_len _ _,(PCut.zero hL).congr hL fun p hp=>fn_rowOf hp⟩,(totS_congr (g:=fun _=>0) fun p hp=>fn_rowOf hp).trans hz⟩
  | succ i ih =>
   intro hi
   obtain ⟨h1,h2⟩:=h.1.st i hi
   obtain ⟨h3,h4⟩:=ih (by omega)
   rw [h2]
   have h5:=PCutL.next hL (pstep_mem (cf:=cf) (i:=i) h1)
   exact ⟨h5.1,by rw [h5.2,h4]⟩
 by_cases h0:M.length=0
 ·omega
 ·obtain ⟨h1,h2⟩:=key (M.length - 1) (by omega)
  have h3:=h1.cutL.small hV (Nat.le_refl _)
  omega
theorem run_flat {T:Tr} {L:List Syn} {n:Nat} {ch:Nat→Int} {w w':World} {e:Ending} (h:PRunPost T L n ch w e w'):Ext w w'∧∃ v r R,e=.returned (.tuple #[v,.int .i64 r])∧RowsQ w' w.heap.size v R∧R.length≤100000∧RunK T L n ch r R:=by
 obtain ⟨hx,⟨r,hf,h0,he⟩ | ⟨hf,v,R,he,hq,hr⟩⟩:=h
 ·exact ⟨hx,_,r,[],he,RowsQ.nil _ _,Nat.zero_le _,hf,fun _=>rfl,fun e=>absurd e h0⟩
 ·refine ⟨hx,v,0,R,he,hq,?_,hf,fun e=>absurd rfl e,fun _=>hr⟩
  have h1:=run_len hf.ok.1.1 hf.ok.2.2.1 hr
  rw [List.length_map] at h1;omega
inductive CutK (T:Tr) (L:List Syn) (c:Int) (R:List Row):Prop
 | err (hf:PFault T L True False c) (h0:c≠0) (hr:R=[])
 | ok (hf:PFault T L True False 0) (h0:c=0) (hr:IsPCuts T L (R.map Row.l))
 | big (hf:PFault T L True False 0) (h0:c=16) (hr:R=[]) (M:List (List Nat)) (h1:M.Pairwise (fun a b => befP T.n (fn a) (fn b))) (h2:∀ l∈M,PCutL T L l) (h3:5000<M.length)
theorem cut_flat {T:Tr} {L:List Syn} {w w':World} {e:Ending} (h:PCutsPost T L w e w'):Ext w w'∧∃ v c R,e=.returned (.tuple #[v,.int .i64 c])∧RowsQ w' w.heap.size v R∧R.length≤5000∧CutK T L c R:=by
 obtain ⟨hx,⟨r,hf,h0,he⟩ | ⟨hf,⟨v,R,he,hq,hr,hl⟩ | ⟨he,M,h1,h2,h3⟩⟩⟩:=h
 ·exact ⟨hx,_,r,[],he,RowsQ.nil _ _,Nat.zero_le _,.err hf h0 rfl⟩
 ·exact ⟨hx,v,0,R,he,hq,hl,.ok hf rfl hr⟩
 ·exact ⟨hx,_,16,[],he,RowsQ.nil _ _,Nat.zero_le _,.big hf rfl rfl M h1 h2 h3⟩
theorem few_not_big {T:Tr} {L:List Syn} {N M:List (List Nat)} (hN:IsPCuts T L N) (hl:N.length≤5000) (h1:M.Pairwise (fun a b=>befP T.n (fn a) (fn b))) (h2:∀ l∈M,PCutL T L l) (h3:5000<M.length):False:=by
 have h4:M.length≤N.length:=sub_len (pw_nodup (r:=fun a b:List Nat=>befP T.n (fn a) (fn b)) (fun _=>befP_irrefl _ _) h1) fun x hx=>(hN.2 x).2 (h2 x hx)
 omega
set_option maxRecDepth 100000 in
set_option maxHeartbeats 8000000 in
theorem walk (T : TM) (D : SyD) (C : IntD) (w : World) (hT : T.At w) (hD : D.At w) (hC : C.At w) :
    Calls Tryz.prog 5 #[T.val,.slice D.s.a D.s.n D.s.c,.slice C.s.a C.s.n C.s.c] w (TruePost w):=by
 have hCN:=hC.num
 have hCO:∀ i,i<C.s.n→okI (C.z i):=fun i hi=>(hC.c i hi).2
 have hdn:=hD.hn
 have hcn:=hCN.hn
 have HBIG:=Lib.hid (fun W (x:Ext w W)=>big_any W T (hT.ext x) D.s.a D.s.n D.s.c hdn)
 have HEV:=Lib.hid (fun W (x:Ext w W) (h:BigNo T.toTr D.s.n)=>revents_tot W T (hT.ext x) (by have:=h.n;omega) (fun k hk=>by have:=(h.p k hk).1;omega))
 have HFL:=Lib.hid (fun W (x:Ext w W) b=>rfault45_any W T (hT.ext x) D (hD.ext x) b)
 have HCU:=Lib.hid (fun W (x:Ext w W) (h:BigNo T.toTr D.s.n)=>pcuts_any W T (hT.ext x) (by have:=h.n;omega) D (hD.ext x))
 have HRU:=Lib.hid (fun W (x:Ext w W) (h:BigNo T.toTr D.s.n)=>prun_any W T (hT.ext x) (by have:=h.n;omega) D (hD.ext x) C.s.a C.s.b C.s.o C.s.n C.s.c C.z (hCN.ext x) hCO)
 have HRR:=Lib.hid (fun W (x:Ext w W)=>rrun_any W T (hT.ext x) D (hD.ext x) C.s.a C.s.b C.s.o C.s.n C.s.c C.z (hCN.ext x) hCO)
 have HRC:=Lib.hid (fun W (x:Ext w W) hV hL hA=>rcuts45_any W T (hT.ext x) hV D (hD.ext x) hL hA)
 obtain ⟨ta,hta⟩:∃ z,z=T.a:=⟨_,rfl⟩
 obtain ⟨da,hda⟩:∃ z,z=D.s.a:=⟨_,rfl⟩
 obtain ⟨dn,hdn'⟩:∃ z,z=D.s.n:=⟨_,rfl⟩
 obtain ⟨ca,hca⟩:∃ z,z=C.s.a:=⟨_,rfl⟩
 obtain ⟨cn,hcn'⟩:∃ z,z=C.s.n:=⟨_,rfl⟩
 simp only [TM.val,←hta] at HBIG HEV HFL HCU HRU HRR HRC ⊢
 rw [←hda,←hdn'] at HBIG HFL HCU HRU HRR HRC
 rw [←hdn'] at hdn HEV
 rw [←hca,←hcn'] at HRU HRR
 rw [←hcn'] at hcn
 rw [←hda,←hdn',←hca,←hcn']
 clear hT hD hC hCN hCO hta hda hdn' hca hcn'
 go_enter Tryz.func5,Tryz.ntmps5
 go_upto_region 1 with fail
 refine boxed1 (w:=w) (G:=fun x=>Code.wp _ _ _ _ x) ?_
 intro w1 hx1 hs1 ⟨l0,c0,_,_⟩
 have hx11:Ext w1 w1:=Ext.refl _
 clear hs1
 go_wp2_with fail
 go_at_call 9
 refine (awake45_any w1).mono ?_
 rintro e w2 ⟨rfl,hx2⟩
 have hxw2:=hx1.trans hx2
 go_wp2_with fail
 go_at_call 10
 refine (HBIG.out w2 hxw2).mono ?_
 rintro e w3 ⟨bb,rfl,hbb,hx3⟩
 have hxw3:=hxw2.trans hx3
 have hx13:=hx2.trans hx3
 cases bb with
 | true =>
  clear hbb
  go_wp2_with fail
  go_ret
  exact ⟨rfl,hxw3⟩
 | false =>
 have HB:=Lib.hid (hbb rfl)
 clear hbb
 by_cases h20:200<cn
 ·have b2:decide ((200:Int)<(cn:Int))=true:=decide_eq_true (by omega)
  have b2':decide (200<cn)=true:=decide_eq_true h20
  go_wp2_with fail
  go_ret
  exact ⟨rfl,hxw3⟩
 have b2:decide ((200:Int)<(cn:Int))=false:=decide_eq_false (by omega)
 have b2':decide (200<cn)=false:=decide_eq_false h20
 have hev:=HEV.out w3 hxw3 HB.out
 obtain ⟨tt,htt⟩:∃ z,z=tot T.en T.n:=⟨_,rfl⟩
 rw [←htt] at hev
 clear hx2 hx3 hxw2 htt
 go_wp2_with fail
 go_at_call 24
 refine hev.mono ?_
 rintro e w4 ⟨rfl,hx4⟩
 have hxw4:=hxw3.trans hx4
 have hx14:=hx13.trans hx4
 clear hev hx4 hx13 hxw3
 by_cases h40:40<tt
 ·have b3:decide ((40:Int)<(tt:Int))=true:=decide_eq_true (by omega)
  have b3':decide (40<tt)=true:=decide_eq_true h40
  go_wp2_with fail
  go_ret
  exact ⟨rfl,hxw4⟩
 have b3:decide ((40:Int)<(tt:Int))=false:=decide_eq_false (by omega)
 have b3':decide (40<tt)=false:=decide_eq_false h40
 go_wp2_with fail
 go_at_call 25
 refine (HCU.out w4 hxw4 HB.out).mono ?_
 intro e w5 hp
 obtain ⟨hx5,va,c,RA,rfl,hqa,hla,hka⟩:=cut_flat hp
 obtain ⟨aa,ac,rfl⟩:=hqa.1.slice
 have HQA:=Lib.hid hqa
 have HKA:=Lib.hid (And.intro hla hka)
 have hxw5:=hxw4.trans hx5
 have hx15:=hx14.trans hx5
 clear hp hqa hla hka hx5 hx14 b2 b2' b3 b3'
 go_wp2_with fail
 go_at_call 26
 refine (HRU.out w5 hxw5 HB.out).mono ?_
 intro e w6 hp
 obtain ⟨hx6,vb,f,RB,rfl,hqb,hlb,hkb⟩:=run_flat hp
 obtain ⟨ab,bc,rfl⟩:=hqb.1.slice
 have HQB:=Lib.hid hqb
 have HKB:=Lib.hid (And.intro hlb hkb)
 have hx56:=hx6
 have hxw6:=hxw5.trans hx6
 have hx16:=hx15.trans hx6
 clear hp hqb hlb hkb hx6 hx15
 go_wp2_with fail
 go_at_call 27
 refine (HRR.out w6 hxw6).mono ?_
 intro e w7 hp
 obtain ⟨hx7,vr,g,RR,rfl,hqr,hlr,hkr⟩:=run_flat hp
 obtain ⟨rfl,hbr⟩:=HKB.out.2.uniq hkr
 obtain ⟨ar,rc,rfl⟩:=hqr.1.slice
 have hsm:=bool_fix (rsames_any w7 _ _ _ _ RB RR (HQB.out.ext hx7) hqr HKB.out.1 hlr) (b:=true) ⟨fun _=>hbr,fun _=>rfl⟩
 have hx57:=hx56.trans hx7
 have hxw7:=hxw6.trans hx7
 have hx17:=hx16.trans hx7
 obtain ⟨nb,hnb⟩:∃ z,z=RB.length:=⟨_,rfl⟩
 obtain ⟨nr,hnr⟩:∃ z,z=RR.length:=⟨_,rfl⟩
 obtain ⟨na,hna⟩:∃ z,z=RA.length:=⟨_,rfl⟩
 have HNA:=Lib.hid hna
 rw [←hnb,←hnr] at hsm
 rw [←hnb,←hnr,←hna]
 clear hp hqr hlr hkr hbr hx7 hx16 hx56 hnb hnr hna
 go_wp2_with fail
 go_at_call 28
 refine hsm.mono ?_
 rintro e w8 ⟨rfl,hx8⟩
 have hx58:=hx57.trans hx8
 have hxw8:=hxw7.trans hx8
 have hx18:=hx17.trans hx8
 clear hsm hx8 hx57 hx17
 have dff:(f == f)=true:=by simp
 go_wp2_with fail
 go_at_call 13
 refine (HFL.out w8 hxw8 false).mono ?_
 rintro e w9 ⟨hx9,h,rfl,hf0⟩
 have hF:=hf0.congr (B':=True) (O':=False) Iff.rfl ⟨fun h=>(by cases h),fun h=>h.elim⟩
 have hx59:=hx58.trans hx9
 have hxw9:=hxw8.trans hx9
 have hx19:=hx18.trans hx9
 clear hf0 hx9 hx58 hx18
 rcases HKA.out.2 with ⟨hf,h0,hr⟩ | ⟨hf,h0,hr⟩ | ⟨hf,h0,hr,M,hM1,hM2,hM3⟩
 ·obtain rfl:=hf.uniq hF Iff.rfl Iff.rfl
  have d0:(c == 0)=false:=by simpa using h0
  have dcc:(c == c)=true:=by simp
  obtain rfl:na=0:=by rw [HNA.out,hr];rfl
  clear hf hF h0 hr
  go_wp2_with fail
  go_ret
  exact ⟨rfl,hxw9⟩
 ·obtain rfl:=hf.uniq hF Iff.rfl Iff.rfl
  subst h0
  have hok:=hf.ok
  have hrc:=HRC.out w9 hxw9 hok.1.1 hok.2.2.1 hok.2.2.2.2
  have HR:=Lib.hid hr
  clear hf hF hr hok
  go_wp2_with fail
  go_at_call 29
  refine hrc.mono ?_
  rintro e w10 ⟨hx10,⟨v,R,rfl,hq,hI,hl⟩ | ⟨rfl,M,hM1,hM2,hM3⟩⟩
  ·obtain ⟨aw,wc,rfl⟩:=hq.1.slice
   have hsm:=bool_fix (rsames_any w10 _ _ _ _ RA R (HQA.out.ext (hx59.trans hx10)) hq (by have:=HKA.out.1;omega) (by omega)) (b:=true) ⟨fun _=>HR.out.uniq hI,fun _=>rfl⟩
   have hxw10:=hxw9.trans hx10
   obtain ⟨nw,hnw⟩:∃ z,z=R.length:=⟨_,rfl⟩
   rw [←HNA.out,←hnw] at hsm
   rw [←hnw]
   clear hrc hq hI hl hx10 hnw
   go_wp2_with fail
   go_at_call 28
   refine hsm.mono ?_
   rintro e w11 ⟨rfl,hx11'⟩
   have hxw11:=hxw10.trans hx11'
   clear hsm
   go_wp2_with fail
   go_ret
   exact ⟨rfl,hxw11⟩
  ·exact (few_not_big HR.out (by rw [List.length_map];exact HKA.out.1) hM1 hM2 hM3).elim
 ·obtain rfl:=hf.uniq hF Iff.rfl Iff.rfl
  subst h0
  obtain rfl:na=0:=by rw [HNA.out,hr];rfl
  have hok:=hf.ok
  have hrc:=HRC.out w9 hxw9 hok.1.1 hok.2.2.1 hok.2.2.2.2
  have HM:=Lib.hid (And.intro hM1 (And.intro hM2 hM3))
  clear hf hF hr hok hM1 hM2 hM3
  go_wp2_with fail
  go_at_call 29
  refine hrc.mono ?_
  rintro e w10 ⟨hx10,⟨v,R,rfl,hq,hI,hl⟩ | ⟨rfl,_⟩⟩
  ·exact (few_not_big hI (by rw [List.length_map];exact hl) HM.out.1 HM.out.2.1 HM.out.2.2).elim
  ·have hxw10:=hxw9.trans hx10
   clear hrc hx10
   go_wp2_with fail
   go_ret
   exact ⟨rfl,hxw10⟩
set_option maxRecDepth 100000 in
theorem lifted (os : Os) (started : os.Started) (H : Type) (enc : TypeId × Value → H) :
    ReturnsInHanded {} Tryz.checked os 5 .any (Rows.replayListsSpec.pre6 enc Tryz.prog Tryz.f5 Rows.replayListsRow.domain false) (Rows.replayListsSpec.post enc Tryz.prog Tryz.f5 false true false false):=by
 refine returnsInHanded_of_change_sized (C:=Tryz.checked) own14 started (by kernel_rfl) Tryz.func5
  (ChangeSpec.witness6 (enc:=enc) (C:=Tryz.checked) false ⟨#[],#[.agg #[.slice none 0 0],.slice none 0 0,.slice none 0 0],[]⟩ 8 (by kernel_rfl) (by kernel_rfl) (by kernel_rfl) (by kernel_rfl)) ?_
 intro W base args ds gs before hval0 hW _ hsz0 _
 have hsz1:(DataW.weightsEach Tryz.prog (Tryz.f5.params.toList++Rows.replayListsSpec.plain.varTypes Tryz.prog) (ds++gs)).all (·≤reachBytes)=true:=hsz0
 clear hsz0
 have hval:∀ (j:Nat) t v,Tryz.f5.params[j]?=some t→args[j]?=some v→Value.okWide Tryz.prog W .any base t v:=hval0
 have hW':=hW
 obtain ⟨p,q,hA0,hV,rfl,hfz,hnd⟩:=hW
 have hA:DataW.TrodAll enc Tryz.prog W 0 (fun _=>true) true Tryz.f5.params.toList args.toList ds p:=hA0
 rw [Tryz.params5] at hA hval hsz1
 obtain ⟨v0,vs0,d0,ds0,p0,q0,hargs,rfl,rfl,h0,r0⟩:=trodAll_cons hA
 obtain ⟨v1,vs1,d1,ds1,p1,q1,rfl,rfl,rfl,h1,r1⟩:=trodAll_cons r0
 obtain ⟨v2,vs2,d2,ds2,p2,q2,rfl,rfl,rfl,h2,r2⟩:=trodAll_cons r1
 obtain ⟨rfl,rfl,rfl⟩:=trodAll_nil r2
 obtain rfl:args=#[v0,v1,v2]:=by cases args;simp_all
 obtain ⟨rfl,rfl⟩:=trodVars_none hV
 obtain ⟨T0,rfl,hT0⟩:=arg_trace (hval 0 24 v0 rfl rfl) h0 (small_of hsz1 (j:=0) rfl rfl)
 obtain ⟨D1,rfl,hD1⟩:=arg_syncs (hval 1 25 v1 rfl rfl) h1 (small_of hsz1 (j:=1) rfl rfl)
 obtain ⟨C2,rfl,hC2⟩:=arg_ints (hval 2 39 v2 rfl rfl) h2 (small_of hsz1 (j:=2) rfl rfl)
 clear hA0 hval0 hsz1
 simp only [List.append_nil] at hW'
 have hl2:∀ x∈p2,x.block<W.heap.size:=fun x hx=>hW'.lt x (by simp [hx])
 have hl1:∀ x∈p1,x.block<W.heap.size:=fun x hx=>hW'.lt x (by simp [hx])
 have hl0:∀ x∈p0,x.block<W.heap.size:=fun x hx=>hW'.lt x (by simp [hx])
 refine (walk T0 D1 C2 W hT0 hD1 hC2).mono fun e W' ⟨he,hg⟩=>?_
 subst he
 exact ⟨_,rfl,post_ext1 (pa:=(p0++(p1++(p2++[])))) (pv:=[]) hW' (fun _ _ _=>(trodAll_cons_mk (shut_bool Tryz.underlying4 _) trodAll_mk0)) (trodAll_cons_mk (Below.trod laid14 (by kernel_rfl) (of_decide_eq_true (by kernel_rfl)) h0 hg.below hl0) (trodAll_cons_mk (Below.trod laid14 (by kernel_rfl) (of_decide_eq_true (by kernel_rfl)) h1 hg.below hl1) (trodAll_cons_mk (Below.trod laid14 (by kernel_rfl) (of_decide_eq_true (by kernel_rfl)) h2 hg.below hl2) trodAll_mk0))) rfl hg⟩
theorem j0:(Rows.replayListsRow.wf (OpenSpec.ofChange Rows.replayListsSpec))=true:=by kernel_rfl
theorem j1:(laidOutB Tryz.pinned.checked.prog)=true:=by kernel_rfl
theorem j2:(mapsRowed Tryz.pinned.checked.prog)=true:=by kernel_rfl
theorem j3:(Tryz.f5.params.all (Tryz.pinned.checked.prog.readableRec ·))=true:=by kernel_rfl
theorem j4:(namedTie Tryz.pinned.checked.prog Rows.replayListsRow.named Rows.replayListsSpec.vars)=true:=by kernel_rfl
theorem j5:(Rows.replayListsRow.stops == [])=true:=by kernel_rfl
theorem j6:(Tryz.pinned.checked.prog.stops == [])=true:=by kernel_rfl
theorem j7:(Rows.replayListsRow.knobs == [])=true:=by kernel_rfl
theorem j8:(Tryz.pinned.checked.prog.stopKnobs == [])=true:=by kernel_rfl
theorem j9:(Rows.replayListsRow.inPlace == Tryz.pinned.checked.prog.inPlace 5)=true:=by kernel_rfl
theorem j10:(Rows.replayListsRow.unfollowed == Tryz.pinned.checked.prog.unfollowed 5)=true:=by kernel_rfl
theorem j11:(Rows.replayListsRow.recurses == Tryz.pinned.checked.prog.recurses 5)=true:=by kernel_rfl
theorem j12:(Rows.replayListsRow.named == Tryz.pinned.checked.prog.varsNamed 5)=true:=by kernel_rfl
theorem j13:(Rows.replayListsRow.maps == (Tryz.f5.params.toList++Rows.replayListsSpec.plain.varTypes Tryz.pinned.checked.prog).any (Tryz.pinned.checked.prog.mapsRec ·))=true:=by kernel_rfl
theorem j14:(Rows.replayListsRow.ifaces == (Tryz.f5.params.toList++Rows.replayListsSpec.plain.varTypes Tryz.pinned.checked.prog).any (Tryz.pinned.checked.prog.ifacesRec ·))=true:=by kernel_rfl
theorem j15:(Rows.replayListsRow.mapsOut == Tryz.pinned.checked.prog.mapsAmong Tryz.f5.resultTypes.toList)=true:=by kernel_rfl
theorem j16:(Rows.replayListsRow.loops == (Tryz.f5.params.toList++Rows.replayListsSpec.plain.varTypes Tryz.pinned.checked.prog).any (Tryz.pinned.checked.prog.loopsFrom ·))=true:=by kernel_rfl
theorem j17:(Rows.replayListsRow.wideKeys == (Tryz.f5.params.toList++Rows.replayListsSpec.plain.varTypes Tryz.pinned.checked.prog++Tryz.f5.resultTypes.toList).any (Tryz.pinned.checked.prog.wideKeysFrom ·))=true:=by kernel_rfl
theorem j18:(Rows.replayListsSpec.vars.all (Tryz.pinned.checked.prog.varReadable ·))=true:=by kernel_rfl
theorem j19:(Tryz.f5.resultTypes.all (fun t=>Tryz.pinned.checked.prog.readableRec t && decide (t<Tryz.pinned.checked.prog.types.size)))=true:=by kernel_rfl
theorem j20:(Rows.replayListsRow.ifacesOut == Tryz.f5.resultTypes.toList.any (Tryz.pinned.checked.prog.ifacesRec ·))=true:=by kernel_rfl
theorem j21:(Rows.replayListsRow.loopsOut == Tryz.f5.resultTypes.toList.any (Tryz.pinned.checked.prog.loopsFrom ·))=true:=by kernel_rfl
theorem j22:(Rows.replayListsRow.plainKeys == Tryz.pinned.checked.prog.plainKeys)=true:=by kernel_rfl
theorem j23:(Rows.replayListsRow.shortTexts.isNone)=true:=by kernel_rfl
theorem j24:(Tryz.pinned.checked.prog.stopsHeard)=true:=by kernel_rfl
theorem j25:(Tryz.pinned.checked.prog.mayEnter)=true:=by kernel_rfl
theorem j26:(Rows.replayListsRow.lifted == Tryz.pinned.checked.prog.liftsFinal)=true:=by kernel_rfl
theorem j27:(Tryz.pinned.checked.prog.make == some Rows.replayListsRow.make)=true:=by kernel_rfl
theorem j28:(Rows.replayListsRow.kinds == (if Rows.replayListsRow.domain.isEmpty then [] else Tryz.f5.params.toList.map fun t=>match Tryz.pinned.checked.prog.underlying t with | some (.int k)=>some k | _=>none))=true:=by kernel_rfl
theorem j29:(Rows.replayListsRow.pinned == Rows.replayListsRow.pinnedBy)=true:=by kernel_rfl
theorem j30:(Rows.replayListsRow.veiled == (Tryz.f5.params.toList++Rows.replayListsSpec.plain.varTypes Tryz.pinned.checked.prog++Tryz.f5.resultTypes.toList).any (Tryz.pinned.checked.prog.veiledRec ·))=true:=by kernel_rfl
theorem j31:(Rows.replayListsRow.veiledFits Tryz.pinned.checked.prog Tryz.f5.params.toList (Tryz.f5.params.toList++Rows.replayListsSpec.plain.varTypes Tryz.pinned.checked.prog++Tryz.f5.resultTypes.toList))=true:=by kernel_rfl
set_option maxRecDepth 100000 in
theorem closed:joinedFacts Tryz.pinned.checked.prog 5 Tryz.f5 Rows.replayListsSpec Rows.replayListsRow=true:=by
 unfold joinedFacts
 rw [j0,j1,j2,j3,j4,j5,j6,j7,j8,j9,j10,j11,j12,j13,j14,j15,j16,j17,j18,j19,j20,j21,j22,j23,j24,j25,j26,j27,j29,j30,j31]
 simp only [Bool.true_and,Bool.and_true]
 first | exact j28 | kernel_rfl
theorem over:Rows.replayListsRow.holds Tryz.pinned (OpenSpec.ofChange Rows.replayListsSpec):=
 OpenClaim.holds_of_wide 5 Tryz.f5 rfl rfl rfl rfl rfl rfl rfl ⟨rfl,rfl,rfl,rfl,rfl⟩ rfl rfl rfl rfl rfl (by kernel_rfl) Tryz.func5 closed
  (of_decide_eq_true (by kernel_rfl)) (by unfold Func.isWrapper;first | (rw [if_pos (by decide +kernel)];kernel_rfl) | (rw [if_neg (by decide +kernel)];exact ⟨rfl,rfl⟩))
  (fun os started H enc _=>lifted os started H enc)
theorem proved:Rows.ReplayListsSaid:=
 over
#print axioms proved
end Go.Proofs.YtkhgpockmaghjaaGreat.replayLists
