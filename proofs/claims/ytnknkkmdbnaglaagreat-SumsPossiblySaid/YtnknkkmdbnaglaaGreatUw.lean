/- Contracts and laws in plain Lean for SPos: group Uw. -/
import Derived.Test.YtnknkkmdbnaglaaGreatUd
import Derived.Test.YtnknkkmdbnaglaaGreatUe
import Derived.Test.YtnknkkmdbnaglaaGreatUn
import Derived.Test.YtnknkkmdbnaglaaGreatUv
set_option maxRecDepth 100000
namespace Go.Proofs.YtnknkkmdbnaglaaGreat
open Go.RowKit Go.Shelf
attribute [local go_sem] Oper.semAt_some
structure CntI (T:TM) (w:World) (b:Nat) (pre:List T.toTr.Id) (W:World):Prop where
 h:Hold W b #[.int .i64 (pre.length:Nat)]
 bl:Below w.heap.size w W
theorem CntI.own (T:TM) (w w0:World) (b:Nat) (h:w.heap.size≤w0.heap.size):OwnFrom w0.heap.size (CntI T w b):=by
 intro s W W' row hi hg hr
 exact ⟨Hold.own _ _ (fun _=>_) s W W' row hi.h hg hr,ownFrom_below (Nat.le_refl _) h s W W' row hi.bl hg hr⟩
set_option maxHeartbeats 8000000 in
theorem count_any (w : World) (T : TM) (hT : T.At w) (hV : T.toTr.Valid) :
    Calls Tryz.prog 155 #[T.val] w fun e w'=>e=.returned (.int .i64 (tot T.en T.n:Nat))∧Ext w w':=by
 refine (callsIn_wide (n:=4)).1 ?_
 have HT:=Lib.hid hT
 have HV:=Lib.hid hV
 have HL:=Lib.hid T.toTr.evs_tot
 have HS:=Lib.hid (show tot T.en T.n≤512 from by have:=tot_small (f:=T.en) (c:=64) (n:=T.n) (fun j hj=>hV.en64 hj);have:=hV.n8;omega)
 clear hT hV
 refine callsIn_of_wp_marks Tryz.func155 rfl trivial ?_ rfl
 simp only [Tryz.ntmps155,List.size_toArray,List.length_cons,List.length_nil,Nat.reduceAdd,Nat.reduceSub,Array.replicate_succ,Array.replicate_zero,List.push_toArray,List.append_toArray,List.nil_append,List.cons_append]
 gi_upto_region 1 with fail
 refine boxed1 (w:=w) (G:=fun x=>Code.wpIn _ _ _ _ _ _ x) ?_
 intro w1 hx1 hs1 ⟨l0,c0,_,k0⟩
 have hx11:Ext w1 w1:=Ext.refl _
 clear hs1
 have hVa:Calls Tryz.prog 136 #[T.val] w1 fun e w'=>e=.returned (.bool true)∧Ext w1 w':=(valid_any w1 T (HT.out.ext hx1)).mono fun e w' ⟨b,he,hb,hx⟩=>⟨by rw [he,hb.2 HV.out],hx⟩
 gi_upto_region 4 with (refine ⟨trivial,?_⟩;gi_at_call 136;refine (CallsIn.mono (callsIn_wide.2 hVa) ?_);rintro e wv ⟨rfl,hxv⟩;clear hVa)
 refine boxed1 (w:=wv) (G:=fun x=>Code.wpIn _ _ _ _ _ _ x) ?_
 intro w2 hx2 hs2 ⟨l2,c2,_,k2⟩
 have hx12:=hxv.trans hx2
 have hx22:Ext w2 w2:=Ext.refl _
 obtain ⟨b,hb⟩:∃ b,b=wv.heap.size:=⟨_,rfl⟩
 rw [←hb] at k2 l2 c2 ⊢
 have HB:=Lib.hid (show w.heap.size≤b∧b<w2.heap.size from ⟨by have:=hx1.le;have:=hxv.le;omega,by omega⟩)
 clear hs2 hb
 have hev:=fun W=>events_any T W
 have HEV:=Lib.hid hev
 clear hev
 gi_wp2_with (refine ⟨trivial,?_⟩;gi_at_call 208;refine (CallsIn.mono (callsIn_wide.2 (HEV.out w2)) ?_);rintro e w' ⟨rfl,rfl⟩)
 clear hx11 c0 c2 hx22
 obtain ⟨w3,hw3⟩:∃ w3,w3=w2.alloc (.cells #[.slice T.a T.n T.cap] 24):=⟨_,rfl⟩
 rw [←hw3]
 have hx13:Ext w1 w3:=by rw [hw3];exact hx12.alloc' _
 have hbn:w3.cell? ⟨w2.heap.size,0,none⟩=some (.slice T.a T.n T.cap):=by rw [hw3];simp
 have hx23:Ext w2 w3:=by rw [hw3];exact Ext.alloc _ _
 have HSZ:=Lib.hid (show w.heap.size≤w3.heap.size∧b<w3.heap.size from ⟨by have:=hx1.le;have:=hx13.le;omega,by have:=hx23.le;have:=HB.out;omega⟩)
 clear hw3
 refine wpIn_rangeFunc_ownH rfl (by omega) (gf:=248) (lb:=#[.pointer (some ⟨w2.heap.size,0,none⟩)]) rfl trivial (enters_of Tryz.func248 (by kernel_rfl) rfl)
  (events_stops 3 (by omega) w2.heap.size T w w3 HT.out (hx1.trans hx13) hbn) belowK_t (belowK_b (by have:=HSZ.out;omega)) (Below.refl _ _) (fun _=>rfl)
  (CntI T w b) (fun c pre W=>False) (CntI.own T w w3 b HSZ.out.1) (fun c=>fun s W W' row h=>h.elim)
  ⟨Hold.ext k2 hx23,hx1.trans hx13⟩
  (fun x a' W=>a'={ tmps:=#[T.val,.pointer (some ⟨w.heap.size,0,none⟩),.int .i64 0,.pointer (some ⟨b,0,none⟩),.agg #[.slice T.a T.n T.cap],.bool true,.bool false,.agg #[.slice T.a T.n T.cap],.func (.func 248) #[] #[.pointer (some ⟨w2.heap.size,0,none⟩)],.agg #[.int .i64 x.1.1,.int .i64 (x.1.2+1)],T.ev x.1.1 x.1.2,undef,undef,undef],defers:=[] }) (fun x a'=>by
   intro s W W' row h hg hr
   exact h) ?assign ?body ?done ?stop
 case assign=>
  rintro l pre x W K hI hK
  gi_wp2
  exact hK _ _ (KeepsFrom.refl _ _) (Below.refl _ _) hI (by first | rfl | simp [TM.encs])
 case body=>
  rintro l pre x a' W hl ⟨r,hr⟩ hI rfl hlt
  obtain ⟨x1,d1,f1,_⟩:=hI.h.box
  have hWW:Ext W W:=Ext.refl _
  have HI:=Lib.hid hI
  have hlt2:pre.length<tot T.en T.n:=by have:=HL.out;omega
  have hl2:=HS.out
  have hw9:IntKind.i64.wrap (((pre.length:Nat):Int)+1)=((pre.length:Nat):Int)+1:=IntWalk.i64_in _ (by omega)
  clear l0 l2 k0 k2 hbn hI hr
  gi_wp2
  refine ⟨keeps_set _ _ _ _,(Below.refl _ _).setCell (by have:=HB.out;have:=HI.out.bl.size;first | assumption | (dsimp only;omega)) _,⟨?_,HI.out.bl.setCell (by have:=HB.out;dsimp only;omega) _⟩⟩
  have h2:=HI.out.h.set 0 (.int .i64 (((pre.length:Nat):Int)+1))
  simp only [List.setIfInBounds_toArray,List.set_cons_zero] at h2
  rw [List.length_append]
  exact h2
 case done=>
  rintro D xs W hD rfl hI hK
  obtain ⟨_,d3,f3,_⟩:=hI.h.box
  have hWW:Ext W W:=Ext.refl _
  have HI:=Lib.hid hI
  clear l0 l2 k0 k2 hI
  gi_wp2
  refine ⟨by simp,.inl ⟨_,_,rfl,run_takeDeferred (ds:=[]) hK,?_⟩⟩
  exact ⟨.int .i64 ((T.toTr.evs.length:Nat):Int),by simp [results,go_sem],ret_int (by rw [HL.out]),HI.out.bl.trans (belowK_b (w:=w) (Nat.le_refl _) _ D (.deferred (some [])) _ (by have:=HSZ.out;omega) hK rfl rfl)⟩
 case stop=>
  rintro D c pre W hD hpre hX hK
  exact hX.elim
end Go.Proofs.YtnknkkmdbnaglaaGreat

namespace Go.Proofs.YtnknkkmdbnaglaaGreat
open Go.RowKit Go.Shelf
theorem sof_results (tmps : Array Value) (W : World) (b : Nat) (x0 x1 x2 x3 u : Value) (t4 : tmps[4]? = some (.pointer (some ⟨b, 0, none⟩))) (t5 : tmps[5]? = some u) (c0 : W.cell? ⟨b, 0, none⟩ = some x0) (c1 : W.cell? ⟨b, 1, none⟩ = some x1) (c2 : W.cell? ⟨b, 2, none⟩ = some x2) (c3 : W.cell? ⟨b, 3, none⟩ = some x3) :
    (results Tryz.f78 tmps).run Tryz.prog W=.ok (.tuple #[.agg #[x0,x1,x2,x3],u]) W:=by
 simp [results,go_sem,t4,t5,c0,c1,c2,c3]
def SofPost (T:TM) (D:TmD) (W:World) (e:Ending) (w':World):Prop:=Ext W w'∧((∃ c:Int,c≠0∧T.SumFault D.l c∧e=.returned (.tuple #[.agg #[.slice none 0 0,.slice none 0 0,.slice none 0 0,.int .i64 0],.int .i64 c]))∨
 (T.SumOk D.l∧∃ wa wg wo wc,e=.returned (.tuple #[SumM.val ⟨T,.slice D.s.a D.s.n D.s.c,wa,wg,wo,wc,T.wfn D.l,T.sumAt D.l fun _=>0⟩,.int .i64 0])∧SumM.At ⟨T,.slice D.s.a D.s.n D.s.c,wa,wg,wo,wc,T.wfn D.l,T.sumAt D.l fun _=>0⟩ w'))
theorem Tr.mass_nonneg (T:Tr) (ts:List Trm) (p i:Nat):0≤T.mass ts p i:=by
 have h1:=iabs_nonneg (T.sumAt ts fun _=>0)
 have h2:=isum_nonneg (g:=fun q=>isum (T.en q) fun j=>iabs (T.wt ts q j)) (m:=p) fun q _=>isum_nonneg fun j _=>iabs_nonneg _
 have h3:=isum_nonneg (g:=fun j=>iabs (T.wt ts p j)) (m:=i) fun j _=>iabs_nonneg _
 unfold Tr.mass;omega
theorem iabs_of {x:Int} {B:Nat} (h:x.natAbs≤B):0≤iabs x∧iabs x≤B:=by unfold iabs;split <;> omega
theorem OpI.beg {w1:World} {b5:Nat} {tv sv:Value} {nb nb':Int} {f:Nat→Int} {wr w5:World} (h:OpI w1 b5 tv sv nb f 0 (.slice none 0 0) wr) (x:Ext wr w5):OpI w1 b5 tv sv nb' f 0 (.slice none 0 0) (w5.setCell ⟨b5,3,none⟩ (.int .i64 nb')):=
 ⟨(h.h5.ext x).set 3 _,World.ownsRow_nil _ _ _ _,(h.hx.trans x).setCell h.lo _,h.lo⟩
set_option maxHeartbeats 8000000 in
theorem sof_any (w:World) (T:TM) (hT:T.At w) (D:TmD) (hD:D.At w):Calls Tryz.prog 78 #[T.val,.slice D.s.a D.s.n D.s.c] w (SofPost T D w):=by
 obtain ⟨j0,hj0,hy0,hy1,hy2⟩:=info_parts infoInt
 have HT:=Lib.hid hT
 have HD:=Lib.hid hD
 have hdn:=hD.hn
 unfold SofPost
 obtain ⟨ta,hta⟩:∃ z,z=T.a:=⟨_,rfl⟩
 have HTA:=Lib.hid hta
 obtain ⟨n,hn⟩:∃ n,n=D.s.n:=⟨_,rfl⟩
 have HN:=Lib.hid hn
 obtain ⟨da,hda⟩:∃ z,z=D.s.a:=⟨_,rfl⟩
 have HDA:=Lib.hid hda
 have HDP:=Lib.hid hD.ha
 have HLN:=Lib.hid (show D.l.length=n from by rw [D.len,hn])
 have HVa:=Lib.hid (fun W (h:Ext w W)=>valid_any W T (hT.ext h))
 have HIX:=Lib.hid (fun W (h:Ext w W) x=>sindex_any W T (hT.ext h) x)
 have HH1:=Lib.hid (fun W (h:Ext w W) (lb:Array Value) (p:Nat→Bool) (hp:∀ i,i<D.s.n→∀ w',Ext W w'→Calls Tryz.prog 152 (#[trmV (D.at i)]++lb) w' fun e w''=>e=.returned (.bool (p i))∧Ext w' w'')=>
  has_Term W D.s.a D.s.b D.s.o D.s.n D.s.c (fun i=>.int .i64 (D.p i)) (fun i=>.string (D.nm i)) (fun i=>.int .i64 (D.c i)) 152 lb p hD.hn hD.ha (fun w' x i hi=>(hD.ext (h.trans x)).c0 i hi) (fun w' x i hi=>(hD.ext (h.trans x)).c1 i hi) (fun w' x i hi=>(hD.ext (h.trans x)).c2 i hi) (enters_of Tryz.func152 (by kernel_rfl) rfl) hp)
 have HH2:=Lib.hid (fun W (h:Ext w W)=>has_Term W D.s.a D.s.b D.s.o D.s.n D.s.c (fun i=>.int .i64 (D.p i)) (fun i=>.string (D.nm i)) (fun i=>.int .i64 (D.c i)) 154 #[] (fun i=>decide (D.c i < -1048576∨1048576<D.c i)) hD.hn hD.ha (fun w' x i hi=>(hD.ext (h.trans x)).c0 i hi) (fun w' x i hi=>(hD.ext (h.trans x)).c1 i hi) (fun w' x i hi=>(hD.ext (h.trans x)).c2 i hi) (enters_of Tryz.func154 (by kernel_rfl) rfl) (fun i hi w' x=>sof2_any w' (D.at i)))
 rw [←hn,←hda] at HH1 HH2
 rw [←hn] at hdn
 simp only [TM.val,TM.sl,SumM.val,←hta,←hn,←hda] at HVa HIX ⊢
 clear hT hD hta hn hda
 go_enter Tryz.func78,Tryz.ntmps78
 go_upto_region 1 with fail
 refine boxed2 (w:=w) (G:=fun x=>Code.wp _ _ _ _ x) ?_
 intro w1 hx1 hs1 ⟨l0,c0,_,k0⟩ ⟨l1,c1,f1,k1⟩
 have hx11:Ext w1 w1:=Ext.refl _
 clear hs1
 have hva:=HVa.out w1 hx1
 go_wp2_with fail
 go_at_call 136
 refine hva.mono ?_
 rintro e w2 ⟨bv,rfl,hbv,hx2⟩
 have hxw2:=hx1.trans hx2
 clear hva
 cases bv with
 | false =>
  have HF:=Lib.hid (show ¬T.Valid from fun h=>by have:=hbv.2 h;cases this)
  have HK:=Lib.hid (Hold.ext k1 hx2)
  clear hbv
  go_wp2_with fail
  refine bodyPost_ret (sof_results _ _ _ _ _ _ _ _ rfl rfl ((Hold.set (Hold.set (Hold.set (Hold.set HK.out 0 _) 1 _) 2 _) 3 _).cell0 0) ((Hold.set (Hold.set (Hold.set (Hold.set HK.out 0 _) 1 _) 2 _) 3 _).cell0 1) ((Hold.set (Hold.set (Hold.set (Hold.set HK.out 0 _) 1 _) 2 _) 3 _).cell0 2) ((Hold.set (Hold.set (Hold.set (Hold.set HK.out 0 _) 1 _) 2 _) 3 _).cell0 3)) rfl ?_
  refine ⟨(((hxw2.setCell (by show w.heap.size≤w.heap.size+1;omega) _).setCell (by show w.heap.size≤w.heap.size+1;omega) _).setCell (by show w.heap.size≤w.heap.size+1;omega) _).setCell (by show w.heap.size≤w.heap.size+1;omega) _,.inl ⟨_,by decide,(.inl ⟨HF.out,rfl⟩),rfl⟩⟩
 | true =>
 have HV:=Lib.hid (hbv.1 rfl)
 clear hbv
 by_cases h64:64<n
 ·have d1:decide ((64:Int)<(n:Int))=true:=decide_eq_true (by omega)
  have d1':decide (64<n)=true:=decide_eq_true h64
  have HK:=Lib.hid (Hold.ext k1 hx2)
  go_wp2_with fail
  refine bodyPost_ret (sof_results _ _ _ _ _ _ _ _ rfl rfl ((Hold.set (Hold.set (Hold.set (Hold.set HK.out 0 _) 1 _) 2 _) 3 _).cell0 0) ((Hold.set (Hold.set (Hold.set (Hold.set HK.out 0 _) 1 _) 2 _) 3 _).cell0 1) ((Hold.set (Hold.set (Hold.set (Hold.set HK.out 0 _) 1 _) 2 _) 3 _).cell0 2) ((Hold.set (Hold.set (Hold.set (Hold.set HK.out 0 _) 1 _) 2 _) 3 _).cell0 3)) rfl ?_
  refine ⟨(((hxw2.setCell (by show w.heap.size≤w.heap.size+1;omega) _).setCell (by show w.heap.size≤w.heap.size+1;omega) _).setCell (by show w.heap.size≤w.heap.size+1;omega) _).setCell (by show w.heap.size≤w.heap.size+1;omega) _,.inl ⟨_,by decide,(.inr (.inl ⟨HV.out,by rw [HLN.out];exact h64,rfl⟩)),rfl⟩⟩
 have d1:decide ((64:Int)<(n:Int))=false:=decide_eq_false (by omega)
 have d1':decide (64<n)=false:=decide_eq_false h64
 have HL64:=Lib.hid (show D.l.length≤64 from by rw [HLN.out];omega)
 have hh1:=HH1.out w2 hxw2 #[.pointer (some ⟨w.heap.size,0,none⟩)] (fun i=>decide (T.toTr.tix (D.at i)<0)) (fun i hi w' x=>sof1_any w' T (HT.out.ext (hxw2.trans x)) _ (fun w'' y=>by have h9:=c0 w'' (hx2.trans (x.trans y)) 0;rw [HTA.out] at h9;exact h9) (D.at i))
 cases hb1:anyB (fun i=>decide (T.toTr.tix (D.at i)<0)) n with
 | true =>
  rw [hb1] at hh1
  have HF:=Lib.hid (show ¬T.known D.l from fun h=>by
   obtain ⟨i,hi,h2⟩:=anyB_iff.1 hb1
   have h3:=h _ (TmD.mem.2 ⟨i,by rw [←HN.out];exact hi,rfl⟩)
   simp only [decide_eq_true_eq] at h2;omega)
  clear hb1
  go_wp2_with fail
  go_at_call 151
  refine hh1.mono ?_
  rintro e w3 ⟨rfl,hx3⟩
  have hxw3:=hxw2.trans hx3
  have hx13:=hx2.trans hx3
  have HK:=Lib.hid (Hold.ext k1 hx13)
  clear hh1
  go_wp2_with fail
  refine bodyPost_ret (sof_results _ _ _ _ _ _ _ _ rfl rfl ((Hold.set (Hold.set (Hold.set (Hold.set HK.out 0 _) 1 _) 2 _) 3 _).cell0 0) ((Hold.set (Hold.set (Hold.set (Hold.set HK.out 0 _) 1 _) 2 _) 3 _).cell0 1) ((Hold.set (Hold.set (Hold.set (Hold.set HK.out 0 _) 1 _) 2 _) 3 _).cell0 2) ((Hold.set (Hold.set (Hold.set (Hold.set HK.out 0 _) 1 _) 2 _) 3 _).cell0 3)) rfl ?_
  refine ⟨(((hxw3.setCell (by show w.heap.size≤w.heap.size+1;omega) _).setCell (by show w.heap.size≤w.heap.size+1;omega) _).setCell (by show w.heap.size≤w.heap.size+1;omega) _).setCell (by show w.heap.size≤w.heap.size+1;omega) _,.inl ⟨_,by decide,(.inr (.inr (.inl ⟨HV.out,HL64.out,HF.out,rfl⟩))),rfl⟩⟩
 | false =>
 rw [hb1] at hh1
 have HKN:=Lib.hid (show T.known D.l from fun x hx=>by
  obtain ⟨i,hi,rfl⟩:=TmD.mem.1 hx
  refine Int.not_lt.1 fun hlt=>?_
  have:=(anyB_iff (p:=fun i=>decide (T.toTr.tix (D.at i)<0)) (n:=n)).2 ⟨i,by rw [HN.out];exact hi,decide_eq_true hlt⟩
  rw [hb1] at this;cases this)
 clear hb1
 go_wp2_with fail
 go_at_call 151
 refine hh1.mono ?_
 rintro e w3 ⟨rfl,hx3⟩
 have hxw3:=hxw2.trans hx3
 have hx13:=hx2.trans hx3
 have hh2:=HH2.out w3 hxw3
 clear hh1
 cases hb2:anyB (fun i=>decide (D.c i < -1048576∨1048576<D.c i)) n with
 | true =>
  rw [hb2] at hh2
  have HF:=Lib.hid (show ¬coefs D.l from fun h=>by
   obtain ⟨i,hi,h2⟩:=anyB_iff.1 hb2
   have h3:=h _ (TmD.mem.2 ⟨i,by rw [←HN.out];exact hi,rfl⟩)
   have e:(D.at i).2.2=D.c i:=rfl
   simp only [decide_eq_true_eq] at h2;omega)
  clear hb2
  go_wp2_with fail
  go_at_call 151
  refine hh2.mono ?_
  rintro e w4 ⟨rfl,hx4⟩
  have hxw4:=hxw3.trans hx4
  have hx14:=hx13.trans hx4
  have HK:=Lib.hid (Hold.ext k1 hx14)
  clear hh2
  go_wp2_with fail
  refine bodyPost_ret (sof_results _ _ _ _ _ _ _ _ rfl rfl ((Hold.set (Hold.set (Hold.set (Hold.set HK.out 0 _) 1 _) 2 _) 3 _).cell0 0) ((Hold.set (Hold.set (Hold.set (Hold.set HK.out 0 _) 1 _) 2 _) 3 _).cell0 1) ((Hold.set (Hold.set (Hold.set (Hold.set HK.out 0 _) 1 _) 2 _) 3 _).cell0 2) ((Hold.set (Hold.set (Hold.set (Hold.set HK.out 0 _) 1 _) 2 _) 3 _).cell0 3)) rfl ?_
  refine ⟨(((hxw4.setCell (by show w.heap.size≤w.heap.size+1;omega) _).setCell (by show w.heap.size≤w.heap.size+1;omega) _).setCell (by show w.heap.size≤w.heap.size+1;omega) _).setCell (by show w.heap.size≤w.heap.size+1;omega) _,.inl ⟨_,by decide,(.inr (.inr (.inr (.inl ⟨HV.out,HL64.out,HKN.out,HF.out,rfl⟩)))),rfl⟩⟩
 | false =>
 rw [hb2] at hh2
 have HCF:=Lib.hid (show coefs D.l from fun x hx=>by
  obtain ⟨i,hi,rfl⟩:=TmD.mem.1 hx
  have e:(D.at i).2.2=D.c i:=rfl
  refine ⟨Int.not_lt.1 fun hlt=>?_,Int.not_lt.1 fun hlt=>?_⟩
  ·have:=(anyB_iff (p:=fun i=>decide (D.c i < -1048576∨1048576<D.c i)) (n:=n)).2 ⟨i,by rw [HN.out];exact hi,decide_eq_true (.inl (by omega))⟩
   rw [hb2] at this;cases this
  ·have:=(anyB_iff (p:=fun i=>decide (D.c i < -1048576∨1048576<D.c i)) (n:=n)).2 ⟨i,by rw [HN.out];exact hi,decide_eq_true (.inr (by omega))⟩
   rw [hb2] at this;cases this)
 clear hb2
 go_wp2_with fail
 go_at_call 151
 refine hh2.mono ?_
 rintro e w4 ⟨rfl,hx4⟩
 have hxw4:=hxw3.trans hx4
 have hx14:=hx13.trans hx4
 have hco:=count_any w4 T (HT.out.ext hxw4) HV.out
 simp only [TM.val,←HTA.out] at hco
 have hsm:=tot_small (f:=T.en) (c:=64) (n:=T.n) (fun j hj=>HV.out.en64 hj)
 have hn8:=HV.out.n8
 obtain ⟨tn,htn⟩:∃ z,z=tot T.en T.n:=⟨_,rfl⟩
 rw [←htn] at hco hsm
 have HTN:=Lib.hid htn
 clear hh2 htn
 by_cases h510:510<tn
 ·have d2:decide ((510:Int)<(tn:Int))=true:=decide_eq_true (by omega)
  have d2':decide (510<tn)=true:=decide_eq_true h510
  go_wp2_with fail
  go_at_call 155
  refine hco.mono ?_
  rintro e w5 ⟨rfl,hx5⟩
  have hxw5:=hxw4.trans hx5
  have hx15:=hx14.trans hx5
  have HK:=Lib.hid (Hold.ext k1 hx15)
  clear hco
  go_wp2_with fail
  refine bodyPost_ret (sof_results _ _ _ _ _ _ _ _ rfl rfl ((Hold.set (Hold.set (Hold.set (Hold.set HK.out 0 _) 1 _) 2 _) 3 _).cell0 0) ((Hold.set (Hold.set (Hold.set (Hold.set HK.out 0 _) 1 _) 2 _) 3 _).cell0 1) ((Hold.set (Hold.set (Hold.set (Hold.set HK.out 0 _) 1 _) 2 _) 3 _).cell0 2) ((Hold.set (Hold.set (Hold.set (Hold.set HK.out 0 _) 1 _) 2 _) 3 _).cell0 3)) rfl ?_
  refine ⟨(((hxw5.setCell (by show w.heap.size≤w.heap.size+1;omega) _).setCell (by show w.heap.size≤w.heap.size+1;omega) _).setCell (by show w.heap.size≤w.heap.size+1;omega) _).setCell (by show w.heap.size≤w.heap.size+1;omega) _,.inl ⟨_,by decide,(.inr (.inr (.inr (.inr (.inl ⟨HV.out,HL64.out,HKN.out,HCF.out,fun h=>absurd h.1 (by rw [←HTN.out];omega),rfl⟩))))),rfl⟩⟩
 have d2:decide ((510:Int)<(tn:Int))=false:=decide_eq_false (by omega)
 have d2':decide (510<tn)=false:=decide_eq_false h510
 go_wp2_with fail
 go_at_call 155
 refine hco.mono ?_
 rintro e w5 ⟨rfl,hx5⟩
 have hxw5:=hxw4.trans hx5
 have hx15:=hx14.trans hx5
 clear hco hx2 hx3 hx4 hx5 hx13 hx14 hxw2 hxw3 hxw4
 go_upto_region 12 with fail
 refine boxed1 (w:=w5) (G:=fun x=>Code.wp _ _ _ _ x) ?_
 intro w6 hx6 hs6 ⟨_,_,_,k6⟩
 have hx16:=hx15.trans hx6
 obtain ⟨b6,hb6⟩:∃ z,z=w5.heap.size:=⟨_,rfl⟩
 rw [←hb6] at k6 ⊢
 have HB6:=Lib.hid (show w.heap.size+1<b6 from by have:=l1 w5 hx15;omega)
 have HO6:=Lib.hid (OpI.mk (w1:=w5) (b5:=b6) (tv:=.slice ta T.n T.cap) (sv:=.slice da n D.s.c) (nb:=0) (f:=T.wfn D.l) (k:=0) (ev:=.slice none 0 0) (wr:=w6) k6 (World.ownsRow_nil _ _ _ _) hx6 (by omega))
 have HBA:=Lib.hid (fun j=>Tr.begJ_abs HV.out HKN.out HCF.out HL64.out j)
 clear hs6 hb6 k6 hx6 d1 d1' d2 d2'
 go_wp2_with fail
 go_loopg [45] n (fun gg v45 wr=>∃ j:Nat,j≤n∧gg=n - j∧v45=.int .i64 j∧OpI w5 b6 (.slice ta T.n T.cap) (.slice da n D.s.c) (T.toTr.begJ D.l j) (T.wfn D.l) 0 (.slice none 0 0) wr)
 case atStart=>exact ⟨0,by omega,rfl,rfl,HO6.out⟩
 case round=>
  obtain ⟨j,hj,rfl,rfl,hI⟩:=hrel
  have HI:=Lib.hid hI
  have hx1r:=hx15.trans hI.hx
  have hxr:=hxw5.trans hI.hx
  clear hI
  by_cases hlt:j<n
  ·have hlt':(j:Int)<(n:Int):=by omega
   have hjs:j<D.s.n:=by rw [←HN.out];exact hlt
   obtain ⟨v,hp0,hpn,hvn,hvi,htx⟩:=Tr.tix_at (HKN.out (D.at j) (TmD.mem.2 ⟨j,hjs,rfl⟩))
   obtain ⟨p,hp⟩:∃ p:Nat,(D.at j).1=p:=⟨(D.at j).1.toNat,by omega⟩
   rw [hp,Int.toNat_natCast] at hpn hvn hvi
   have hbn:=Tr.begJ_next (T:=T.toTr) (D.get hjs) hp hvi
   have hb1:=HBA.out j
   have hb2:=HBA.out (j+1)
   rw [hbn] at hb2
   have HBN:=Lib.hid hbn
   have hvb:=HV.out.val_range hpn hvn (T.toTr.st_of p v 0 (Nat.zero_le _))
   have hcc:=HCF.out (D.at j) (TmD.mem.2 ⟨j,hjs,rfl⟩)
   obtain ⟨cc,hcc'⟩:∃ z,z=D.c j:=⟨_,rfl⟩
   have e22:(D.at j).2.2=cc:=hcc'.symm
   rw [e22] at hb2 hcc HBN
   obtain ⟨iv,hiv⟩:∃ z,z=T.vinit p v:=⟨_,rfl⟩
   have e23:T.st p v 0=iv:=hiv.symm
   rw [e23] at hvb
   rw [←hiv] at hb2 HBN
   obtain ⟨bg,hbg⟩:∃ z,z=T.toTr.begJ D.l j:=⟨_,rfl⟩
   rw [←hbg] at hb1 hb2 HBN HI
   have hpj:D.p j=(p:Int):=hp
   obtain ⟨nm,hnm⟩:∃ z,z=D.nm j:=⟨_,rfl⟩
   obtain rfl:da=some ⟨D.s.b,D.s.o,none⟩:=by rw [HDA.out];exact HDP.out (by omega)
   have hdb:∀ w',Ext w w'→D.s.b<w'.heap.size:=fun w' x=>Nat.lt_of_lt_of_le (HD.out.hb (by omega)) x.le
   have q0:∀ w',Ext w w'→w'.cell? ⟨D.s.b,D.s.o+j*3,none⟩=some (.int .i64 (p:Int)):=fun w' x=>by rw [←hpj];exact (HD.out.ext x).c0 j hjs
   have q1:∀ w',Ext w w'→w'.cell? ⟨D.s.b,D.s.o+j*3+1,none⟩=some (.string nm):=fun w' x=>by rw [hnm];exact (HD.out.ext x).c1 j hjs
   have q2:∀ w',Ext w w'→w'.cell? ⟨D.s.b,D.s.o+j*3+2,none⟩=some (.int .i64 cc):=fun w' x=>by rw [hcc'];exact (HD.out.ext x).c2 j hjs
   have hix:=HIX.out
   have HIX:=Lib.hid (fun W (h:Ext w W)=>(show Calls Tryz.prog 153 #[.agg #[.slice ta T.n T.cap],.agg #[.int .i64 (p:Int),.string nm,.int .i64 cc]] W fun e w'=>e=.returned (.int .i64 (v:Int))∧Ext W w' from by
    have:=hix W h (D.at j)
    rw [htx] at this
    simp only [trmV,TmD.at,hpj,←hnm,←hcc'] at this
    exact this))
   have hpn':(p:Int)<(T.n:Int):=by omega
   have hvn':(v:Int)<(T.vn p:Int):=by omega
   have tp:=HT.out.P.pa (by omega)
   have tb:=HT.out.P.pb (by omega)
   have tp1:∀ w',Ext w w'→w'.cell? ⟨T.b,T.off+p*3+1,none⟩=some (.slice (T.va p) (T.vn p) (T.vc p)):=fun w' x=>HT.out.P.p1 w' x p hpn
   have va:=HT.out.V.va p hpn (by omega)
   rw [va] at tp1
   have vb:=HT.out.V.vb p hpn (by omega)
   have v1:∀ w',Ext w w'→w'.cell? ⟨T.vb p,T.vo p+v*2+1,none⟩=some (.int .i64 iv):=fun w' x=>by rw [hiv];exact HT.out.V.v1 w' x p v hpn hvn
   have hw1:IntKind.i64.wrap (cc*iv)=cc*iv:=IntWalk.i64_in _ (by omega)
   have hw2:IntKind.i64.wrap (bg+cc*iv)=bg+cc*iv:=IntWalk.i64_in _ (by omega)
   have hta2:ta=some ⟨T.b,T.off,none⟩:=by rw [HTA.out,←tp]
   clear hix hbn hcc' hiv hbg hnm hp0 hvi htx hp hpj e22 e23
   go_upto_region 15 with fail
   refine boxed1 (w:=wr) (G:=fun x=>Code.wp _ _ _ _ x) ?_
   intro w8 hx8 hs8 ⟨l8,c8,_,k8⟩
   have hxw8:=hxr.trans hx8
   have hx18:=hx1r.trans hx8
   have HI8:=Lib.hid (HI.out.ext hx8)
   obtain ⟨b8,hb8⟩:∃ z,z=wr.heap.size:=⟨_,rfl⟩
   rw [←hb8] at k8 l8 c8 ⊢
   have hb68:b8≠b6:=by have:=HI.out.h5.lt;omega
   have hb06:w.heap.size≠b6:=by have:=HB6.out;omega
   obtain ⟨l6,c6,f6,k6⟩:=HI8.out.h5.box
   have hx88:Ext w8 w8:=Ext.refl _
   have hx88d:Ext w8 w8.drew:=(Ext.refl _).drew
   have HK0:=Lib.hid (Hold.ext k0 hx18)
   have hb6w:w.heap.size≤b6:=by have:=HB6.out;omega
   subst hta2
   clear hs8 hb8 q0 q1 q2 hdb
   refine wp_region_held_drew (S:=fun w'=>Ext w w'∧Hold w' w.heap.size #[.slice (some ⟨T.b,T.off,none⟩) T.n T.cap]∧Hold w' b8 #[.int .i64 (p:Int),.string nm,.int .i64 cc]) (by kernel_rfl) ⟨hxw8.drew,Hold.ext HK0.out (Ext.refl _).drew,Hold.ext k8 (Ext.refl _).drew⟩ (fun hHeld=>?_)
   refine hQ 0 (v:=?_) rfl (y:=.inl ⟨by rfl,?_⟩) (h:=?_)
   rotate_left
   ·(intro w' hSw;have hSx:=hSw.1;obtain ⟨lS,cS,_,_⟩:=hSw.2.1.box;obtain ⟨lU,cU,_,_⟩:=hSw.2.2.box;have hSS:=Ext.refl w';go_simp;try with_reducible rfl)
   try simp only [Act.put,zA,zB,zC]
   refine hQ 2 (v:=?_) rfl (y:=.inl ⟨by rfl,?_⟩) (h:=?_)
   rotate_left
   ·(intro w' hSw;have hSx:=hSw.1;obtain ⟨lS,cS,_,_⟩:=hSw.2.1.box;obtain ⟨lU,cU,_,_⟩:=hSw.2.2.box;have hSS:=Ext.refl w';go_simp;try with_reducible rfl)
   try simp only [Act.put,zA,zB,zC]
   refine hQ 3 (v:=?_) rfl (y:=.inl ⟨by rfl,?_⟩) (h:=?_)
   rotate_left
   ·(intro w' hSw;have hSx:=hSw.1;obtain ⟨lS,cS,_,_⟩:=hSw.2.1.box;obtain ⟨lU,cU,_,_⟩:=hSw.2.2.box;have hSS:=Ext.refl w';go_simp;try with_reducible rfl)
   try simp only [Act.put,zA,zB,zC]
   refine hQ 4 (v:=?_) rfl (y:=.inl ⟨by rfl,?_⟩) (h:=?_)
   rotate_left
   ·(intro w' hSw;have hSx:=hSw.1;obtain ⟨lS,cS,_,_⟩:=hSw.2.1.box;obtain ⟨lU,cU,_,_⟩:=hSw.2.2.box;have hSS:=Ext.refl w';go_simp;try with_reducible rfl)
   try simp only [Act.put,zA,zB,zC]
   refine hQ 5 (v:=?_) rfl (y:=.inl ⟨by rfl,?_⟩) (h:=?_)
   rotate_left
   ·(intro w' hSw;have hSx:=hSw.1;obtain ⟨lS,cS,_,_⟩:=hSw.2.1.box;obtain ⟨lU,cU,_,_⟩:=hSw.2.2.box;have hSS:=Ext.refl w';go_simp;try with_reducible rfl)
   try simp only [Act.put,zA,zB,zC]
   refine hQ 6 (v:=?_) rfl (y:=.inl ⟨by rfl,?_⟩) (h:=?_)
   rotate_left
   ·(intro w' hSw;have hSx:=hSw.1;obtain ⟨lS,cS,_,_⟩:=hSw.2.1.box;obtain ⟨lU,cU,_,_⟩:=hSw.2.2.box;have hSS:=Ext.refl w';go_simp;try with_reducible rfl)
   try simp only [Act.put,zA,zB,zC]
   refine hQ 7 (v:=?_) rfl (y:=.inl ⟨by rfl,?_⟩) (h:=?_)
   rotate_left
   ·(intro w' hSw;have hSx:=hSw.1;obtain ⟨lS,cS,_,_⟩:=hSw.2.1.box;obtain ⟨lU,cU,_,_⟩:=hSw.2.2.box;have hSS:=Ext.refl w';go_simp;try with_reducible rfl)
   try simp only [Act.put,zA,zB,zC]
   refine hQ 8 (v:=?_) rfl (y:=.inl ⟨by rfl,?_⟩) (h:=?_)
   rotate_left
   ·(intro w' hSw;have hSx:=hSw.1;obtain ⟨lS,cS,_,_⟩:=hSw.2.1.box;obtain ⟨lU,cU,_,_⟩:=hSw.2.2.box;have hSS:=Ext.refl w';go_simp;try with_reducible rfl)
   try simp only [Act.put,zA,zB,zC]
   refine hQ 9 (v:=?_) rfl (y:=.inl ⟨by rfl,?_⟩) (h:=?_)
   rotate_left
   ·(intro w' hSw;have hSx:=hSw.1;obtain ⟨lS,cS,_,_⟩:=hSw.2.1.box;obtain ⟨lU,cU,_,_⟩:=hSw.2.2.box;have hSS:=Ext.refl w';go_simp;try with_reducible rfl)
   try simp only [Act.put,zA,zB,zC]
   refine hQ 10 (v:=?_) rfl (y:=.inl ⟨by rfl,?_⟩) (h:=?_)
   rotate_left
   ·(intro w' hSw;have hSx:=hSw.1;obtain ⟨lS,cS,_,_⟩:=hSw.2.1.box;obtain ⟨lU,cU,_,_⟩:=hSw.2.2.box;have hSS:=Ext.refl w';go_simp;try with_reducible rfl)
   try simp only [Act.put,zA,zB,zC]
   refine hQ 11 (v:=?_) rfl (y:=.inl ⟨by rfl,?_⟩) (h:=?_)
   rotate_left
   ·(intro w' hSw;have hSx:=hSw.1;obtain ⟨lS,cS,_,_⟩:=hSw.2.1.box;obtain ⟨lU,cU,_,_⟩:=hSw.2.2.box;have hSS:=Ext.refl w';go_simp;try with_reducible rfl)
   try simp only [Act.put,zA,zB,zC]
   refine hQ 12 (v:=?_) rfl (y:=.inl ⟨by rfl,?_⟩) (h:=?_)
   rotate_left
   ·(intro w' hSw;have hSx:=hSw.1;obtain ⟨lS,cS,_,_⟩:=hSw.2.1.box;obtain ⟨lU,cU,_,_⟩:=hSw.2.2.box;have hSS:=Ext.refl w';go_simp;try with_reducible rfl)
   try simp only [Act.put,zA,zB,zC]
   refine wpAnyH_ready (rs:=[1,13]) (by kernel_rfl) (by simp) ?_
   refine AllReadyH.cons rfl (fun K hK=>?_) (AllReadyH.cons rfl (fun K hK=>?_) AllReadyH.nil)
   ·go_simp
    refine hK.out _ _ ?_ (fun hHeld2=>?_)
    ·exact hHeld
    clear hK K
    try simp only [Act.put,zA,zB,zC]
    refine wpAnyH_ready (rs:=[13]) (by kernel_rfl) (by simp) ?_
    refine AllReadyH.cons rfl (fun K hK=>?_) AllReadyH.nil
    go_simp
    go_at_call 153
    refine (HIX.out _ hxw8.drew).mono ?_
    rintro e w7 ⟨rfl,hx7⟩
    refine hK.out _ _ ?_ (fun hHeld5=>?_)
    ·exact ⟨hxw8.drew.trans hx7,Hold.ext hHeld2.2.1 hx7,Hold.ext hHeld2.2.2 hx7⟩
    clear hK K
    try simp only [Act.put,zA,zB,zC]
    have hx87:=hx88d.trans hx7
    refine hQ 14 (v:=?_) rfl (y:=.inl ⟨by rfl,?_⟩) (h:=?_)
    rotate_left
    ·(intro w' hSw;have hSx:=hSw.1;obtain ⟨lS,cS,_,_⟩:=hSw.2.1.box;obtain ⟨lU,cU,_,_⟩:=hSw.2.2.box;have hSS:=Ext.refl w';go_simp;try with_reducible rfl)
    try simp only [Act.put,zA,zB,zC]
    refine hQ 15 (v:=?_) rfl (y:=.inl ⟨by rfl,?_⟩) (h:=?_)
    rotate_left
    ·(intro w' hSw;have hSx:=hSw.1;obtain ⟨lS,cS,_,_⟩:=hSw.2.1.box;obtain ⟨lU,cU,_,_⟩:=hSw.2.2.box;have hSS:=Ext.refl w';go_simp;try with_reducible rfl)
    try simp only [Act.put,zA,zB,zC]
    refine hQ 16 (v:=?_) rfl (y:=.inl ⟨by rfl,?_⟩) (h:=?_)
    rotate_left
    ·(intro w' hSw;have hSx:=hSw.1;obtain ⟨lS,cS,_,_⟩:=hSw.2.1.box;obtain ⟨lU,cU,_,_⟩:=hSw.2.2.box;have hSS:=Ext.refl w';go_simp;try with_reducible rfl)
    try simp only [Act.put,zA,zB,zC]
    refine hQ 17 (v:=?_) rfl (y:=.inl ⟨by rfl,?_⟩) (h:=?_)
    rotate_left
    ·(intro w' hSw;have hSx:=hSw.1;obtain ⟨lS,cS,_,_⟩:=hSw.2.1.box;obtain ⟨lU,cU,_,_⟩:=hSw.2.2.box;have hSS:=Ext.refl w';go_simp;try with_reducible rfl)
    try simp only [Act.put,zA,zB,zC]
    refine hQ 18 (v:=?_) rfl (y:=.inl ⟨by rfl,?_⟩) (h:=?_)
    rotate_left
    ·(intro w' hSw;have hSx:=hSw.1;obtain ⟨lS,cS,_,_⟩:=hSw.2.1.box;obtain ⟨lU,cU,_,_⟩:=hSw.2.2.box;have hSS:=Ext.refl w';go_simp;try with_reducible rfl)
    try simp only [Act.put,zA,zB,zC]
    refine hQ 19 (v:=?_) rfl (y:=.inl ⟨by rfl,?_⟩) (h:=?_)
    rotate_left
    ·(intro w' hSw;have hSx:=hSw.1;obtain ⟨lS,cS,_,_⟩:=hSw.2.1.box;obtain ⟨lU,cU,_,_⟩:=hSw.2.2.box;have hSS:=Ext.refl w';go_simp;try with_reducible rfl)
    try simp only [Act.put,zA,zB,zC]
    refine wpAnyH_ready (rs:=[20]) (by kernel_rfl) (by simp) ?_
    refine AllReadyH.cons rfl (fun K hK=>?_) AllReadyH.nil
    go_simp
    refine hK.out _ _ ?_ (fun hHeld9=>?_)
    ·exact ⟨hHeld5.1.setCell hb6w _,Hold.other hHeld5.2.1 _ _ hb06,Hold.other hHeld5.2.2 _ _ hb68⟩
    clear hK K
    try simp only [Act.put,zA,zB,zC]
    refine wpAnyH_done (by kernel_rfl) ?_ _
    have HIN:=Lib.hid (OpI.beg (nb':=bg+cc*iv) HI8.out hx87)
    clear hHeld hHeld9 l6 c6 f6 k6 l8 c8 k8
    go_wp2_with fail
    go_roundg (n - (j+1))
    case rel=>exact ⟨j+1,by omega,rfl,by go_num,by rw [HBN.out];exact HIN.out⟩
    case measure=>omega
   ·go_simp
    go_at_call 153
    refine (HIX.out _ hxw8.drew).mono ?_
    rintro e w7 ⟨rfl,hx7⟩
    refine hK.out _ _ ?_ (fun hHeld5=>?_)
    ·exact ⟨hxw8.drew.trans hx7,Hold.ext hHeld.2.1 hx7,Hold.ext hHeld.2.2 hx7⟩
    clear hK K
    try simp only [Act.put,zA,zB,zC]
    have hx87:=hx88d.trans hx7
    refine hQ 14 (v:=?_) rfl (y:=.inl ⟨by rfl,?_⟩) (h:=?_)
    rotate_left
    ·(intro w' hSw;have hSx:=hSw.1;obtain ⟨lS,cS,_,_⟩:=hSw.2.1.box;obtain ⟨lU,cU,_,_⟩:=hSw.2.2.box;have hSS:=Ext.refl w';go_simp;try with_reducible rfl)
    try simp only [Act.put,zA,zB,zC]
    refine hQ 15 (v:=?_) rfl (y:=.inl ⟨by rfl,?_⟩) (h:=?_)
    rotate_left
    ·(intro w' hSw;have hSx:=hSw.1;obtain ⟨lS,cS,_,_⟩:=hSw.2.1.box;obtain ⟨lU,cU,_,_⟩:=hSw.2.2.box;have hSS:=Ext.refl w';go_simp;try with_reducible rfl)
    try simp only [Act.put,zA,zB,zC]
    refine hQ 16 (v:=?_) rfl (y:=.inl ⟨by rfl,?_⟩) (h:=?_)
    rotate_left
    ·(intro w' hSw;have hSx:=hSw.1;obtain ⟨lS,cS,_,_⟩:=hSw.2.1.box;obtain ⟨lU,cU,_,_⟩:=hSw.2.2.box;have hSS:=Ext.refl w';go_simp;try with_reducible rfl)
    try simp only [Act.put,zA,zB,zC]
    refine hQ 17 (v:=?_) rfl (y:=.inl ⟨by rfl,?_⟩) (h:=?_)
    rotate_left
    ·(intro w' hSw;have hSx:=hSw.1;obtain ⟨lS,cS,_,_⟩:=hSw.2.1.box;obtain ⟨lU,cU,_,_⟩:=hSw.2.2.box;have hSS:=Ext.refl w';go_simp;try with_reducible rfl)
    try simp only [Act.put,zA,zB,zC]
    refine wpAnyH_ready (rs:=[1]) (by kernel_rfl) (by simp) ?_
    refine AllReadyH.cons rfl (fun K hK=>?_) AllReadyH.nil
    go_simp
    refine hK.out _ _ ?_ (fun hHeld6=>?_)
    ·exact hHeld5
    clear hK K
    try simp only [Act.put,zA,zB,zC]
    refine hQ 18 (v:=?_) rfl (y:=.inl ⟨by rfl,?_⟩) (h:=?_)
    rotate_left
    ·(intro w' hSw;have hSx:=hSw.1;obtain ⟨lS,cS,_,_⟩:=hSw.2.1.box;obtain ⟨lU,cU,_,_⟩:=hSw.2.2.box;have hSS:=Ext.refl w';go_simp;try with_reducible rfl)
    try simp only [Act.put,zA,zB,zC]
    refine hQ 19 (v:=?_) rfl (y:=.inl ⟨by rfl,?_⟩) (h:=?_)
    rotate_left
    ·(intro w' hSw;have hSx:=hSw.1;obtain ⟨lS,cS,_,_⟩:=hSw.2.1.box;obtain ⟨lU,cU,_,_⟩:=hSw.2.2.box;have hSS:=Ext.refl w';go_simp;try with_reducible rfl)
    try simp only [Act.put,zA,zB,zC]
    refine wpAnyH_ready (rs:=[20]) (by kernel_rfl) (by simp) ?_
    refine AllReadyH.cons rfl (fun K hK=>?_) AllReadyH.nil
    go_simp
    refine hK.out _ _ ?_ (fun hHeld9=>?_)
    ·exact ⟨hHeld5.1.setCell hb6w _,Hold.other hHeld5.2.1 _ _ hb06,Hold.other hHeld5.2.2 _ _ hb68⟩
    clear hK K
    try simp only [Act.put,zA,zB,zC]
    refine wpAnyH_done (by kernel_rfl) ?_ _
    have HIN:=Lib.hid (OpI.beg (nb':=bg+cc*iv) HI8.out hx87)
    clear hHeld hHeld9 l6 c6 f6 k6 l8 c8 k8
    go_wp2_with fail
    go_roundg (n - (j+1))
    case rel=>exact ⟨j+1,by omega,rfl,by go_num,by rw [HBN.out];exact HIN.out⟩
    case measure=>omega
  ·obtain rfl:j=n:=by omega
   have hbe:=Tr.begJ_all (T:=T.toTr) (ts:=D.l) (j:=j) (by rw [HLN.out];omega)
   have hba:=HBA.out j
   rw [hbe] at HI hba
   obtain ⟨bg,hbg⟩:∃ z,z=T.toTr.sumAt D.l (fun _=>0):=⟨_,rfl⟩
   rw [←hbg] at HI hba
   have HBG:=Lib.hid hbg
   have HM0:=Lib.hid (show T.toTr.mass D.l 0 0=iabs bg from by rw [Tr.mass_zero,hbg])
   have HMN:=Lib.hid (fun p i=>Tr.mass_nonneg T.toTr D.l p i)
   have hia:=iabs_of hba
   obtain ⟨l6,c6,f6,k6⟩:=HI.out.h5.box
   have hrr:Ext wr wr:=Ext.refl _
   have hab:=sabs_any bg wr (by omega) (by omega)
   clear hbe hbg hlt
   go_wp2_with fail
   go_at_call 156
   refine hab.mono ?_
   rintro e w7 ⟨rfl,rfl⟩
   have HI7:=Lib.hid HI.out
   clear hab l6 c6 f6 k6 HI HO6 hrr
   go_wp2_with fail
   go_loopg [9,76] T.n (fun gg v9 v76 wx=>∃ (k:Nat) (ev:Value),k≤T.n∧gg=T.n - k∧v76=.int .i64 k∧v9=.int .i64 (T.toTr.mass D.l k 0)∧T.toTr.mass D.l k 0≤72057594037927936∧OpI w5 b6 (.slice ta T.n T.cap) (.slice da j D.s.c) bg (T.wfn D.l) (tott T.en k) ev wx)
   case atStart=>exact ⟨0,_,by omega,rfl,rfl,by rw [HM0.out],by rw [HM0.out];omega,HI7.out⟩
   case round=>
    obtain ⟨k,ev,hk,rfl,rfl,rfl,hm,hI⟩:=hrel
    have HI:=Lib.hid hI
    have hx1r:=hx15.trans hI.hx
    have hxr:=hxw5.trans hI.hx
    clear hI HI7
    by_cases hlt:k<T.n
    ·have hlt':(k:Int)<(T.n:Int):=by omega
     obtain rfl:ta=some ⟨T.b,T.off,none⟩:=by rw [HTA.out];exact HT.out.P.pa (by omega)
     have hen:=HV.out.en64 hlt
     have pb:=HT.out.P.pb (by omega)
     have p0:∀ w',Ext w w'→w'.cell? ⟨T.b,T.off+k*3,none⟩=some (.string (T.name k)):=fun w' h=>HT.out.P.p0 w' h k hlt
     have p1:∀ w',Ext w w'→w'.cell? ⟨T.b,T.off+k*3+1,none⟩=some (.slice (T.va k) (T.vn k) (T.vc k)):=fun w' h=>HT.out.P.p1 w' h k hlt
     have p2:∀ w',Ext w w'→w'.cell? ⟨T.b,T.off+k*3+2,none⟩=some (.slice (T.ea k) (T.en k) (T.ec k)):=fun w' h=>HT.out.P.p2 w' h k hlt
     go_upto_region 21 with fail
     refine boxed1 (w:=wr) (G:=fun x=>Code.wp _ _ _ _ x) ?_
     intro w7 hx7 hs7 ⟨l7,c7,f7,k7⟩
     have hx77:Ext w7 w7:=Ext.refl _
     have HI7:=Lib.hid (HI.out.ext hx7)
     clear hs7
     go_wp2_with fail
     go_loopg [9,84] (T.en k) (fun gg v9 v84 wx=>∃ (i:Nat) (ev:Value),i≤T.en k∧gg=T.en k - i∧v84=.int .i64 i∧v9=.int .i64 (T.toTr.mass D.l k i)∧T.toTr.mass D.l k i≤72057594037927936∧OpI w5 b6 (.slice (some ⟨T.b,T.off,none⟩) T.n T.cap) (.slice da j D.s.c) bg (T.wfn D.l) (tott T.en k+i) ev wx)
     case atStart=>exact ⟨0,_,by omega,rfl,rfl,rfl,hm,HI7.out⟩
     case round=>
      obtain ⟨i,ev,hi,rfl,rfl,rfl,hmi,hI⟩:=hrel
      obtain ⟨a6,c6,rfl⟩:=own_form hI.own
      have HI:=Lib.hid hI
      have hx1i:=hx15.trans hI.hx
      have hxi:=hxw5.trans hI.hx
      have hm0:=HMN.out k i
      clear hI HI7 l7 c7 f7 k7 hx77 hx7
      by_cases hli:i<T.en k
      ·have hli':(i:Int)<(T.en k:Int):=by omega
       have HMX:=Lib.hid (Tr.mass_next T.toTr D.l k i)
       have HLE:=Lib.hid (Tr.mass_le T.toTr D.l hlt (i:=i+1) (by omega))
       have HWA:=Lib.hid (fun z=>Tr.wtJ_abs HV.out HKN.out HCF.out HL64.out hli z)
       have HW0:=Lib.hid (show T.toTr.wtJ D.l k i 0=0 from by simp [Tr.wtJ,Tr.wt,wgt,lsum])
       have HWN:=Lib.hid (Tr.wtJ_all (T:=T.toTr) (ts:=D.l) (p:=k) (i:=i) (j:=j) (by rw [HLN.out];omega))
       obtain ⟨mi,hmi'⟩:∃ z,z=T.toTr.mass D.l k i:=⟨_,rfl⟩
       rw [←hmi'] at hmi hm0 HMX ⊢
       clear hmi'
       rename World=>w9
       go_wp2_with fail
       go_loopg [13,89] j (fun gg v13 v89 wx=>∃ z:Nat,z≤j∧gg=j - z∧v89=.int .i64 z∧v13=.int .i64 (T.toTr.wtJ D.l k i z)∧Ext w9 wx)
       case atStart=>exact ⟨0,by omega,rfl,rfl,by rw [HW0.out],Ext.refl _⟩
       case round=>
        obtain ⟨z,hz,rfl,rfl,rfl,hx9⟩:=hrel
        have hx1z:=hx1i.trans hx9
        have hxz:=hxi.trans hx9
        by_cases hlz:z<j
        ·have hlz':(z:Int)<(j:Int):=by omega
         have hjs:z<D.s.n:=by rw [←HN.out];exact hlz
         obtain ⟨v,hp0,hpn,hvn,hvi,htx⟩:=Tr.tix_at (HKN.out (D.at z) (TmD.mem.2 ⟨z,hjs,rfl⟩))
         obtain rfl:da=some ⟨D.s.b,D.s.o,none⟩:=by rw [HDA.out];exact HDP.out (by omega)
         have hdb:∀ w',Ext w w'→D.s.b<w'.heap.size:=fun w' x=>Nat.lt_of_lt_of_le (HD.out.hb (by omega)) x.le
         obtain ⟨nm,hnm⟩:∃ z',z'=D.nm z:=⟨_,rfl⟩
         obtain ⟨cc,hcc'⟩:∃ z',z'=D.c z:=⟨_,rfl⟩
         obtain ⟨pp,hpp⟩:∃ z',z'=D.p z:=⟨_,rfl⟩
         have q0:∀ w',Ext w w'→w'.cell? ⟨D.s.b,D.s.o+z*3,none⟩=some (.int .i64 pp):=fun w' x=>by rw [hpp];exact (HD.out.ext x).c0 z hjs
         have q1:∀ w',Ext w w'→w'.cell? ⟨D.s.b,D.s.o+z*3+1,none⟩=some (.string nm):=fun w' x=>by rw [hnm];exact (HD.out.ext x).c1 z hjs
         have q2:∀ w',Ext w w'→w'.cell? ⟨D.s.b,D.s.o+z*3+2,none⟩=some (.int .i64 cc):=fun w' x=>by rw [hcc'];exact (HD.out.ext x).c2 z hjs
         have e21:(D.at z).1=pp:=hpp.symm
         have e22:(D.at z).2.1=nm:=hnm.symm
         have e23:(D.at z).2.2=cc:=hcc'.symm
         rw [e21] at hp0 hpn hvn hvi
         rw [e22] at hvi
         have HP:=Lib.hid (And.intro hp0 (And.intro hpn (And.intro hvn (And.intro hvi (And.intro e21 (And.intro e22 e23))))))
         have hcc:=HCF.out (D.at z) (TmD.mem.2 ⟨z,hjs,rfl⟩)
         rw [e23] at hcc
         clear hp0 hpn hvn hvi htx hnm hcc' hpp e21 e22 e23
         go_upto_region 28 with fail
         refine boxed1 (w:=wr) (G:=fun x=>Code.wp _ _ _ _ x) ?_
         intro w10 hx10 hs10 ⟨l10,c10,_,_⟩
         have hxw10:=hxz.trans hx10
         have hx110:=hx1z.trans hx10
         have hx910:=hx9.trans hx10
         have hxx:Ext w10 w10:=Ext.refl _
         clear hs10 q0 q1 q2 hdb
         by_cases hpk:pp=(k:Int)
         ·subst hpk
          have d5:((k:Int) == (k:Int))=true:=by simp
          have hvi:=HP.out.2.2.2.1
          have hvn:=HP.out.2.2.1
          rw [Int.toNat_natCast] at hvi hvn
          have hch:=fun W (h:Ext w W)=>schange_any W T (HT.out.ext h) HV.out k hlt nm cc v hvn hvi i hli
          have hst:=Tr.wtJ_yes (T:=T.toTr) (i:=i) (D.get hjs) HP.out.2.2.2.2.1 (by rw [HP.out.2.2.2.2.2.1];exact hvi)
          rw [HP.out.2.2.2.2.2.2] at hst
          obtain ⟨ch,hch'⟩:∃ z',z'=T.st k v (i+1) - T.st k v i:=⟨_,rfl⟩
          rw [←hch'] at hch hst
          simp only [TM.val,←HTA.out] at hch
          have HCH:=Lib.hid hch
          have hw1a:=HWA.out z
          have hw1b:=HWA.out (z+1)
          rw [hst] at hw1b
          have HST:=Lib.hid hst
          obtain ⟨wz,hwz⟩:∃ z',z'=T.toTr.wtJ D.l k i z:=⟨_,rfl⟩
          rw [←hwz] at hw1a hw1b HST ⊢
          have hw1:IntKind.i64.wrap (cc*ch)=cc*ch:=IntWalk.i64_in _ (by omega)
          have hw2:IntKind.i64.wrap (wz+cc*ch)=wz+cc*ch:=IntWalk.i64_in _ (by omega)
          have hw3:IntKind.i64.wrap ((i:Int)+1)=(i:Int)+1:=IntWalk.i64_in _ (by omega)
          clear hvi hvn hch hst hch' hwz hcc
          go_upto_region 29 with fail
          refine wp_region_held_drew (S:=fun w'=>Ext w10 w') (by kernel_rfl) (Ext.refl _).drew (fun hHeld=>?_)
          refine hQ 0 (v:=?_) rfl (y:=.inl ⟨by rfl,?_⟩) (h:=?_)
          rotate_left
          ·(intro w' hSw;(try dsimp only at hSw);have hS1:=hx110.trans hSw;go_simp;try with_reducible rfl)
          try simp only [Act.put,zA,zB,zC]
          refine hQ 1 (v:=?_) rfl (y:=.inl ⟨by rfl,?_⟩) (h:=?_)
          rotate_left
          ·(intro w' hSw;(try dsimp only at hSw);have hS1:=hx110.trans hSw;go_simp;try with_reducible rfl)
          try simp only [Act.put,zA,zB,zC]
          refine hQ 2 (v:=?_) rfl (y:=.inl ⟨by rfl,?_⟩) (h:=?_)
          rotate_left
          ·(intro w' hSw;(try dsimp only at hSw);have hS1:=hx110.trans hSw;go_simp;try with_reducible rfl)
          try simp only [Act.put,zA,zB,zC]
          refine hQ 3 (v:=?_) rfl (y:=.inl ⟨by rfl,?_⟩) (h:=?_)
          rotate_left
          ·(intro w' hSw;(try dsimp only at hSw);have hS1:=hx110.trans hSw;go_simp;try with_reducible rfl)
          try simp only [Act.put,zA,zB,zC]
          refine hQ 4 (v:=?_) rfl (y:=.inl ⟨by rfl,?_⟩) (h:=?_)
          rotate_left
          ·(intro w' hSw;(try dsimp only at hSw);have hS1:=hx110.trans hSw;go_simp;try with_reducible rfl)
          try simp only [Act.put,zA,zB,zC]
          refine hQ 5 (v:=?_) rfl (y:=.inl ⟨by rfl,?_⟩) (h:=?_)
          rotate_left
          ·(intro w' hSw;(try dsimp only at hSw);have hS1:=hx110.trans hSw;go_simp;try with_reducible rfl)
          try simp only [Act.put,zA,zB,zC]
          refine hQ 6 (v:=?_) rfl (y:=.inl ⟨by rfl,?_⟩) (h:=?_)
          rotate_left
          ·(intro w' hSw;(try dsimp only at hSw);have hS1:=hx110.trans hSw;go_simp;try with_reducible rfl)
          try simp only [Act.put,zA,zB,zC]
          refine wpAnyH_ready (rs:=[7]) (by kernel_rfl) (by simp) ?_
          refine AllReadyH.cons rfl (fun K hK=>?_) AllReadyH.nil
          go_simp
          go_at_call 157
          refine (HCH.out _ hxw10.drew).mono ?_
          rintro e w11 ⟨rfl,hx11'⟩
          have hx1011:Ext w10 w11:=(Ext.refl w10).drew.trans hx11'
          refine hK.out _ _ ?_ (fun hHeld2=>?_)
          ·exact hx1011
          clear hK K
          try simp only [Act.put,zA,zB,zC]
          refine hQ 8 (v:=?_) rfl (y:=.inl ⟨by rfl,?_⟩) (h:=?_)
          rotate_left
          ·(intro w' hSw;(try dsimp only at hSw);have hS1:=hx110.trans hSw;go_simp;try with_reducible rfl)
          try simp only [Act.put,zA,zB,zC]
          refine hQ 9 (v:=?_) rfl (y:=.inl ⟨by rfl,?_⟩) (h:=?_)
          rotate_left
          ·(intro w' hSw;(try dsimp only at hSw);have hS1:=hx110.trans hSw;go_simp;try with_reducible rfl)
          try simp only [Act.put,zA,zB,zC]
          refine wpAnyH_ready (rs:=[10]) (by kernel_rfl) (by simp) ?_
          refine AllReadyH.cons rfl (fun K hK=>?_) AllReadyH.nil
          go_simp
          refine hK.out _ _ ?_ (fun hHeld3=>?_)
          ·exact hx1011
          clear hK K
          try simp only [Act.put,zA,zB,zC]
          refine wpAnyH_done (by kernel_rfl) ?_ _
          clear hHeld hHeld2 hHeld3 l10 c10
          go_wp2_with fail
          go_roundg (j - (z+1))
          case rel=>exact ⟨z+1,by omega,rfl,by go_num,by rw [HST.out],hx910.trans hx1011⟩
          case measure=>omega
         ·have d5:(pp == (k:Int))=false:=by simpa using hpk
          have HST:=Lib.hid (Tr.wtJ_no (T:=T.toTr) (i:=i) (p:=k) (D.get hjs) (by rw [HP.out.2.2.2.2.1];exact HP.out.1) (by rw [HP.out.2.2.2.2.1];exact hpk))
          go_wp2_with fail
          go_roundg (j - (z+1))
          case rel=>exact ⟨z+1,by omega,rfl,by go_num,by rw [HST.out],hx910⟩
          case measure=>omega
        ·obtain rfl:z=j:=by omega
         rw [HWN.out]
         have hwa:=HWA.out z
         rw [HWN.out] at hwa
         have HIz:=Lib.hid (HI.out.ext hx9)
         have HO:=Lib.hid HIz.out.own
         have HB5:=Lib.hid (show b6<wr.heap.size from HIz.out.h5.lt)
         obtain ⟨l6,c6',f6,_⟩:=HIz.out.h5.box
         have hrr:Ext wr wr:=Ext.refl _
         obtain ⟨wk,hwk'⟩:∃ z',z'=T.toTr.wt D.l k i:=⟨_,rfl⟩
         rw [←hwk'] at hwa HMX ⊢
         have HWK:=Lib.hid (show wk=T.wfn D.l (tott T.en k+i) from hwk'.trans (Tr.wfn_at hlt hli).symm)
         obtain ⟨nu,hnu⟩:∃ z',z'=tott T.en k+i:=⟨_,rfl⟩
         have hnu5:nu≤512:=by
          have h1:=tott_lt T.en hlt hli
          have h2:=tott_tot T.en T.n
          have h3:=HTN.out
          omega
         rw [←hnu] at HIz HO HWK c6'
         have HNU:=Lib.hid hnu
         have hia:=iabs_of hwa
         have hab:=fun W=>sabs_any wk W (by omega) (by omega)
         have HAB:=Lib.hid hab
         clear hwk' hlz hnu hab
         go_upto_region 32 with (at_builtin;refine wpList_append_own _ rfl _ _ 28 rfl (b6+1) 3 j0 (.int .i64 0) 1 8 Tryz.underlying28 hj0 hy0 hy1 hy2 rfl (by decide) (.slice a6 nu c6) nu (intCells (rowL (T.wfn D.l) nu)) rfl (by exact own_ext HO.out (Ext.alloc _ _)) ⟨wr.heap.size,0,none⟩ 1 1 [.int .i64 wk] rfl rfl (by exact news_ok wr [_] _) (one_int _) (by unfold maxLen;omega) (by omega) (by rw [World.size_alloc];have:=HB5.out;omega) ?_;rintro v6 w11 hown6 hg6 -;obtain ⟨a9,c9,rfl⟩:=own_form hown6;have HP:=Lib.hid (OpI.push HIz.out (Ext.alloc _ _) (by rw [←HWK.out];exact hown6) hg6);clear hown6 hg6;obtain ⟨l11,c11,f11,_⟩:=HP.out.1.box;have hx66:Ext w11 w11:=Ext.refl _)
         refine setq1 (G:=fun x=>Code.wp _ _ _ _ x) ?_
         intro w12 hw12
         have HI12:=Lib.hid (show OpI w5 b6 (.slice (some ⟨T.b,T.off,none⟩) T.n T.cap) (.slice da z D.s.c) bg (T.wfn D.l) (nu+1) (.slice a9 (nu+1) c9) w12 from by rw [hw12];exact HP.out.2)
         have hx112:=hx15.trans HI12.out.hx
         have hx012:=hxw5.trans HI12.out.hx
         clear hw12 l11 c11 f11 hx66 l6 c6' f6 HP hrr
         have hw4:IntKind.i64.wrap (mi+iabs wk)=mi+iabs wk:=IntWalk.i64_in _ (by omega)
         go_wp2_with fail
         go_at_call 156
         refine (HAB.out _).mono ?_
         rintro e w13 ⟨rfl,rfl⟩
         generalize iabs wk=aw at hia hw4 HMX ⊢
         by_cases hbig:562949953421312<mi+aw
         ·have d6:decide (562949953421312<mi+aw)=true:=decide_eq_true hbig
          have HK:=Lib.hid (Hold.ext k1 hx112)
          go_wp2_with fail
          refine bodyPost_ret (sof_results _ _ _ _ _ _ _ _ rfl rfl ((Hold.set (Hold.set (Hold.set (Hold.set HK.out 0 _) 1 _) 2 _) 3 _).cell0 0) ((Hold.set (Hold.set (Hold.set (Hold.set HK.out 0 _) 1 _) 2 _) 3 _).cell0 1) ((Hold.set (Hold.set (Hold.set (Hold.set HK.out 0 _) 1 _) 2 _) 3 _).cell0 2) ((Hold.set (Hold.set (Hold.set (Hold.set HK.out 0 _) 1 _) 2 _) 3 _).cell0 3)) rfl ?_
          refine ⟨(((hx012.setCell (by show w.heap.size≤w.heap.size+1;omega) _).setCell (by show w.heap.size≤w.heap.size+1;omega) _).setCell (by show w.heap.size≤w.heap.size+1;omega) _).setCell (by show w.heap.size≤w.heap.size+1;omega) _,.inl ⟨_,by decide,(.inr (.inr (.inr (.inr (.inl ⟨HV.out,HL64.out,HKN.out,HCF.out,fun h=>absurd h.2 (by have h1:=HLE.out;have h2:=HMX.out;omega),rfl⟩))))),rfl⟩⟩
         ·have d6:decide (562949953421312<mi+aw)=false:=decide_eq_false hbig
          go_wp2_with fail
          go_roundg (T.en k - (i+1))
          case rel=>exact ⟨i+1,_,by omega,rfl,by go_num,by rw [HMX.out],by rw [HMX.out];omega,by have h9:=HI12.out;rw [HNU.out] at h9;exact h9⟩
          case measure=>omega
      ·obtain rfl:i=T.en k:=by omega
       go_wp2_with fail
       go_roundg (T.n - (k+1))
       case rel=>exact ⟨k+1,_,by omega,rfl,by go_num,by rw [Tr.mass_end],by rw [Tr.mass_end];exact hmi,HI.out⟩
       case measure=>omega
    ·obtain rfl:k=T.n:=by omega
     obtain ⟨mn,hmn⟩:∃ z,z=T.toTr.mass D.l T.n 0:=⟨_,rfl⟩
     have HMM:=Lib.hid hmn
     rw [←hmn] at hm ⊢
     obtain ⟨a6,c6,rfl⟩:=own_form HI.out.own
     have hm0:0≤mn:=by rw [hmn];exact HMN.out _ _
     clear hmn
     by_cases hbig:562949953421312<mn
     ·have d6:decide (562949953421312<mn)=true:=decide_eq_true hbig
      have HK:=Lib.hid (Hold.ext k1 hx1r)
      go_wp2_with fail
      refine bodyPost_ret (sof_results _ _ _ _ _ _ _ _ rfl rfl ((Hold.set (Hold.set (Hold.set (Hold.set HK.out 0 _) 1 _) 2 _) 3 _).cell0 0) ((Hold.set (Hold.set (Hold.set (Hold.set HK.out 0 _) 1 _) 2 _) 3 _).cell0 1) ((Hold.set (Hold.set (Hold.set (Hold.set HK.out 0 _) 1 _) 2 _) 3 _).cell0 2) ((Hold.set (Hold.set (Hold.set (Hold.set HK.out 0 _) 1 _) 2 _) 3 _).cell0 3)) rfl ?_
      refine ⟨(((hxr.setCell (by show w.heap.size≤w.heap.size+1;omega) _).setCell (by show w.heap.size≤w.heap.size+1;omega) _).setCell (by show w.heap.size≤w.heap.size+1;omega) _).setCell (by show w.heap.size≤w.heap.size+1;omega) _,.inl ⟨_,by decide,(.inr (.inr (.inr (.inr (.inl ⟨HV.out,HL64.out,HKN.out,HCF.out,fun h=>absurd h.2 (by rw [←HMM.out];omega),rfl⟩))))),rfl⟩⟩
     ·have d6:decide (562949953421312<mn)=false:=decide_eq_false hbig
      have HOK:=Lib.hid (show T.SumOk D.l from ⟨HV.out,HL64.out,HKN.out,HCF.out,by rw [←HTN.out];omega,by rw [←HMM.out];omega⟩)
      obtain ⟨l6,c6',f6,k6⟩:=HI.out.h5.box
      have hrr:Ext wr wr:=Ext.refl _
      have HK:=Lib.hid (Hold.ext k1 hx1r)
      obtain ⟨ra,rg,ro,rc,hv,hrc,hra,hrq⟩:=(Que.own HI.out.own).cells1
      have HRA:=Lib.hid (And.intro hra hrq)
      cases hv
      clear hra hrq
      go_wp2_with fail
      refine bodyPost_ret (sof_results _ _ _ _ _ _ _ _ rfl rfl ((Hold.set (Hold.set (Hold.set (Hold.set HK.out 0 _) 1 _) 2 _) 3 _).cell0 0) ((Hold.set (Hold.set (Hold.set (Hold.set HK.out 0 _) 1 _) 2 _) 3 _).cell0 1) ((Hold.set (Hold.set (Hold.set (Hold.set HK.out 0 _) 1 _) 2 _) 3 _).cell0 2) ((Hold.set (Hold.set (Hold.set (Hold.set HK.out 0 _) 1 _) 2 _) 3 _).cell0 3)) rfl ?_
      have hxx:=(((hxr.setCell (p:=⟨w.heap.size+1,0,none⟩) (by show w.heap.size≤w.heap.size+1;omega) (.slice ta T.n T.cap)).setCell (p:=⟨w.heap.size+1,1,none⟩) (by show w.heap.size≤w.heap.size+1;omega) (.slice da j D.s.c)).setCell (p:=⟨w.heap.size+1,2,none⟩) (by show w.heap.size≤w.heap.size+1;omega) (.slice a6 (tott T.en T.n) c6)).setCell (p:=⟨w.heap.size+1,3,none⟩) (by show w.heap.size≤w.heap.size+1;omega) (.int .i64 bg)
      refine ⟨hxx,.inr ⟨HOK.out,a6,rg,ro,c6,?_,?_⟩⟩
      ·rw [←HBG.out];rfl
      ·have hpos:∀ {z:Nat},z<tott T.en T.n→0<tott T.en T.n:=fun h=>by omega
       refine ⟨HT.out.ext hxx,HV.out,Tr.wfn_ok HOK.out,fun h=>(HRA.out.1 h).1,fun h=>?_,fun q hq=>?_⟩
       ·simp only [World.size_setCell];exact (HRA.out.1 h).2.2
       ·have hne:rg≠w.heap.size+1:=by have:=(HRA.out.1 (hpos hq)).2.1;have:=HB6.out;omega
        rw [cell_set_other _ _ _ _ _ (by show rg≠w.heap.size+1;exact hne),cell_set_other _ _ _ _ _ (by show rg≠w.heap.size+1;exact hne),cell_set_other _ _ _ _ _ (by show rg≠w.heap.size+1;exact hne),cell_set_other _ _ _ _ _ (by show rg≠w.heap.size+1;exact hne)]
        exact (HRA.out.2 q hq).trans (rowL_get _ hq)
noncomputable abbrev sumOf (T:TM) (D:TmD) (wa:Option Addr) (wg wo wc:Nat):SumM:=⟨T,.slice D.s.a D.s.n D.s.c,wa,wg,wo,wc,T.wfn D.l,T.sumAt D.l fun _=>0⟩
abbrev sumV (T:TM) (D:TmD) (wa:Option Addr) (wc:Nat) (b:Int):Value:=.agg #[.slice T.a T.n T.cap,.slice D.s.a D.s.n D.s.c,.slice wa (tott T.en T.n) wc,.int .i64 b]
theorem sof2_any' (w : World) (T : TM) (hT : T.At w) (D : TmD) (hD : D.At w) : Calls Tryz.prog 78 #[.agg #[.slice T.a T.n T.cap], .slice D.s.a D.s.n D.s.c] w fun e w' => Ext w w' ∧ ((∃ c : Int, (c = 1 ∨ c = 5 ∨ c = 13 ∨ c = 2 ∨ c = 9) ∧ T.SumFault D.l c ∧ e = .returned (.tuple #[.agg #[.slice none 0 0, .slice none 0 0, .slice none 0 0, .int .i64 0], .int .i64 c])) ∨
    (T.SumOk D.l∧∃ wa wg wo wc,e=.returned (.tuple #[sumV T D wa wc (T.sumAt D.l fun _=>0),.int .i64 0])∧(sumOf T D wa wg wo wc).At w')):=
 (sof_any w T hT D hD).mono fun e w' ⟨hx,h⟩=>⟨hx,by
  rcases h with ⟨c,hc,hF,he⟩ | ⟨hO,wa,wg,wo,wc,he,hS⟩
  ·refine .inl ⟨c,?_,hF,he⟩
   rcases hF with ⟨_,rfl⟩ | ⟨_,_,rfl⟩ | ⟨_,_,_,rfl⟩ | ⟨_,_,_,_,rfl⟩ | ⟨_,_,_,_,_,rfl⟩ | ⟨_,rfl⟩
   ·exact .inl rfl
   ·exact .inr (.inl rfl)
   ·exact .inr (.inr (.inl rfl))
   ·exact .inr (.inr (.inr (.inl rfl)))
   ·exact .inr (.inr (.inr (.inr rfl)))
   ·exact absurd rfl hc
  ·exact .inr ⟨hO,wa,wg,wo,wc,he,hS⟩⟩
def SmaxPost (T:TM) (D:TmD) (w:World) (e:Ending) (w':World):Prop:=Ext w w'∧((∃ c:Int,T.SumFault D.l c∧c≠0∧e=.returned (.tuple #[.int .i64 0,.slice none 0 0,.int .i64 c]))∨
 (T.SumOk D.l∧∃ (v:Int) (c:Nat→Nat) (g:Nat),e=.returned (.tuple #[.int .i64 v,.slice (some ⟨g,0,none⟩) T.n T.n,.int .i64 0])∧IntRow w' g T.n (fun p=>(c p:Int))∧w.heap.size≤g∧T.toTr.Best (T.sumAt D.l fun _=>0) (T.wfn D.l) v c))
def SminPost (T:TM) (D:TmD) (w:World) (e:Ending) (w':World):Prop:=Ext w w'∧((∃ c:Int,T.SumFault D.l c∧c≠0∧e=.returned (.tuple #[.int .i64 0,.slice none 0 0,.int .i64 c]))∨
 (T.SumOk D.l∧∃ (v:Int) (c:Nat→Nat) (g:Nat),e=.returned (.tuple #[.int .i64 (- v),.slice (some ⟨g,0,none⟩) T.n T.n,.int .i64 0])∧IntRow w' g T.n (fun p=>(c p:Int))∧w.heap.size≤g∧T.toTr.Best (- T.sumAt D.l fun _=>0) (fun v=>- T.wfn D.l v) v c))
set_option maxHeartbeats 2000000 in
theorem smax_any (w:World) (T:TM) (hT:T.At w) (D:TmD) (hD:D.At w):Calls Tryz.prog 17 #[T.val,.slice D.s.a D.s.n D.s.c] w (SmaxPost T D w):=by
 have HOF:=Lib.hid (fun W (h:Ext w W)=>sof2_any' W T (hT.ext h) D (hD.ext h))
 unfold SmaxPost
 obtain ⟨da,hda⟩:∃ z,z=D.s.a:=⟨_,rfl⟩
 have HDA:=Lib.hid hda
 obtain ⟨ta,hta⟩:∃ z,z=T.a:=⟨_,rfl⟩
 have HTA:=Lib.hid hta
 simp only [TM.val]
 rw [←hda,←hta]
 clear hT hD hda hta
 go_enter Tryz.func17,Tryz.ntmps17
 go_upto_region 1 with fail
 refine boxed1 (w:=w) (G:=fun x=>Code.wp _ _ _ _ x) ?_
 intro w1 hx1 hs1 ⟨l0,c0,_,_⟩
 have hx11:Ext w1 w1:=Ext.refl _
 clear hs1
 have hof:=HOF.out w1 hx1
 rw [←HDA.out,←HTA.out] at hof
 go_wp2_with fail
 go_at_call 78
 refine hof.mono ?_
 rintro e w2 ⟨hx2,hr⟩
 clear hof
 rcases hr with ⟨c,hc,hF,rfl⟩ | ⟨hO,wa,wg,wo,wc,rfl,hS⟩
 ·skip
  go_upto_region 2 with fail
  refine boxed1 (w:=w2) (G:=fun x=>Code.wp _ _ _ _ x) ?_
  intro w3 hx3 hs3 ⟨l3,c3,_,_⟩
  have hx33:Ext w3 w3:=Ext.refl _
  have hxw3:=(hx1.trans hx2).trans hx3
  have hx13:=hx2.trans hx3
  clear hs3
  have HF:=Lib.hid hF
  clear hF
  rcases hc with rfl | rfl | rfl | rfl | rfl <;> (go_wp2_with fail;go_ret3;exact ⟨hxw3,.inl ⟨_,HF.out,by decide,rfl⟩⟩)
 ·obtain ⟨m,hm⟩:∃ m,m=tott T.en T.n:=⟨_,rfl⟩
  obtain ⟨b,hb⟩:∃ b,b=T.toTr.sumAt D.l (fun _=>0):=⟨_,rfl⟩
  have hgr:=fun W (h:Ext w2 W)=>(show Calls Tryz.prog 79 #[sumV T D wa wc (T.sumAt D.l fun _=>0)] W (SgrPost (sumOf T D wa wg wo wc) W) from sgreat_any W _ (hS.ext h))
  simp only [sumV] at hgr ⊢
  rw [←hm,←hb,←HDA.out,←HTA.out] at hgr
  rw [←hm,←hb,←HDA.out,←HTA.out]
  have HGR:=Lib.hid hgr
  have HO:=Lib.hid hO
  clear hgr hS hm hb hO
  go_upto_region 2 with fail
  refine boxed1 (w:=w2) (G:=fun x=>Code.wp _ _ _ _ x) ?_
  intro w3 hx3 hs3 ⟨l3,c3,_,_⟩
  have hx33:Ext w3 w3:=Ext.refl _
  have hxw3:=(hx1.trans hx2).trans hx3
  have hx13:=hx2.trans hx3
  clear hs3
  go_wp2_with fail
  go_at_call 79
  refine (HGR.out w3 hx3).mono ?_
  rintro e w4 ⟨hx4,v,c,g,rfl,hrow,hg,hbest⟩
  have hxw4:=hxw3.trans hx4
  have hx14:=hx13.trans hx4
  have HR:=Lib.hid (And.intro hrow (And.intro hg hbest))
  clear hrow hg hbest l3 c3 hx33
  go_wp2_with fail
  go_ret3
  exact ⟨hxw4,.inr ⟨HO.out,v,c,g,rfl,HR.out.1,by have:=HR.out.2.1;have:=hxw3.le;omega,HR.out.2.2⟩⟩
set_option maxHeartbeats 2000000 in
theorem smin_any (w:World) (T:TM) (hT:T.At w) (D:TmD) (hD:D.At w):Calls Tryz.prog 18 #[T.val,.slice D.s.a D.s.n D.s.c] w (SminPost T D w):=by
 have HOF:=Lib.hid (fun W (h:Ext w W)=>sof2_any' W T (hT.ext h) D (hD.ext h))
 unfold SminPost
 obtain ⟨da,hda⟩:∃ z,z=D.s.a:=⟨_,rfl⟩
 have HDA:=Lib.hid hda
 obtain ⟨ta,hta⟩:∃ z,z=T.a:=⟨_,rfl⟩
 have HTA:=Lib.hid hta
 simp only [TM.val]
 rw [←hda,←hta]
 clear hT hD hda hta
 go_enter Tryz.func18,Tryz.ntmps18
 go_upto_region 1 with fail
 refine boxed1 (w:=w) (G:=fun x=>Code.wp _ _ _ _ x) ?_
 intro w1 hx1 hs1 ⟨l0,c0,_,_⟩
 have hx11:Ext w1 w1:=Ext.refl _
 clear hs1
 have hof:=HOF.out w1 hx1
 rw [←HDA.out,←HTA.out] at hof
 go_wp2_with fail
 go_at_call 78
 refine hof.mono ?_
 rintro e w2 ⟨hx2,hr⟩
 clear hof
 rcases hr with ⟨c,hc,hF,rfl⟩ | ⟨hO,wa,wg,wo,wc,rfl,hS⟩
 ·skip
  go_upto_region 2 with fail
  refine boxed1 (w:=w2) (G:=fun x=>Code.wp _ _ _ _ x) ?_
  intro w3 hx3 hs3 ⟨l3,c3,_,_⟩
  have hx33:Ext w3 w3:=Ext.refl _
  have hxw3:=(hx1.trans hx2).trans hx3
  have hx13:=hx2.trans hx3
  clear hs3
  have HF:=Lib.hid hF
  clear hF
  rcases hc with rfl | rfl | rfl | rfl | rfl <;> (go_wp2_with fail;go_ret3;exact ⟨hxw3,.inl ⟨_,HF.out,by decide,rfl⟩⟩)
 ·obtain ⟨m,hm⟩:∃ m,m=tott T.en T.n:=⟨_,rfl⟩
  obtain ⟨b,hb⟩:∃ b,b=T.toTr.sumAt D.l (fun _=>0):=⟨_,rfl⟩
  have hgr:=fun W (h:Ext w2 W)=>(show Calls Tryz.prog 80 #[sumV T D wa wc (T.sumAt D.l fun _=>0)] W (SleastPost (sumOf T D wa wg wo wc) W) from sleast_any W _ (hS.ext h))
  simp only [sumV] at hgr ⊢
  rw [←hm,←hb,←HDA.out,←HTA.out] at hgr
  rw [←hm,←hb,←HDA.out,←HTA.out]
  have HGR:=Lib.hid hgr
  have HO:=Lib.hid hO
  clear hgr hS hm hb hO
  go_upto_region 2 with fail
  refine boxed1 (w:=w2) (G:=fun x=>Code.wp _ _ _ _ x) ?_
  intro w3 hx3 hs3 ⟨l3,c3,_,_⟩
  have hx33:Ext w3 w3:=Ext.refl _
  have hxw3:=(hx1.trans hx2).trans hx3
  have hx13:=hx2.trans hx3
  clear hs3
  go_wp2_with fail
  go_at_call 80
  refine (HGR.out w3 hx3).mono ?_
  rintro e w4 ⟨hx4,v,c,g,rfl,hrow,hg,hbest⟩
  have hxw4:=hxw3.trans hx4
  have hx14:=hx13.trans hx4
  have HR:=Lib.hid (And.intro hrow (And.intro hg hbest))
  clear hrow hg hbest l3 c3 hx33
  go_wp2_with fail
  go_ret3
  exact ⟨hxw4,.inr ⟨HO.out,v,c,g,rfl,HR.out.1,by have:=HR.out.2.1;have:=hxw3.le;omega,HR.out.2.2⟩⟩
set_option maxHeartbeats 400000 in
theorem sunit1_any (x:Int) (h:x.natAbs≤4611686018427387904) (w:World):Calls Tryz.prog 163 #[.int .i64 x] w fun e w'=>e=.returned (.bool (decide (1<iabs x)))∧Ext w w':=by
 have ha:=sabs_any x w (by omega) (by omega)
 go_enter Tryz.func163,Tryz.ntmps163
 go_wp2_with fail
 go_at_call 156
 refine ha.mono ?_
 rintro e w1 ⟨rfl,rfl⟩
 go_wp2_with fail
 go_ret
 exact ⟨rfl,Ext.refl _⟩
set_option maxHeartbeats 1000000 in
theorem sunit_any (W:World) (S:SumM) (hS:S.At W):Calls Tryz.prog 89 #[S.val] W fun e w'=>e=.returned (.bool (!anyB (fun i=>decide (1<iabs (S.w i))) S.m))∧Ext W w':=by
 have hm5:S.m≤510:=hS.ok.few
 have hc:=fun w1 (hx:Ext W w1)=>has_int w1 S.wa S.wg S.wo S.m S.wc (fun i=>.int .i64 (S.w i)) 163 #[] (fun i=>decide (1<iabs (S.w i))) (by omega) hS.pa (fun w' h i hi=>(hx.trans h).cell (hS.c i hi)) (enters_of Tryz.func163 (by kernel_rfl) rfl)
  (fun i hi w' h=>sunit1_any (S.w i) (by have:=hS.ok.w hi;omega) w')
 obtain ⟨T,tv,wa,wg,wo,wc,w,b⟩:=S
 simp only [SumM.val] at *
 have HC:=Lib.hid hc
 generalize (anyB (fun i=>decide (1<iabs (w i))) (SumM.m ⟨T,tv,wa,wg,wo,wc,w,b⟩))=r at HC ⊢
 clear hS hc
 generalize SumM.m ⟨T,tv,wa,wg,wo,wc,w,b⟩=m at *
 go_enter Tryz.func89,Tryz.ntmps89
 go_upto_region 1 with fail
 refine boxed1 (w:=W) (G:=fun x=>Code.wp _ _ _ _ x) ?_
 intro w1 hx1 hs1 ⟨l0,c0,_,_⟩
 have hx11:Ext w1 w1:=Ext.refl _
 clear hs1
 go_wp2_with fail
 go_at_call 65
 refine (HC.out w1 hx1).mono ?_
 rintro e w2 ⟨rfl,hx2⟩
 have hxw2:=hx1.trans hx2
 go_wp2_with fail
 go_ret
 exact ⟨rfl,hxw2⟩
end Go.Proofs.YtnknkkmdbnaglaaGreat
