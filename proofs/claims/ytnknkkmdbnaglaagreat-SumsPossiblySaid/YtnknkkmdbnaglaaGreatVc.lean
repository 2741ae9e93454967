/- Contracts and laws in plain Lean for SPos: group Vc. -/
import Derived.Test.YtnknkkmdbnaglaaGreatVb
set_option maxRecDepth 100000
namespace Go.Proofs.YtnknkkmdbnaglaaGreat
open Go.RowKit Go.Shelf
def YesE (n g:Nat) (e:Ending):Prop:=e=.returned (.tuple #[ansV 1 true 1 (.slice (some ⟨g,0,none⟩) n n) 0,.int .i64 0])
def NoE (n g:Nat) (v:Int) (e:Ending):Prop:=e=.returned (.tuple #[ansV 1 false 5 (.slice (some ⟨g,0,none⟩) n n) v,.int .i64 0])
abbrev EqQ:=Nat→Int→Bool→Int→Option Addr→Nat→Nat→Int→World→Prop
def PossOut (op k low high:Int) (n g1 g2:Nat) (Q:EqQ) (e:Ending) (w':World):Prop:=
 ((op=11∨op=12)∧(low<k∨op=12∧low=k)∧YesE n g1 e)∨
 ((op=11∨op=12)∧¬(low<k∨op=12∧low=k)∧NoE n g1 low e)∨
 (op=10∧low≠k∧YesE n g1 e)∨(op=10∧low=k∧high≠k∧YesE n g2 e)∨(op=10∧low=k∧high=k∧∃ g0,IntRow w' g0 n (fun _=>0)∧NoE n g0 k e)∨
 (op=9∧low=k∧YesE n g1 e)∨(op=9∧low≠k∧high=k∧YesE n g2 e)∨(op=9∧k<low∧high≠k∧NoE n g1 low e)∨(op=9∧low<k∧high<k∧NoE n g2 high e)∨
 (op=9∧low<k∧k<high∧∃ (B:Nat) (m:Int) (h:Bool) (kd:Int) (a:Option Addr) (l c:Nat) (er:Int),e=.returned (.tuple #[ansV m h kd (.slice a l c) 0,.int .i64 er])∧Q B m h kd a l c er w')∨
 (op≠9∧op≠10∧op≠11∧op≠12∧e=.returned (.tuple #[ansV 0 false 0 (.slice none 0 0) 0,.int .i64 3]))
def EqlPost (Q:EqQ) (w:World) (e:Ending) (w':World):Prop:=Ext w w'∧∃ (m:Int) (h:Bool) (kd:Int) (a:Option Addr) (l c:Nat) (er:Int),e=.returned (.tuple #[ansV m h kd (.slice a l c) 0,.int .i64 er])∧Q w.heap.size m h kd a l c er w'
def SpossPost (T:TM) (D:TmD) (op k:Int) (Q:EqQ) (w:World) (e:Ending) (w':World):Prop:=Ext w w'∧((∃ c:Int,T.SumFault D.l c∧c≠0∧e=.returned (.tuple #[ansV 0 false 0 (.slice none 0 0) 0,.int .i64 c]))∨
 (T.SumOk D.l∧∃ (v1 v2:Int) (d1 d2:Nat→Nat) (g1 g2:Nat),T.toTr.Best (- T.sumAt D.l fun _=>0) (fun v=>- T.wfn D.l v) v1 d1∧T.toTr.Best (T.sumAt D.l fun _=>0) (T.wfn D.l) v2 d2∧IntRow w' g1 T.n (natV d1)∧IntRow w' g2 T.n (natV d2)∧PossOut op k (- v1) v2 T.n g1 g2 Q e w'))
theorem poss_results (tmps : Array Value) (W : World) (b : Nat) (u x0 x1 x2 x3 x4 x5 x6 x7 : Value) (t8 : tmps[8]? = some (.pointer (some ⟨b, 0, none⟩))) (t9 : tmps[9]? = some u) (h : Hold W b #[x0, x1, x2, x3, x4, x5, x6, x7]) :
    (results Tryz.f71 tmps).run Tryz.prog W=.ok (.tuple #[.agg #[x0,x1,x2,x3,x4,x5,x6,x7],u]) W:=by
 have c0:=h.cell0 0
 have c1:=h.cell0 1
 have c2:=h.cell0 2
 have c3:=h.cell0 3
 have c4:=h.cell0 4
 have c5:=h.cell0 5
 have c6:=h.cell0 6
 have c7:=h.cell0 7
 simp at c0 c1 c2 c3 c4 c5 c6 c7
 simp [results,Tryz.results71,go_sem,t8,t9,c0,c1,c2,c3,c4,c5,c6,c7]
set_option maxHeartbeats 8000000 in
theorem sposs_any (w : World) (T : TM) (hT : T.At w) (D : TmD) (hD : D.At w) (op k : Int) (Q : EqQ)
    (hEQ:T.SumOk D.l→∀ (wa:Option Addr) (wg wo wc:Nat) (W:World),(sumOf T D wa wg wo wc).At W→Calls Tryz.prog 145 #[sumV T D wa wc (T.sumAt D.l fun _=>0),.int .i64 k] W (EqlPost Q W))
    (hQ:∀ B m h kd a l c er w1 b v0 v1 v2 v3 v4 v5 v6 v7,b<B→Q B m h kd a l c er w1→Q B m h kd a l c er (put8 w1 b v0 v1 v2 v3 v4 v5 v6 v7)) :
    Calls Tryz.prog 71 #[T.val,.slice D.s.a D.s.n D.s.c,.int .i64 op,.int .i64 k] w (SpossPost T D op k Q w):=by
 obtain ⟨j0,hj0,hy0,hy1,hy2⟩:=info_parts infoInt
 have HOF:=Lib.hid (fun W (h:Ext w W)=>sof2_any' W T (hT.ext h) D (hD.ext h))
 have HEQ:=Lib.hid hEQ
 have HQ:=Lib.hid hQ
 unfold SpossPost
 have HVA:=Lib.hid (fun (hO:T.SumOk D.l)=>(And.intro (show T.a=some ⟨T.b,T.off,none⟩ from hT.P.pa (by have:=hO.v.n1;omega)) (And.intro hO.v.n8 hO.v.n1)))
 obtain ⟨da,hda⟩:∃ z,z=D.s.a:=⟨_,rfl⟩
 have HDA:=Lib.hid hda
 obtain ⟨ta,hta⟩:∃ z,z=T.a:=⟨_,rfl⟩
 have HTA:=Lib.hid hta
 simp only [TM.val]
 rw [←hda,←hta]
 clear hT hD hda hta hEQ hQ
 go_enter Tryz.func71,Tryz.ntmps71
 go_upto_region 1 with fail
 refine boxed2 (w:=w) (G:=fun x=>Code.wp _ _ _ _ x) ?_
 intro w1 hx1 hs1 ⟨l0,c0,_,_⟩ ⟨l1,c1,f1,k1⟩
 have hx11:Ext w1 w1:=Ext.refl _
 have HKB:=Lib.hid (show Hold w1 (w.heap.size+1) #[.int .i64 0,.bool false,.int .i64 0,.slice none 0 0,.slice none 0 0,.slice none 0 0,.slice none 0 0,.int .i64 0] from k1)
 have HS1:=Lib.hid hs1
 clear hs1 k1
 have hof:=HOF.out w1 hx1
 rw [←HDA.out,←HTA.out] at hof
 go_wp2_with fail
 go_at_call 78
 refine hof.mono ?_
 rintro e w2 ⟨hx2,hr⟩
 clear hof
 rcases hr with ⟨c,hc,hF,rfl⟩ | ⟨hO,wa,wg,wo,wc,rfl,hS⟩
 ·go_upto_region 2 with fail
  refine boxed1 (w:=w2) (G:=fun x=>Code.wp _ _ _ _ x) ?_
  intro w3 hx3 hs3 ⟨l3,c3,_,_⟩
  have hx33:Ext w3 w3:=Ext.refl _
  have hxw3:=(hx1.trans hx2).trans hx3
  have hx13:=hx2.trans hx3
  clear hs3
  have HF:=Lib.hid hF
  have HK9:=Lib.hid (Hold.all8 (Hold.ext HKB.out hx13) (.int .i64 0) (.bool false) (.int .i64 0) (.slice none 0 0) (.slice none 0 0) (.slice none 0 0) (.slice none 0 0) (.int .i64 0))
  have HX9:=Lib.hid hxw3
  clear hF
  rcases hc with rfl | rfl | rfl | rfl | rfl <;> (go_wp2_with fail;refine bodyPost_ret (poss_results _ _ (w.heap.size+1) _ _ _ _ _ _ _ _ _ rfl rfl HK9.out) rfl ?_;exact ⟨HX9.out.put8 (by omega) _ _ _ _ _ _ _ _,.inl ⟨_,HF.out,by decide,rfl⟩⟩)
 ·obtain ⟨m,hm⟩:∃ m,m=tott T.en T.n:=⟨_,rfl⟩
  obtain ⟨b,hb⟩:∃ b,b=T.toTr.sumAt D.l (fun _=>0):=⟨_,rfl⟩
  have hle:=fun W (h:Ext w2 W)=>(show Calls Tryz.prog 80 #[sumV T D wa wc (T.sumAt D.l fun _=>0)] W (SleastPost (sumOf T D wa wg wo wc) W) from sleast_any W _ (hS.ext h))
  have hgr:=fun W (h:Ext w2 W)=>(show Calls Tryz.prog 79 #[sumV T D wa wc (T.sumAt D.l fun _=>0)] W (SgrPost (sumOf T D wa wg wo wc) W) from sgreat_any W _ (hS.ext h))
  have heq:=fun W (h:Ext w2 W)=>HEQ.out hO wa wg wo wc W (hS.ext h)
  obtain ⟨hpa,hn8,hn1⟩:=HVA.out hO
  simp only [sumV] at hle hgr heq ⊢
  rw [←hm,←hb,←HDA.out,←HTA.out] at hle hgr heq
  rw [←hm,←hb,←HDA.out,←HTA.out]
  have HLE:=Lib.hid hle
  have HGR:=Lib.hid hgr
  have HEQ2:=Lib.hid heq
  have HO:=Lib.hid hO
  clear hle hgr heq hS hm hb hO hpa
  go_upto_region 2 with fail
  refine boxed1 (w:=w2) (G:=fun x=>Code.wp _ _ _ _ x) ?_
  intro w3 hx3 hs3 ⟨l3,c3,_,_⟩
  have hx33:Ext w3 w3:=Ext.refl _
  have hxw3:=(hx1.trans hx2).trans hx3
  have hx13:=hx2.trans hx3
  clear hs3
  go_wp2_with fail
  go_at_call 80
  refine (HLE.out w3 hx3).mono ?_
  rintro e w4 ⟨hx4,v1,y1,g1,rfl,hr1,hg1,hb1⟩
  have hx34:=hx4
  have hx14:=hx13.trans hx4
  have HB1:=Lib.hid hb1
  have HR1':=Lib.hid hr1
  have HG1:=Lib.hid hg1
  clear hb1 hr1 hg1
  go_wp2_with fail
  go_at_call 79
  refine (HGR.out w4 (hx3.trans hx4)).mono ?_
  rintro e w6 ⟨hx6,v2,y2,g2,rfl,hr2,hg2,hb2⟩
  have hx36:=hx34.trans hx6
  have hx16:=hx14.trans hx6
  have hx26:=hx3.trans hx36
  have hxw6:=hx1.trans hx16
  have HB2:=Lib.hid hb2
  have HR2:=Lib.hid hr2
  have HR1:=Lib.hid (HR1'.out.ext hx6)
  have HGS:=Lib.hid (show w.heap.size+2≤g1∧w.heap.size+2≤g2 from ⟨by have:=HG1.out;have:=HS1.out;have:=hx13.le;omega,by have:=hg2;have:=HS1.out;have:=hx14.le;omega⟩)
  obtain ⟨low,hlow⟩:∃ z,z=- v1:=⟨_,rfl⟩
  rw [←hlow]
  have HLOW:=Lib.hid hlow
  clear hb2 hr2 hg2 hx4 hx34 hx14 hx6 hlow
  by_cases ho:op=11∨op=12
  ·have o9:op≠9:=by omega
   by_cases h1:low<k∨op=12∧low=k
   ·rcases ho with rfl | rfl
    ·have d1:decide (low<k)=true:=decide_eq_true (by omega)
     go_wp2_with fail
     go_at_call 143
     refine (syes_any _ _ _ _).mono ?_
     rintro e w9 ⟨rfl,hx9⟩
     have hx19:=hx16.trans hx9
     have HK9:=Lib.hid (Hold.all8 (Hold.ext HKB.out hx19) (.int .i64 1) (.bool true) (.int .i64 1) (.slice (some ⟨g1,0,none⟩) T.n T.n) (.slice none 0 0) (.slice none 0 0) (.slice none 0 0) (.int .i64 0))
     have HX9:=Lib.hid (hxw6.trans hx9)
     have HX69:=Lib.hid hx9
     go_wp2_with fail
     refine bodyPost_ret (poss_results _ _ (w.heap.size+1) _ _ _ _ _ _ _ _ _ rfl rfl HK9.out) rfl ?_
     exact ⟨HX9.out.put8 (by omega) _ _ _ _ _ _ _ _,.inr ⟨HO.out,v1,v2,y1,y2,g1,g2,HB1.out,HB2.out,(HR1.out.ext HX69.out).put8 _ _ _ _ _ _ _ _ _ (by have:=HGS.out.1;omega),(HR2.out.ext HX69.out).put8 _ _ _ _ _ _ _ _ _ (by have:=HGS.out.2;omega),by rw [←HLOW.out];exact (.inl ⟨.inl rfl,h1,rfl⟩)⟩⟩
    ·by_cases h2:low<k
     ·have d1:decide (low<k)=true:=decide_eq_true h2
      go_wp2_with fail
      go_at_call 143
      refine (syes_any _ _ _ _).mono ?_
      rintro e w9 ⟨rfl,hx9⟩
      have hx19:=hx16.trans hx9
      have HK9:=Lib.hid (Hold.all8 (Hold.ext HKB.out hx19) (.int .i64 1) (.bool true) (.int .i64 1) (.slice (some ⟨g1,0,none⟩) T.n T.n) (.slice none 0 0) (.slice none 0 0) (.slice none 0 0) (.int .i64 0))
      have HX9:=Lib.hid (hxw6.trans hx9)
      have HX69:=Lib.hid hx9
      go_wp2_with fail
      refine bodyPost_ret (poss_results _ _ (w.heap.size+1) _ _ _ _ _ _ _ _ _ rfl rfl HK9.out) rfl ?_
      exact ⟨HX9.out.put8 (by omega) _ _ _ _ _ _ _ _,.inr ⟨HO.out,v1,v2,y1,y2,g1,g2,HB1.out,HB2.out,(HR1.out.ext HX69.out).put8 _ _ _ _ _ _ _ _ _ (by have:=HGS.out.1;omega),(HR2.out.ext HX69.out).put8 _ _ _ _ _ _ _ _ _ (by have:=HGS.out.2;omega),by rw [←HLOW.out];exact (.inl ⟨.inr rfl,.inl h2,rfl⟩)⟩⟩
     ·have d1:decide (low<k)=false:=decide_eq_false h2
      have d2:(low == k)=true:=by simpa using show low=k from by omega
      have H1:=Lib.hid (show low=k from by omega)
      clear h1 h2
      go_wp2_with fail
      go_at_call 143
      refine (syes_any _ _ _ _).mono ?_
      rintro e w9 ⟨rfl,hx9⟩
      have hx19:=hx16.trans hx9
      have HK9:=Lib.hid (Hold.all8 (Hold.ext HKB.out hx19) (.int .i64 1) (.bool true) (.int .i64 1) (.slice (some ⟨g1,0,none⟩) T.n T.n) (.slice none 0 0) (.slice none 0 0) (.slice none 0 0) (.int .i64 0))
      have HX9:=Lib.hid (hxw6.trans hx9)
      have HX69:=Lib.hid hx9
      go_wp2_with fail
      refine bodyPost_ret (poss_results _ _ (w.heap.size+1) _ _ _ _ _ _ _ _ _ rfl rfl HK9.out) rfl ?_
      exact ⟨HX9.out.put8 (by omega) _ _ _ _ _ _ _ _,.inr ⟨HO.out,v1,v2,y1,y2,g1,g2,HB1.out,HB2.out,(HR1.out.ext HX69.out).put8 _ _ _ _ _ _ _ _ _ (by have:=HGS.out.1;omega),(HR2.out.ext HX69.out).put8 _ _ _ _ _ _ _ _ _ (by have:=HGS.out.2;omega),by rw [←HLOW.out];exact (.inl ⟨.inr rfl,.inr ⟨rfl,H1.out⟩,rfl⟩)⟩⟩
   ·have d1:decide (low<k)=false:=decide_eq_false (by omega)
    rcases ho with rfl | rfl
    ·have H1:=Lib.hid (show ¬low<k from by omega)
     clear h1
     go_wp2_with fail
     go_at_call 144
     refine (sno_any _ _ _ _ _).mono ?_
     rintro e w9 ⟨rfl,hx9⟩
     have hx19:=hx16.trans hx9
     have HK9:=Lib.hid (Hold.all8 (Hold.ext HKB.out hx19) (.int .i64 1) (.bool false) (.int .i64 5) (.slice (some ⟨g1,0,none⟩) T.n T.n) (.slice none 0 0) (.slice none 0 0) (.slice none 0 0) (.int .i64 low))
     have HX9:=Lib.hid (hxw6.trans hx9)
     have HX69:=Lib.hid hx9
     go_wp2_with fail
     refine bodyPost_ret (poss_results _ _ (w.heap.size+1) _ _ _ _ _ _ _ _ _ rfl rfl HK9.out) rfl ?_
     exact ⟨HX9.out.put8 (by omega) _ _ _ _ _ _ _ _,.inr ⟨HO.out,v1,v2,y1,y2,g1,g2,HB1.out,HB2.out,(HR1.out.ext HX69.out).put8 _ _ _ _ _ _ _ _ _ (by have:=HGS.out.1;omega),(HR2.out.ext HX69.out).put8 _ _ _ _ _ _ _ _ _ (by have:=HGS.out.2;omega),by rw [←HLOW.out];exact (.inr (.inl ⟨.inl rfl,(fun h=>by have:=H1.out;omega),rfl⟩))⟩⟩
    ·have d2:(low == k)=false:=by simpa using show ¬low=k from by omega
     have H1:=Lib.hid (show ¬low<k∧¬low=k from by omega)
     clear h1
     go_wp2_with fail
     go_at_call 144
     refine (sno_any _ _ _ _ _).mono ?_
     rintro e w9 ⟨rfl,hx9⟩
     have hx19:=hx16.trans hx9
     have HK9:=Lib.hid (Hold.all8 (Hold.ext HKB.out hx19) (.int .i64 1) (.bool false) (.int .i64 5) (.slice (some ⟨g1,0,none⟩) T.n T.n) (.slice none 0 0) (.slice none 0 0) (.slice none 0 0) (.int .i64 low))
     have HX9:=Lib.hid (hxw6.trans hx9)
     have HX69:=Lib.hid hx9
     go_wp2_with fail
     refine bodyPost_ret (poss_results _ _ (w.heap.size+1) _ _ _ _ _ _ _ _ _ rfl rfl HK9.out) rfl ?_
     exact ⟨HX9.out.put8 (by omega) _ _ _ _ _ _ _ _,.inr ⟨HO.out,v1,v2,y1,y2,g1,g2,HB1.out,HB2.out,(HR1.out.ext HX69.out).put8 _ _ _ _ _ _ _ _ _ (by have:=HGS.out.1;omega),(HR2.out.ext HX69.out).put8 _ _ _ _ _ _ _ _ _ (by have:=HGS.out.2;omega),by rw [←HLOW.out];exact (.inr (.inl ⟨.inr rfl,(fun h=>by have:=H1.out;omega),rfl⟩))⟩⟩
  have o11:(op == 11)=false:=by simpa using fun h=>ho (.inl h)
  have o12:(op == 12)=false:=by simpa using fun h=>ho (.inr h)
  have HOP:=Lib.hid ho
  clear ho
  by_cases h10:op=10
  ·subst h10
   by_cases hl:low=k
   ·have HL:=Lib.hid hl
    have d1:(low == k)=true:=by simpa using hl
    clear hl
    by_cases hh:v2=k
    ·have HH:=Lib.hid hh
     have d2:(v2 == k)=true:=by simpa using hh
     clear hh
     obtain ⟨hpa,_,_⟩:=HVA.out HO.out
     have hxr:=hx16
     go_wp2_with (at_make;refine wpList_make_full _ rfl _ _ 28 rfl w6.heap.size 3 j0 (.int .i64 0) 1 Tryz.underlying28 hj0 hy0 hy1 .i64 .i64 _ _ T.n rfl rfl rfl rfl (by rw [hy2];omega) (by unfold maxLen;omega) (Nat.le_refl _) ?_;intro w7 hown7 hg7)
     have hx67:Ext w6 w7:=(Below.refl _ _).grown hg7 (Nat.le_refl _) (by simp)
     have HI7:=Lib.hid (IntRow.made hown7)
     clear hown7 hg7
     go_at_call 144
     refine (sno_any _ _ _ _ _).mono ?_
     rintro e w9 ⟨rfl,hx9⟩
     have hx19:=(hx16.trans hx67).trans hx9
     have HK9:=Lib.hid (Hold.all8 (Hold.ext HKB.out hx19) (.int .i64 1) (.bool false) (.int .i64 5) (.slice (some ⟨w6.heap.size,0,none⟩) T.n T.n) (.slice none 0 0) (.slice none 0 0) (.slice none 0 0) (.int .i64 k))
     have HX9:=Lib.hid ((hxw6.trans hx67).trans hx9)
     have HX69:=Lib.hid (hx67.trans hx9)
     have HI9:=Lib.hid (HI7.out.ext hx9)
     have HG9:=Lib.hid (show w.heap.size+1<w6.heap.size from by have:=HS1.out;have:=hx16.le;omega)
     clear hx67 hx9
     go_wp2_with fail
     refine bodyPost_ret (poss_results _ _ (w.heap.size+1) _ _ _ _ _ _ _ _ _ rfl rfl HK9.out) rfl ?_
     exact ⟨HX9.out.put8 (by omega) _ _ _ _ _ _ _ _,.inr ⟨HO.out,v1,v2,y1,y2,g1,g2,HB1.out,HB2.out,(HR1.out.ext HX69.out).put8 _ _ _ _ _ _ _ _ _ (by have:=HGS.out.1;omega),(HR2.out.ext HX69.out).put8 _ _ _ _ _ _ _ _ _ (by have:=HGS.out.2;omega),by
      rw [←HLOW.out]
      exact .inr (.inr (.inr (.inr (.inl ⟨rfl,HL.out,HH.out,w6.heap.size,HI9.out.put8 _ _ _ _ _ _ _ _ _ (by have:=HG9.out;omega),rfl⟩))))⟩⟩
    ·have HH:=Lib.hid hh
     have d2:(v2 == k)=false:=by simpa using hh
     clear hh
     go_wp2_with fail
     go_at_call 143
     refine (syes_any _ _ _ _).mono ?_
     rintro e w9 ⟨rfl,hx9⟩
     have hx19:=hx16.trans hx9
     have HK9:=Lib.hid (Hold.all8 (Hold.ext HKB.out hx19) (.int .i64 1) (.bool true) (.int .i64 1) (.slice (some ⟨g2,0,none⟩) T.n T.n) (.slice none 0 0) (.slice none 0 0) (.slice none 0 0) (.int .i64 0))
     have HX9:=Lib.hid (hxw6.trans hx9)
     have HX69:=Lib.hid hx9
     go_wp2_with fail
     refine bodyPost_ret (poss_results _ _ (w.heap.size+1) _ _ _ _ _ _ _ _ _ rfl rfl HK9.out) rfl ?_
     exact ⟨HX9.out.put8 (by omega) _ _ _ _ _ _ _ _,.inr ⟨HO.out,v1,v2,y1,y2,g1,g2,HB1.out,HB2.out,(HR1.out.ext HX69.out).put8 _ _ _ _ _ _ _ _ _ (by have:=HGS.out.1;omega),(HR2.out.ext HX69.out).put8 _ _ _ _ _ _ _ _ _ (by have:=HGS.out.2;omega),by rw [←HLOW.out];exact (.inr (.inr (.inr (.inl ⟨rfl,HL.out,HH.out,rfl⟩))))⟩⟩
   ·have HL:=Lib.hid hl
    have d1:(low == k)=false:=by simpa using hl
    clear hl
    go_wp2_with fail
    go_at_call 143
    refine (syes_any _ _ _ _).mono ?_
    rintro e w9 ⟨rfl,hx9⟩
    have hx19:=hx16.trans hx9
    have HK9:=Lib.hid (Hold.all8 (Hold.ext HKB.out hx19) (.int .i64 1) (.bool true) (.int .i64 1) (.slice (some ⟨g1,0,none⟩) T.n T.n) (.slice none 0 0) (.slice none 0 0) (.slice none 0 0) (.int .i64 0))
    have HX9:=Lib.hid (hxw6.trans hx9)
    have HX69:=Lib.hid hx9
    go_wp2_with fail
    refine bodyPost_ret (poss_results _ _ (w.heap.size+1) _ _ _ _ _ _ _ _ _ rfl rfl HK9.out) rfl ?_
    exact ⟨HX9.out.put8 (by omega) _ _ _ _ _ _ _ _,.inr ⟨HO.out,v1,v2,y1,y2,g1,g2,HB1.out,HB2.out,(HR1.out.ext HX69.out).put8 _ _ _ _ _ _ _ _ _ (by have:=HGS.out.1;omega),(HR2.out.ext HX69.out).put8 _ _ _ _ _ _ _ _ _ (by have:=HGS.out.2;omega),by rw [←HLOW.out];exact (.inr (.inr (.inl ⟨rfl,HL.out,rfl⟩)))⟩⟩
  have o10:(op == 10)=false:=by simpa using h10
  have HO10:=Lib.hid h10
  clear h10
  by_cases h9:op=9
  ·subst h9
   by_cases hl:low=k
   ·have HL:=Lib.hid hl
    have d1:(low == k)=true:=by simpa using hl
    clear hl
    go_wp2_with fail
    go_at_call 143
    refine (syes_any _ _ _ _).mono ?_
    rintro e w9 ⟨rfl,hx9⟩
    have hx19:=hx16.trans hx9
    have HK9:=Lib.hid (Hold.all8 (Hold.ext HKB.out hx19) (.int .i64 1) (.bool true) (.int .i64 1) (.slice (some ⟨g1,0,none⟩) T.n T.n) (.slice none 0 0) (.slice none 0 0) (.slice none 0 0) (.int .i64 0))
    have HX9:=Lib.hid (hxw6.trans hx9)
    have HX69:=Lib.hid hx9
    go_wp2_with fail
    refine bodyPost_ret (poss_results _ _ (w.heap.size+1) _ _ _ _ _ _ _ _ _ rfl rfl HK9.out) rfl ?_
    exact ⟨HX9.out.put8 (by omega) _ _ _ _ _ _ _ _,.inr ⟨HO.out,v1,v2,y1,y2,g1,g2,HB1.out,HB2.out,(HR1.out.ext HX69.out).put8 _ _ _ _ _ _ _ _ _ (by have:=HGS.out.1;omega),(HR2.out.ext HX69.out).put8 _ _ _ _ _ _ _ _ _ (by have:=HGS.out.2;omega),by rw [←HLOW.out];exact (.inr (.inr (.inr (.inr (.inr (.inl ⟨rfl,HL.out,rfl⟩))))))⟩⟩
   have d1:(low == k)=false:=by simpa using hl
   by_cases hh:v2=k
   ·have HH:=Lib.hid (And.intro hl hh)
    have d2:(v2 == k)=true:=by simpa using hh
    clear hh hl
    go_wp2_with fail
    go_at_call 143
    refine (syes_any _ _ _ _).mono ?_
    rintro e w9 ⟨rfl,hx9⟩
    have hx19:=hx16.trans hx9
    have HK9:=Lib.hid (Hold.all8 (Hold.ext HKB.out hx19) (.int .i64 1) (.bool true) (.int .i64 1) (.slice (some ⟨g2,0,none⟩) T.n T.n) (.slice none 0 0) (.slice none 0 0) (.slice none 0 0) (.int .i64 0))
    have HX9:=Lib.hid (hxw6.trans hx9)
    have HX69:=Lib.hid hx9
    go_wp2_with fail
    refine bodyPost_ret (poss_results _ _ (w.heap.size+1) _ _ _ _ _ _ _ _ _ rfl rfl HK9.out) rfl ?_
    exact ⟨HX9.out.put8 (by omega) _ _ _ _ _ _ _ _,.inr ⟨HO.out,v1,v2,y1,y2,g1,g2,HB1.out,HB2.out,(HR1.out.ext HX69.out).put8 _ _ _ _ _ _ _ _ _ (by have:=HGS.out.1;omega),(HR2.out.ext HX69.out).put8 _ _ _ _ _ _ _ _ _ (by have:=HGS.out.2;omega),by rw [←HLOW.out];exact (.inr (.inr (.inr (.inr (.inr (.inr (.inl ⟨rfl,HH.out.1,HH.out.2,rfl⟩)))))))⟩⟩
   have d2:(v2 == k)=false:=by simpa using hh
   by_cases h3:k<low
   ·have HH:=Lib.hid (And.intro h3 hh)
    have d3:decide (k<low)=true:=decide_eq_true h3
    clear hh hl h3
    go_wp2_with fail
    go_at_call 144
    refine (sno_any _ _ _ _ _).mono ?_
    rintro e w9 ⟨rfl,hx9⟩
    have hx19:=hx16.trans hx9
    have HK9:=Lib.hid (Hold.all8 (Hold.ext HKB.out hx19) (.int .i64 1) (.bool false) (.int .i64 5) (.slice (some ⟨g1,0,none⟩) T.n T.n) (.slice none 0 0) (.slice none 0 0) (.slice none 0 0) (.int .i64 low))
    have HX9:=Lib.hid (hxw6.trans hx9)
    have HX69:=Lib.hid hx9
    go_wp2_with fail
    refine bodyPost_ret (poss_results _ _ (w.heap.size+1) _ _ _ _ _ _ _ _ _ rfl rfl HK9.out) rfl ?_
    exact ⟨HX9.out.put8 (by omega) _ _ _ _ _ _ _ _,.inr ⟨HO.out,v1,v2,y1,y2,g1,g2,HB1.out,HB2.out,(HR1.out.ext HX69.out).put8 _ _ _ _ _ _ _ _ _ (by have:=HGS.out.1;omega),(HR2.out.ext HX69.out).put8 _ _ _ _ _ _ _ _ _ (by have:=HGS.out.2;omega),by rw [←HLOW.out];exact (.inr (.inr (.inr (.inr (.inr (.inr (.inr (.inl ⟨rfl,HH.out.1,HH.out.2,rfl⟩))))))))⟩⟩
   have d3:decide (k<low)=false:=decide_eq_false h3
   by_cases h4:v2<k
   ·have HH:=Lib.hid (show low<k∧v2<k from ⟨by omega,h4⟩)
    have d4:decide (v2<k)=true:=decide_eq_true h4
    clear hh hl h3 h4
    go_wp2_with fail
    go_at_call 144
    refine (sno_any _ _ _ _ _).mono ?_
    rintro e w9 ⟨rfl,hx9⟩
    have hx19:=hx16.trans hx9
    have HK9:=Lib.hid (Hold.all8 (Hold.ext HKB.out hx19) (.int .i64 1) (.bool false) (.int .i64 5) (.slice (some ⟨g2,0,none⟩) T.n T.n) (.slice none 0 0) (.slice none 0 0) (.slice none 0 0) (.int .i64 v2))
    have HX9:=Lib.hid (hxw6.trans hx9)
    have HX69:=Lib.hid hx9
    go_wp2_with fail
    refine bodyPost_ret (poss_results _ _ (w.heap.size+1) _ _ _ _ _ _ _ _ _ rfl rfl HK9.out) rfl ?_
    exact ⟨HX9.out.put8 (by omega) _ _ _ _ _ _ _ _,.inr ⟨HO.out,v1,v2,y1,y2,g1,g2,HB1.out,HB2.out,(HR1.out.ext HX69.out).put8 _ _ _ _ _ _ _ _ _ (by have:=HGS.out.1;omega),(HR2.out.ext HX69.out).put8 _ _ _ _ _ _ _ _ _ (by have:=HGS.out.2;omega),by rw [←HLOW.out];exact (.inr (.inr (.inr (.inr (.inr (.inr (.inr (.inr (.inl ⟨rfl,HH.out.1,HH.out.2,rfl⟩)))))))))⟩⟩
   have d4:decide (v2<k)=false:=decide_eq_false h4
   have HH:=Lib.hid (show low<k∧k<v2 from ⟨by omega,by omega⟩)
   clear hh hl h3 h4
   go_wp2_with fail
   go_at_call 145
   refine (HEQ2.out w6 hx26).mono ?_
   rintro e w9 ⟨hx9,am,ah,ak,aa,al,ac,er,rfl,hq⟩
   have hx19:=hx16.trans hx9
   have HK9:=Lib.hid (Hold.all8 (Hold.ext HKB.out hx19) (.int .i64 am) (.bool ah) (.int .i64 ak) (.slice aa al ac) (.slice none 0 0) (.slice none 0 0) (.slice none 0 0) (.int .i64 0))
   have HX9:=Lib.hid (hxw6.trans hx9)
   have HX69:=Lib.hid hx9
   have HQ9:=Lib.hid (HQ.out _ _ _ _ _ _ _ _ _ (w.heap.size+1) (.int .i64 am) (.bool ah) (.int .i64 ak) (.slice aa al ac) (.slice none 0 0) (.slice none 0 0) (.slice none 0 0) (.int .i64 0) (by have:=HS1.out;have:=hx16.le;omega) hq)
   clear hq hx9
   go_wp2_with fail
   refine bodyPost_ret (poss_results _ _ (w.heap.size+1) _ _ _ _ _ _ _ _ _ rfl rfl HK9.out) rfl ?_
   exact ⟨HX9.out.put8 (by omega) _ _ _ _ _ _ _ _,.inr ⟨HO.out,v1,v2,y1,y2,g1,g2,HB1.out,HB2.out,(HR1.out.ext HX69.out).put8 _ _ _ _ _ _ _ _ _ (by have:=HGS.out.1;omega),(HR2.out.ext HX69.out).put8 _ _ _ _ _ _ _ _ _ (by have:=HGS.out.2;omega),by
    rw [←HLOW.out]
    exact .inr (.inr (.inr (.inr (.inr (.inr (.inr (.inr (.inr (.inl ⟨rfl,HH.out.1,HH.out.2,_,am,ah,ak,aa,al,ac,er,rfl,HQ9.out⟩)))))))))⟩⟩
  have o9:(op == 9)=false:=by simpa using h9
  have HO9:=Lib.hid h9
  have HK9:=Lib.hid (Hold.all8 (Hold.ext HKB.out hx16) (.int .i64 0) (.bool false) (.int .i64 0) (.slice none 0 0) (.slice none 0 0) (.slice none 0 0) (.slice none 0 0) (.int .i64 0))
  have HX9:=Lib.hid hxw6
  clear h9
  go_wp2_with fail
  refine bodyPost_ret (poss_results _ _ (w.heap.size+1) _ _ _ _ _ _ _ _ _ rfl rfl HK9.out) rfl ?_
  exact ⟨HX9.out.put8 (by omega) _ _ _ _ _ _ _ _,.inr ⟨HO.out,v1,v2,y1,y2,g1,g2,HB1.out,HB2.out,HR1.out.put8 _ _ _ _ _ _ _ _ _ (by have:=HGS.out.1;omega),HR2.out.put8 _ _ _ _ _ _ _ _ _ (by have:=HGS.out.2;omega),by
   rw [←HLOW.out]
   exact .inr (.inr (.inr (.inr (.inr (.inr (.inr (.inr (.inr (.inr ⟨HO9.out,HO10.out,fun h=>HOP.out (.inl h),fun h=>HOP.out (.inr h),rfl⟩)))))))))⟩⟩
def EqU (T:TM) (b:Int) (u:Nat→Int) (k:Int):EqQ:=fun B m h kd a l c er w'=>m=1∧h=true∧kd=1∧er=0∧
 ((∃ cc g,a=some ⟨g,0,none⟩∧l=T.n∧c=T.n∧IntRow w' g T.n (natV cc)∧B≤g∧T.toTr.CutOk cc∧b+T.toTr.atC u cc=k)∨T.toTr.Out u b k)
theorem EqU.put8 {T : TM} {b : Int} {u : Nat → Int} {k : Int} (B : Nat) (m : Int) (h : Bool) (kd : Int) (a : Option Addr) (l c : Nat) (er : Int) (w1 : World) (b1 : Nat) (v0 v1 v2 v3 v4 v5 v6 v7 : Value) (hb : b1 < B) (hq : EqU T b u k B m h kd a l c er w1) :
    EqU T b u k B m h kd a l c er (Go.Proofs.YtnknkkmdbnaglaaGreat.put8 w1 b1 v0 v1 v2 v3 v4 v5 v6 v7):=by
 obtain ⟨h1,h2,h3,h4,⟨cc,g,ha,hl,hc,hr,hB,hk⟩ | ho⟩:=hq
 ·exact ⟨h1,h2,h3,h4,.inl ⟨cc,g,ha,hl,hc,hr.put8 _ _ _ _ _ _ _ _ _ (by omega),hB,hk⟩⟩
 ·exact ⟨h1,h2,h3,h4,.inr ho⟩
theorem eql_results (tmps : Array Value) (W : World) (b : Nat) (u x0 x1 x2 x3 x4 x5 x6 x7 : Value) (t4 : tmps[4]? = some (.pointer (some ⟨b, 0, none⟩))) (t5 : tmps[5]? = some u) (h : Hold W b #[x0, x1, x2, x3, x4, x5, x6, x7]) :
    (results Tryz.f145 tmps).run Tryz.prog W=.ok (.tuple #[.agg #[x0,x1,x2,x3,x4,x5,x6,x7],u]) W:=by
 have c0:=h.cell0 0
 have c1:=h.cell0 1
 have c2:=h.cell0 2
 have c3:=h.cell0 3
 have c4:=h.cell0 4
 have c5:=h.cell0 5
 have c6:=h.cell0 6
 have c7:=h.cell0 7
 simp at c0 c1 c2 c3 c4 c5 c6 c7
 simp [results,Tryz.results145,go_sem,t4,t5,c0,c1,c2,c3,c4,c5,c6,c7]
set_option maxHeartbeats 2000000 in
theorem sequ_any (W : World) (S : SumM) (hS : S.At W) (k : Int) (hu : UnitW S.w S.m) :
    Calls Tryz.prog 145 #[S.val,.int .i64 k] W (EqlPost (EqU S.T S.b S.w k) W):=by
 have HUN:=Lib.hid (fun W' (h:Ext W W')=>sunit_any W' S (hS.ext h))
 have hr:(!anyB (fun i=>decide (1<iabs (S.w i))) S.m)=true:=unitW_iff.2 hu
 rw [hr] at HUN
 have HEX:=Lib.hid (fun W' (h:Ext W W')=>sex_any W' S (hS.ext h) k hu)
 unfold EqlPost EqU
 obtain ⟨T,tv,wa,wg,wo,wc,w,b⟩:=S
 simp only [SumM.val,TM.sl] at *
 generalize SumM.m ⟨T,tv,wa,wg,wo,wc,w,b⟩=m at *
 obtain ⟨ta,hta⟩:∃ z,z=T.a:=⟨_,rfl⟩
 rw [←hta] at HUN HEX ⊢
 clear hS hu hta hr
 go_enter Tryz.func145,Tryz.ntmps145
 go_upto_region 1 with fail
 refine boxed3 (w:=W) (G:=fun x=>Code.wp _ _ _ _ x) ?_
 intro w1 hx1 hs1 ⟨l0,c0,_,_⟩ ⟨l1,c1,_,_⟩ ⟨l2,c2,f2,k2⟩
 have hx11:Ext w1 w1:=Ext.refl _
 have HKB:=Lib.hid (show Hold w1 (W.heap.size+1+1) #[.int .i64 0,.bool false,.int .i64 0,.slice none 0 0,.slice none 0 0,.slice none 0 0,.slice none 0 0,.int .i64 0] from k2)
 clear k2
 have HS1:=Lib.hid hs1
 clear hs1
 go_wp2_with fail
 go_at_call 89
 refine (HUN.out w1 hx1).mono ?_
 rintro e w2 ⟨rfl,hx2⟩
 have hxw2:=hx1.trans hx2
 go_wp2_with fail
 go_at_call 146
 refine (HEX.out w2 hxw2).mono ?_
 rintro e w3 ⟨hx3,⟨cc,g,rfl,hr,hg,hc,hv⟩ | ⟨rfl,ho⟩⟩
 ·have hx13:=hx2.trans hx3
  have hxw3:=hxw2.trans hx3
  have HF:=Lib.hid (And.intro hr (And.intro hg (And.intro hc hv)))
  clear hr hg hc hv
  go_wp2_with fail
  go_at_call 143
  refine (syes_any _ _ _ _).mono ?_
  rintro e w9 ⟨rfl,hx9⟩
  have hx19:=hx13.trans hx9
  have HK9:=Lib.hid (Hold.all8 (Hold.ext HKB.out hx19) (.int .i64 1) (.bool true) (.int .i64 1) (.slice (some ⟨g,0,none⟩) T.n T.n) (.slice none 0 0) (.slice none 0 0) (.slice none 0 0) (.int .i64 0))
  have HX9:=Lib.hid (hxw3.trans hx9)
  have HR9:=Lib.hid (HF.out.1.ext hx9)
  have HGB:=Lib.hid (show W.heap.size+1+1<g from by have:=HF.out.2.1;have:=HS1.out;have:=hx2.le;omega)
  clear hx9
  go_wp2_with fail
  refine bodyPost_ret (eql_results _ _ (W.heap.size+1+1) _ _ _ _ _ _ _ _ _ rfl rfl HK9.out) rfl ?_
  exact ⟨HX9.out.put8 (by omega) _ _ _ _ _ _ _ _,1,true,1,_,_,_,0,rfl,rfl,rfl,rfl,rfl,.inl ⟨cc,g,rfl,rfl,rfl,HR9.out.put8 _ _ _ _ _ _ _ _ _ (by have:=HGB.out;omega),by have:=HGB.out;omega,HF.out.2.2.1,HF.out.2.2.2⟩⟩
 ·have hx13:=hx2.trans hx3
  have hxw3:=hxw2.trans hx3
  have HF:=Lib.hid ho
  clear ho
  go_wp2_with fail
  go_at_call 143
  refine (syes_any _ _ _ _).mono ?_
  rintro e w9 ⟨rfl,hx9⟩
  have hx19:=hx13.trans hx9
  have HK9:=Lib.hid (Hold.all8 (Hold.ext HKB.out hx19) (.int .i64 1) (.bool true) (.int .i64 1) (.slice none 0 0) (.slice none 0 0) (.slice none 0 0) (.slice none 0 0) (.int .i64 0))
  have HX9:=Lib.hid (hxw3.trans hx9)
  clear hx9
  go_wp2_with fail
  refine bodyPost_ret (eql_results _ _ (W.heap.size+1+1) _ _ _ _ _ _ _ _ _ rfl rfl HK9.out) rfl ?_
  exact ⟨HX9.out.put8 (by omega) _ _ _ _ _ _ _ _,1,true,1,_,_,_,0,rfl,rfl,rfl,rfl,rfl,.inr HF.out⟩
end Go.Proofs.YtnknkkmdbnaglaaGreat
