/-
  PROVED HERE: 'SumsPossibly' returns true for every trace, list of terms and two numbers, in every memory: no condition.
  (The row's step follows the shell that the kit's program wrote for 'LamportSteps'.)
-/
import Derived.Test.YtnknkkmdbnaglaaGreatRows
import Derived.WalkKit
import Derived.Test.YtnknkkmdbnaglaaGreatUz
import Derived.Test.YtnknkkmdbnaglaaGreatUx
import Derived.Test.YtnknkkmdbnaglaaGreatUw
import Derived.Test.YtnknkkmdbnaglaaGreatVb
import Derived.Test.YtnknkkmdbnaglaaGreatVj
import Derived.Test.YtnknkkmdbnaglaaGreatUp
namespace Go.Proofs.YtnknkkmdbnaglaaGreat.sumsPossibly
open Go.ChangeShapes Go.WideShapes Go.ChangeAt Go.RowKit Go.Proofs.YtnknkkmdbnaglaaGreat
set_option linter.unusedVariables false
def TruePost (w:World) (e:Ending) (w':World):Prop:=e=.returned (.bool true)∧Ext w w'
theorem nofault {T:Tr} {ts:List Trm} {c:Int} (h:T.SumOk ts) (hc:T.SumFault ts c):c=0:=hc.uniq (.inr (.inr (.inr (.inr (.inr ⟨h,rfl⟩)))))
theorem num0 (w:World):NumAt w 0 none 0 0 (fun _=>0):=⟨by decide,fun h=>absurd h (Nat.not_lt_zero _),fun h=>absurd h (Nat.not_lt_zero _),fun k h=>absurd h (Nat.not_lt_zero _)⟩
theorem same0 (w : World) (m kd v : Int) (h : Bool) (a : Option Addr) (l c : Nat) (hm : m = 0) (hk : kd = 0) (hv : v = 0) (hh : h = false) (hl : l = 0) :
    Calls Tryz.prog 73 #[ansV m h kd (.slice a l c) v,ansV 0 false 0 (.slice none 0 0) 0] w fun e w'=>e=.returned (.bool true)∧Ext w w':=by
 subst hm hk hv hh hl
 refine (rsans_any w 0 0 false false 0 0 0 0 a none 0 0 c 0 True fun W x=>?_).mono fun e w' ⟨b,he,hb,hx⟩=>⟨by rw [he,hb.2 ⟨rfl,rfl,rfl,rfl,trivial⟩],hx⟩
 have hn:NumAt W 0 a 0 0 (fun _=>0):=⟨by decide,fun h=>absurd h (Nat.not_lt_zero _),fun h=>absurd h (Nat.not_lt_zero _),fun k h=>absurd h (Nat.not_lt_zero _)⟩
 exact (rsame_any W a none 0 0 0 0 0 0 c 0 (fun _=>0) (fun _=>0) hn (num0 W)).mono fun e w' ⟨b,he,hb,hx⟩=>⟨b,he,⟨fun _=>trivial,fun _=>hb.2 ⟨rfl,fun _ _=>rfl⟩⟩,hx⟩
theorem same1 (w : World) (m kd v : Int) (h : Bool) (a a' : Option Addr) (l c c' g o g' o' : Nat) (u u' : Nat → Int) (h1 : NumAt w l a g o u) (h2 : NumAt w l a' g' o' u') (he : ∀ i, i < l → u i = u' i) :
    Calls Tryz.prog 73 #[ansV m h kd (.slice a l c) v,ansV m h kd (.slice a' l c') v] w fun e w'=>e=.returned (.bool true)∧Ext w w':=by
 refine (rsans_any w m m h h kd kd v v a a' l l c c' True fun W x=>?_).mono fun e w' ⟨b,he,hb,hx⟩=>⟨by rw [he,hb.2 ⟨rfl,rfl,rfl,rfl,trivial⟩],hx⟩
 exact (rsame_any W a a' g o g' o' l l c c' u u' (h1.ext x) (h2.ext x)).mono fun e w' ⟨b,he',hb,hx⟩=>⟨b,he',⟨fun _=>trivial,fun _=>hb.2 ⟨rfl,he⟩⟩,hx⟩
theorem poss_bad {T : TM} {D : TmD} {op k low high : Int} {n g1 g2 : Nat} {Q : EqQ} {w' : World} {m kd v er : Int} {h : Bool} {a : Option Addr} {l c : Nat} (ho : op ≠ 9 ∧ op ≠ 10 ∧ op ≠ 11 ∧ op ≠ 12) (hp : PossOut op k low high n g1 g2 Q (.returned (.tuple #[ansV m h kd (.slice a l c) v, .int .i64 er])) w') :
    er=3∧m=0∧h=false∧kd=0∧v=0∧l=0:=by
 rcases hp with ⟨o,_⟩ | ⟨o,_⟩ | ⟨o,_⟩ | ⟨o,_⟩ | ⟨o,_⟩ | ⟨o,_⟩ | ⟨o,_⟩ | ⟨o,_⟩ | ⟨o,_⟩ | ⟨o,_⟩ | ⟨_,_,_,_,y⟩
 case inr.inr.inr.inr.inr.inr.inr.inr.inr.inr=>
  obtain ⟨h1,h2,h3,h4,h5,h6⟩:=ans_inj y
  simp only [Value.slice.injEq] at h4
  exact ⟨h6,h1,h2,h3,h5,h4.2.1⟩
 all_goals (exfalso;omega)
theorem ex_inj {a a':Option Addr} {l l' c c':Nat} {e e':Int} (h:Ending.returned (.tuple #[.slice a l c,.int .i64 e])=.returned (.tuple #[.slice a' l' c',.int .i64 e'])):a=a'∧l=l'∧c=c'∧e=e':=by
 simp at h
 exact ⟨h.1.1,h.1.2.1,h.1.2.2,h.2⟩
set_option maxRecDepth 100000 in
set_option maxHeartbeats 8000000 in
theorem walk (T : TM) (D : TmD) (op k : Int) (w : World) (hT : T.At w) (hD : D.At w) :
    Calls Tryz.prog 13 #[T.val,.slice D.s.a D.s.n D.s.c,.int .i64 op,.int .i64 k] w (TruePost w):=by
 have HFEW:=Lib.hid (fun W (h:Ext w W)=>few39_any W T (hT.ext h))
 have HFLT:=Lib.hid (fun W (h:Ext w W)=>rflt39_any W T (hT.ext h) D (hD.ext h))
 have HPOS:=Lib.hid (fun W (h:Ext w W)=>sposx_any W T (hT.ext h) D (hD.ext h) op k)
 have HEXA:=Lib.hid (fun W (h:Ext w W)=>sxa_any W T (hT.ext h) D (hD.ext h) k)
 have HLST:=Lib.hid (fun W (h:Ext w W) hV=>rlist_any W T (hT.ext h) hV)
 have HUN:=Lib.hid (fun W (x:Ext w W) (hO:T.SumOk D.l)=>(show Calls Tryz.prog 29 #[T.val,.slice D.s.a D.s.n D.s.c] W (BoolPost (UnitW (T.wfn D.l) (tott T.en T.n)) W) from
  (runi_any W T (hT.ext x) D (hD.ext x) hO).mono fun e w' ⟨b,he,hb,hx⟩=>⟨b,he,hb.trans unitR_iff,hx⟩))
 have HMIN:=Lib.hid (fun W (x:Ext w W) (hO:T.SumOk D.l) base v R (hR:RowsQ W base v R) (hcu:IsCuts T.toTr (R.map Row.l)) (hl:R.length≤5000) (hr0:0<R.length) (v1:Int) (d1:Nat→Nat) (hb1:T.toTr.Best (- T.sumAt D.l fun _=>0) (fun v=>- T.wfn D.l v) v1 d1)=>(show Calls Tryz.prog 22 #[T.val,v,.slice D.s.a D.s.n D.s.c] W (fun e w'=>Ext W w'∧∃ s,e=.returned (.tuple #[.int .i64 (- v1),s])) from
  (rmin_any W T (hT.ext x) D (hD.ext x) hO base _ R hR hr0 hl (fun x hx=>(hcu.2 _).1 (List.mem_map.2 ⟨x,hx,rfl⟩))).mono fun e w' ⟨hx,nv,g,o,cap,c,he,hn,hm⟩=>by
   obtain ⟨hve,_⟩:=hm.best hcu (sumv_opp hO) hb1
   subst hve
   exact ⟨hx,_,he⟩))
 have HMAX:=Lib.hid (fun W (x:Ext w W) (hO:T.SumOk D.l) base v R (hR:RowsQ W base v R) (hcu:IsCuts T.toTr (R.map Row.l)) (hl:R.length≤5000) (hr0:0<R.length) (v1:Int) (d1:Nat→Nat) (hb1:T.toTr.Best (T.sumAt D.l fun _=>0) (T.wfn D.l) v1 d1)=>(show Calls Tryz.prog 21 #[T.val,v,.slice D.s.a D.s.n D.s.c] W (fun e w'=>Ext W w'∧∃ s,e=.returned (.tuple #[.int .i64 v1,s])) from
  (rmax_any W T (hT.ext x) D (hD.ext x) hO base _ R hR hr0 hl (fun x hx=>(hcu.2 _).1 (List.mem_map.2 ⟨x,hx,rfl⟩))).mono fun e w' ⟨hx,nv,g,o,cap,c,he,hn,hm⟩=>by
   obtain ⟨hve,_⟩:=hm.best hcu (sumv_at hO) hb1
   subst hve
   exact ⟨hx,_,he⟩))
 have HRP:=Lib.hid (fun W (x:Ext w W) base v R (hR:RowsQ W base v R) (hcu:IsCuts T.toTr (R.map Row.l)) (hl:R.length≤5000) {v1 v2:Int} {d1 d2:Nat→Nat} (hb1:T.toTr.Best (- T.sumAt D.l fun _=>0) (fun v=>- T.wfn D.l v) v1 d1) (hb2:T.toTr.Best (T.sumAt D.l fun _=>0) (T.wfn D.l) v2 d2) (hO:T.SumOk D.l)=>rposs_any W T (hT.ext x) D (hD.ext x) hO op k base v R hR hcu hl hb1 hb2)
 have HRVL:=Lib.hid (fun W (h:Ext w W) (hO:T.SumOk D.l) g c (hr:IntRow W g T.n (natV c)) (hc:T.toTr.CutOk c) (hk:(T.sumAt D.l fun _=>0)+T.toTr.atC (T.wfn D.l) c=k)=>(show Calls Tryz.prog 31 #[T.val,.slice (some ⟨g,0,none⟩) T.n T.n,.slice D.s.a D.s.n D.s.c] W (fun e w'=>e=.returned (.int .i64 k)∧Ext W w') from by
  have h1:=rval39_any W T (hT.ext h) D (hD.ext h) hO.v hO.known hO.coef hO.len (some ⟨g,0,none⟩) g 0 T.n c hr.cut hc.le
  rw [Tr.sumAt_atC hO.known hc.le,hk] at h1;exact h1))
 have HRC:=Lib.hid (fun W (h:Ext w W) (hV:T.toTr.Valid) g c (hr:IntRow W g T.n (natV c)) (hc:T.toTr.CutOk c)=>(show Calls Tryz.prog 30 #[T.val,.slice (some ⟨g,0,none⟩) T.n T.n] W (fun e w'=>e=.returned (.bool true)∧Ext W w') from
  (rcut39_any W T (hT.ext h) hV (some ⟨g,0,none⟩) g 0 T.n T.n (natV c) (hr.num (by have:=hV.n8;omega))).mono fun e w' ⟨b,he,hb,hx⟩=>⟨by rw [he,hb.2 (cut_isCut hV hc)],hx⟩))
 have hdn:=hD.hn
 obtain ⟨ta,hta⟩:∃ z,z=T.a:=⟨_,rfl⟩
 obtain ⟨da,hda⟩:∃ z,z=D.s.a:=⟨_,rfl⟩
 obtain ⟨n,hn⟩:∃ n,n=D.s.n:=⟨_,rfl⟩
 simp only [TM.val] at HFEW HFLT HPOS HEXA HLST HUN HMIN HMAX HRP HRVL HRC ⊢
 rw [←hta] at HFEW HFLT HPOS HEXA HLST HUN HMIN HMAX HRP HRVL HRC
 rw [←hda,←hn] at HFLT HPOS HEXA HUN HMIN HMAX HRP HRVL
 rw [←hta,←hda,←hn]
 rw [←hn] at hdn
 clear hT hD hta hda hn
 go_enter Tryz.func13,Tryz.ntmps13
 go_upto_region 1 with fail
 refine boxed1 (w:=w) (G:=fun x=>Code.wp _ _ _ _ x) ?_
 intro w1 hx1 hs1 ⟨l0,c0,_,_⟩
 have hx11:Ext w1 w1:=Ext.refl _
 clear hs1
 go_wp2_with fail
 go_at_call 15
 refine (awake39_any w1).mono ?_
 rintro e w2 ⟨rfl,hx2⟩
 have hxw2:=hx1.trans hx2
 go_wp2_with fail
 go_at_call 16
 refine (HFEW.out w2 hxw2).mono ?_
 rintro e w3 ⟨hx3,bf,rfl,-⟩
 have hxw3:=hxw2.trans hx3
 have hx13:=hx2.trans hx3
 cases bf with
 | false =>
  go_wp2_with fail
  go_ret
  exact ⟨rfl,hxw3⟩
 | true =>
 by_cases h70:70<n
 ·have d1:decide ((70:Int)<(n:Int))=true:=decide_eq_true (by omega)
  have d1':decide (70<n)=true:=decide_eq_true h70
  go_wp2_with fail
  go_ret
  exact ⟨rfl,hxw3⟩
 have d1:decide ((70:Int)<(n:Int))=false:=decide_eq_false (by omega)
 have d1':decide (70<n)=false:=decide_eq_false h70
 go_wp2_with fail
 go_at_call 71
 refine (HPOS.out w3 hxw3).mono ?_
 clear d1 d1' hx2 hx3 hxw2
 rintro e w4 ⟨hx4,⟨cf,hF,h0,rfl⟩ | ⟨hO,v1,v2,y1,y2,g1,g2,hb1,hb2,hr1,hr2,hp⟩⟩
 ·have HF:=Lib.hid hF
  have d0:(cf == 0)=false:=by simpa using h0
  have dd:(cf == cf)=true:=by simp
  have H0:=Lib.hid h0
  have hxw4:=hxw3.trans hx4
  have hx14:=hx13.trans hx4
  clear hF h0
  go_upto_region 6 with fail
  refine boxed1 (w:=w4) (G:=fun x=>Code.wp _ _ _ _ x) ?_
  intro w5 hx5 hs5 ⟨l5,c5,_,_⟩
  have hxw5:=hxw4.trans hx5
  have hx15:=hx14.trans hx5
  have hx55:Ext w5 w5:=Ext.refl _
  clear hs5
  go_wp2_with fail
  go_at_call 72
  refine (HEXA.out w5 hxw5).mono ?_
  rintro e w6 ⟨hx6,⟨c,hc,h0,rfl⟩ | ⟨hO,_⟩ | ⟨hO,_⟩⟩
  case inr.inl=>exact absurd (nofault hO HF.out) H0.out
  case inr.inr=>exact absurd (nofault hO HF.out) H0.out
  obtain rfl:c=cf:=hc.uniq HF.out
  have hxw6:=hxw5.trans hx6
  have hx16:=hx15.trans hx6
  have hx56:=hx6
  clear hc h0
  go_wp2_with fail
  go_at_call 19
  refine (HFLT.out w6 hxw6).mono ?_
  rintro e w7 ⟨hx7,c3,hc,rfl⟩
  obtain rfl:c3=c:=hc.uniq HF.out
  have hxw7:=hxw6.trans hx7
  have hx57:=hx56.trans hx7
  clear hc
  go_wp2_with fail
  go_at_call 73
  refine (same0 w7 0 0 0 false none 0 0 rfl rfl rfl rfl rfl).mono ?_
  rintro e w8 ⟨rfl,hx8⟩
  have hxw8:=hxw7.trans hx8
  go_wp2_with fail
  go_ret
  exact ⟨rfl,hxw8⟩
 obtain ⟨m,h,kd,a,l,c,v,er,rfl⟩:=poss_form hp
 have HOK:=Lib.hid hO
 have HV:=Lib.hid hO.v
 have HB1:=Lib.hid hb1
 have HB2:=Lib.hid hb2
 have HR1:=Lib.hid hr1
 have HR2:=Lib.hid hr2
 have HP:=Lib.hid hp
 have hxw4:=hxw3.trans hx4
 have hx14:=hx13.trans hx4
 clear hO hb1 hb2 hr1 hr2 hp hx4 hxw3 hx13
 go_upto_region 6 with fail
 refine boxed1 (w:=w4) (G:=fun x=>Code.wp _ _ _ _ x) ?_
 intro w5 hx5 hs5 ⟨l5,c5,_,_⟩
 have hxw5:=hxw4.trans hx5
 have hx15:=hx14.trans hx5
 have hx55:Ext w5 w5:=Ext.refl _
 have HX45:=Lib.hid hx5
 have HXW5:=Lib.hid hxw5
 have HX15:=Lib.hid hx15
 clear hs5 hx5 hxw4 hx14
 go_wp2_with fail
 go_at_call 72
 refine (HEXA.out w5 hxw5).mono ?_
 rintro e w6' ⟨hx6,hex⟩
 have hxw6':=hxw5.trans hx6
 have hx16':=hx15.trans hx6
 have hx56':=hx6
 obtain ⟨xa,xl,xc,xe,rfl⟩:∃ (xa:Option Addr) (xl xc:Nat) (xe:Int),e=.returned (.tuple #[.slice xa xl xc,.int .i64 xe]):=by
  rcases hex with ⟨_,_,_,h1⟩ | ⟨_,_,h1⟩ | ⟨_,_,⟨_,_,h1,_⟩ | ⟨h1,_⟩⟩
  ·exact ⟨_,_,_,_,h1⟩
  ·exact ⟨_,_,_,_,h1⟩
  ·exact ⟨_,_,_,_,h1⟩
  ·exact ⟨_,_,_,_,h1⟩
 have HEX:=Lib.hid hex
 clear hex hx6 hx15
 go_wp2_with fail
 go_at_call 19
 refine (HFLT.out w6' hxw6').mono ?_
 rintro e w6 ⟨hx6,cf,hcf,rfl⟩
 obtain rfl:cf=0:=nofault HOK.out hcf
 have hxw6:=hxw6'.trans hx6
 have hx16:=hx16'.trans hx6
 have hx56:=hx56'.trans hx6
 clear hcf hxw6' hx16'
 go_wp2_with fail
 go_at_call 20
 refine (HLST.out w6 hxw6 HV.out).mono ?_
 rintro e w7 ⟨hx7,⟨lv,R,rfl,hq,hcu,hl5⟩ | ⟨rfl,_⟩⟩
 case inr=>
  have hxw7:=hxw6.trans hx7
  have hx17:=hx16.trans hx7
  have hx57:=hx56.trans hx7
  have hun:=HUN.out w7 hxw7 HOK.out
  clear hx7 hx6 hx56 hx56' hx16 hxw6
  go_wp2_with fail
  go_at_call 29
  refine hun.mono ?_
  rintro e w8 ⟨b,rfl,hb,hx8⟩
  have hxw8:=hxw7.trans hx8
  have hx58:=hx57.trans hx8
  cases b with
  | false =>
   have HU:=Lib.hid (show ¬UnitW (T.wfn D.l) (tott T.en T.n) from fun h=>absurd (hb.2 h) (by decide))
   clear hb hun hx8 hx57 hx17
   rcases HEX.out with ⟨c',hc',h0',_⟩ | ⟨_,_,he'⟩ | ⟨_,hu',_⟩
   ·exact absurd (nofault HOK.out hc') h0'
   ·obtain ⟨rfl,rfl,rfl,rfl⟩:=ex_inj he'
    clear he' HEX
    by_cases hop:op≠9∧op≠10∧op≠11∧op≠12
    ·as_aux_lemma =>
       have HBD:=Lib.hid (poss_bad (T:=T) (D:=D) hop HP.out)
       have hsm:=fun W=>same0 W m kd v h a l c HBD.out.2.1 HBD.out.2.2.2.1 HBD.out.2.2.2.2.1 HBD.out.2.2.1 HBD.out.2.2.2.2.2
       have der:(er == 3)=true:=by simpa using HBD.out.1
       have q9:(op != 9)=true:=by simpa [bne] using hop.1
       have q10:(op != 10)=true:=by simpa [bne] using hop.2.1
       have q11:(op != 11)=true:=by simpa [bne] using hop.2.2.1
       have q12:(op != 12)=true:=by simpa [bne] using hop.2.2.2
       have p9:(op == 9)=false:=by simpa using hop.1
       have p10:(op == 10)=false:=by simpa using hop.2.1
       have p11:(op == 11)=false:=by simpa using hop.2.2.1
       have p12:(op == 12)=false:=by simpa using hop.2.2.2
       clear hop
       go_wp2_with fail
       go_at_call 73
       refine (hsm w8).mono ?_
       rintro e wl ⟨rfl,hxl⟩
       have hxwl:=Ext.trans hxw8 hxl
       go_wp2_with fail
       go_ret
       exact ⟨rfl,hxwl⟩
    have HOP:=Lib.hid (show op=9∨op=10∨op=11∨op=12 from by omega)
    have HER:=Lib.hid (poss_er HOP.out HP.out)
    by_cases h0:er=0
    ·have der:(er == 0)=true:=by simpa using h0
     rcases HOP.out with rfl | rfl | rfl | rfl
     all_goals
      as_aux_lemma=>
       (go_wp2_with fail;go_ret;exact ⟨rfl,hxw8⟩)
    ·have HE2:=Lib.hid (show er=16∧op=9∧¬UnitW (T.wfn D.l) (tott T.en T.n)∧m=0∧h=false∧kd=0∧v=0∧l=0 from HER.out.resolve_left h0)
     have der:(er == 0)=false:=by simpa using h0
     have der2:(er == 16)=true:=by simpa using HE2.out.1
     clear h0 hop
     as_aux_lemma=>
      obtain rfl:=HE2.out.2.1
      have hsm:=fun W=>same0 W m kd v h a l c HE2.out.2.2.2.1 HE2.out.2.2.2.2.2.1 HE2.out.2.2.2.2.2.2.1 HE2.out.2.2.2.2.1 HE2.out.2.2.2.2.2.2.2
      go_wp2_with fail
      go_at_call 73
      refine (hsm w8).mono ?_
      rintro e wl ⟨rfl,hxl⟩
      have hxwl:=Ext.trans hxw8 hxl
      go_wp2_with fail
      go_ret
      exact ⟨rfl,hxwl⟩
   ·exact absurd hu' HU.out
  | true =>
   have HU:=Lib.hid (hb.1 rfl)
   clear hb hun hx8 hx57 hx17
   by_cases hop:op≠9∧op≠10∧op≠11∧op≠12
   ·as_aux_lemma =>
      have HBD:=Lib.hid (poss_bad (T:=T) (D:=D) hop HP.out)
      have hsm:=fun W=>same0 W m kd v h a l c HBD.out.2.1 HBD.out.2.2.2.1 HBD.out.2.2.2.2.1 HBD.out.2.2.1 HBD.out.2.2.2.2.2
      have der:(er == 3)=true:=by simpa using HBD.out.1
      have q9:(op != 9)=true:=by simpa [bne] using hop.1
      have q10:(op != 10)=true:=by simpa [bne] using hop.2.1
      have q11:(op != 11)=true:=by simpa [bne] using hop.2.2.1
      have q12:(op != 12)=true:=by simpa [bne] using hop.2.2.2
      have p9:(op == 9)=false:=by simpa using hop.1
      have p10:(op == 10)=false:=by simpa using hop.2.1
      have p11:(op == 11)=false:=by simpa using hop.2.2.1
      have p12:(op == 12)=false:=by simpa using hop.2.2.2
      clear hop
      go_wp2_with fail
      go_at_call 73
      refine (hsm w8).mono ?_
      rintro e wl ⟨rfl,hxl⟩
      have hxwl:=Ext.trans hxw8 hxl
      go_wp2_with fail
      go_ret
      exact ⟨rfl,hxwl⟩
   have HOP:=Lib.hid (show op=9∨op=10∨op=11∨op=12 from by omega)
   have HER:=Lib.hid (poss_er HOP.out HP.out)
   by_cases h0:er=0
   ·have der:(er == 0)=true:=by simpa using h0
    rcases HOP.out with rfl | rfl | rfl | rfl
    all_goals
     as_aux_lemma=>
      (go_wp2_with fail;go_ret;exact ⟨rfl,hxw8⟩)
   ·have HE2:=Lib.hid (show er=16∧op=9∧¬UnitW (T.wfn D.l) (tott T.en T.n)∧m=0∧h=false∧kd=0∧v=0∧l=0 from HER.out.resolve_left h0)
    have der:(er == 0)=false:=by simpa using h0
    have der2:(er == 16)=true:=by simpa using HE2.out.1
    clear h0 hop
    as_aux_lemma=>
     exact absurd HU.out HE2.out.2.2.1
 have hxw7:=hxw6.trans hx7
 have hx17:=hx16.trans hx7
 have hx57:=hx56.trans hx7
 obtain ⟨la,lc,rfl⟩:=hq.1.slice
 obtain ⟨ln,hln⟩:∃ z,z=R.length:=⟨_,rfl⟩
 have HCU:=Lib.hid hcu
 have HR0:=Lib.hid (show 0<R.length from by
  have h1:CutL T.toTr (rowOf T.n fun _=>0):=⟨rowOf_len _ _,(Tr.CutOk.zero T.toTr).congr fun p hp=>fn_rowOf hp⟩
  obtain ⟨x,hx,_⟩:=List.mem_map.1 ((HCU.out.2 _).2 h1)
  exact List.length_pos_of_mem hx)
 have HL5:=Lib.hid hl5
 have HQ:=Lib.hid hq
 have HX67:=Lib.hid (hx6.trans hx7)
 have HLN:=Lib.hid hln
 rw [←hln]
 have hun:=HUN.out w7 hxw7 HOK.out
 clear hx7 hx6 hx56 hx56' hx16 hxw6 hq hcu hl5 hln
 go_wp2_with fail
 go_at_call 29
 refine hun.mono ?_
 rintro e w8 ⟨b,rfl,hb,hx8⟩
 have hxw8:=hxw7.trans hx8
 have hx58:=hx57.trans hx8
 have hx78:=hx8
 cases b with
 | false =>
  have HU:=Lib.hid (show ¬UnitW (T.wfn D.l) (tott T.en T.n) from fun h=>absurd (hb.2 h) (by decide))
  clear hb hun hx8 hx57 hx17
  rcases HEX.out with ⟨c',hc',h0',_⟩ | ⟨_,_,he'⟩ | ⟨_,hu',_⟩
  ·exact absurd (nofault HOK.out hc') h0'
  ·obtain ⟨rfl,rfl,rfl,rfl⟩:=ex_inj he'
   clear he' HEX
   by_cases hop:op≠9∧op≠10∧op≠11∧op≠12
   ·as_aux_lemma =>
      have HBD:=Lib.hid (poss_bad (T:=T) (D:=D) hop HP.out)
      have hsm:=fun W=>same0 W m kd v h a l c HBD.out.2.1 HBD.out.2.2.2.1 HBD.out.2.2.2.2.1 HBD.out.2.2.1 HBD.out.2.2.2.2.2
      have der:(er == 3)=true:=by simpa using HBD.out.1
      have q9:(op != 9)=true:=by simpa [bne] using hop.1
      have q10:(op != 10)=true:=by simpa [bne] using hop.2.1
      have q11:(op != 11)=true:=by simpa [bne] using hop.2.2.1
      have q12:(op != 12)=true:=by simpa [bne] using hop.2.2.2
      have p9:(op == 9)=false:=by simpa using hop.1
      have p10:(op == 10)=false:=by simpa using hop.2.1
      have p11:(op == 11)=false:=by simpa using hop.2.2.1
      have p12:(op == 12)=false:=by simpa using hop.2.2.2
      clear hop
      go_wp2_with fail
      go_at_call 73
      refine (hsm w8).mono ?_
      rintro e wl ⟨rfl,hxl⟩
      have hxwl:=Ext.trans hxw8 hxl
      go_wp2_with fail
      go_ret
      exact ⟨rfl,hxwl⟩
   have HOP:=Lib.hid (show op=9∨op=10∨op=11∨op=12 from by omega)
   clear hop
   have hx1W:=HX15.out.trans hx58
   have hrp:=HRP.out w8 hxw8 w6.heap.size _ R (HQ.out.ext hx78) HCU.out HL5.out HB1.out HB2.out HOK.out
   rw [←HLN.out] at hrp
   have hpre:(op != 9 && op != 10 && op != 11 && op != 12)=false:=by rcases HOP.out with rfl | rfl | rfl | rfl <;> decide
   rcases HOP.out with hop | hop | hop | hop
   all_goals
    as_aux_lemma=>
     subst hop
     clear hpre
     go_wp2_with fail
     go_at_call 74
     refine hrp.mono ?_
     rintro e wn ⟨hxn,h',kd',a',l',c',v',g',o',u',rfl,hn',han⟩
     have HAE:=Lib.hid (poss_same HOK.out HCU.out HL5.out (by decide) HB1.out HB2.out HR1.out HR2.out HP.out han)
     have HN':=Lib.hid hn'
     have hxwn:=Ext.trans hxw8 hxn
     have hx5n:=Ext.trans hx58 hxn
     clear hn' han hrp
     go_upto_region 28 with fail
     refine boxed1 (w:=wn) (G:=fun x=>Code.wp _ _ _ _ x) ?_
     intro wb hxb hsb ⟨lb,cb,fb,kb⟩
     have hxbb:Ext wb wb:=Ext.refl _
     have hxwb:=hxwn.trans hxb
     have hx5b:=hx5n.trans hxb
     have hx1b:=HX15.out.trans hx5b
     clear hsb
     obtain ⟨e1,e2,e3,e4,e5,hcut⟩:=HAE.out
     clear HAE
     subst e1 e2 e3 e4 e5
     rcases hcut with ⟨g,o,u,hnu,hll,h0l,huu⟩ | ⟨ht,hl0,g,cc,hga,hln,hcn,hir,hcc,hkk⟩
     ·subst hll
      have HS1:=Lib.hid (fun W (x:Ext wb W)=>same1 W 1 kd v h a a' l c c' g o g' o' u u' ((hnu.ext (HX45.out.trans hx5b)).ext x) (((HN'.out.ext hxb)).ext x) huu)
      cases h with
      | true =>
       have hl1:=h0l rfl
       have dl:((l:Int) == 0)=false:=by simp;omega
       clear hnu h0l huu
       go_wp2_with fail
       go_at_call 73
       refine (HS1.out wb hxbb).mono ?_
       rintro e wl ⟨rfl,hxl⟩
       have hxwl:=hxwb.trans hxl
       go_wp2_with fail
       go_ret
       exact ⟨rfl,hxwl⟩
      | false =>
       clear hnu h0l huu
       go_wp2_with fail
       go_at_call 73
       refine (HS1.out wb hxbb).mono ?_
       rintro e wl ⟨rfl,hxl⟩
       have hxwl:=hxwb.trans hxl
       go_wp2_with fail
       go_ret
       exact ⟨rfl,hxwl⟩
     ·subst ht hl0 hga hln hcn
      have HIR:=Lib.hid (hir.ext (HX45.out.trans hx5b))
      have HIRG:=Lib.hid hir
      have HCC:=Lib.hid (And.intro hcc hkk)
      have dk:(k == k)=true:=by simp
      have hcall1:=HRC.out wb hxwb HV.out g cc HIR.out hcc
      clear hir hcc hkk
      go_wp2_with fail
      go_at_call 30
      refine hcall1.mono ?_
      rintro e wc ⟨rfl,hxc⟩
      have hxwc:=hxwb.trans hxc
      have hx5c:=hx5b.trans hxc
      have hx1c:=HX15.out.trans hx5c
      have hxbc:=hxc
      have hcall2:=HRVL.out wc hxwc HOK.out g cc (HIR.out.ext hxc) HCC.out.1 HCC.out.2
      clear hcall1
      go_wp2_with fail
      go_at_call 31
      refine hcall2.mono ?_
      rintro e wd ⟨rfl,hxd⟩
      have hxwd:=hxwc.trans hxd
      have hx5d:=hx5c.trans hxd
      have hxbd:=hxbc.trans hxd
      clear hcall2
      go_upto_region 32 with fail
      refine setm1 (G:=fun x=>Code.wp _ _ _ _ x) ?_
      intro we hwe
      have HBW:=Lib.hid (show w5.heap.size≤wn.heap.size from hx5n.le)
      have hx5e:Ext w5 we:=by rw [hwe];exact hx5d.setCell (by show w5.heap.size≤wn.heap.size;exact HBW.out) _
      have hxwe:Ext w we:=by rw [hwe];exact hxwd.setCell (by show w.heap.size≤wn.heap.size;have:=HBW.out;have:=HXW5.out.le;omega) _
      obtain ⟨le,ce,_,_⟩:=(show Hold we wn.heap.size #[.int .i64 1,.bool true,.int .i64 kd,.slice (some ⟨g,0,none⟩) T.n T.n,.slice none 0 0,.slice none 0 0,.slice none 0 0,.int .i64 v] from by rw [hwe];exact (Hold.ext (W:=wb) kb hxbd).set 3 _).box
      have HIE:=Lib.hid (show NumAt we T.n (some ⟨g,0,none⟩) g 0 (natV cc) from by
       rw [hwe]
       exact ((HIR.out.ext hxbd).num (by have:=HV.out.n8;omega)).blk (Below.heap_setCell _ _ _ _ (by show g≠wn.heap.size;have h1:=(show g<w4.heap.size from HIRG.out.lt);have:=HX45.out.le;have:=HBW.out;omega)) (Nat.le_of_eq (World.size_setCell _ _ _).symm))
      have hxee:Ext we we:=Ext.refl _
      clear hwe lb cb fb kb
      go_wp2_with fail
      go_at_call 73
      refine (same1 we 1 kd v true _ _ T.n T.n T.n g 0 g 0 (natV cc) (natV cc) HIE.out HIE.out fun _ _=>rfl).mono ?_
      rintro e wl ⟨rfl,hxl⟩
      have hxwl:=hxwe.trans hxl
      go_wp2_with fail
      go_ret
      exact ⟨rfl,hxwl⟩
  ·exact absurd hu' HU.out
 | true =>
  have HU:=Lib.hid (hb.1 rfl)
  have hmn:=HMIN.out w8 hxw8 HOK.out w6.heap.size _ R (HQ.out.ext hx78) HCU.out HL5.out HR0.out v1 y1 HB1.out
  rw [←HLN.out] at hmn
  have hx18:=HX15.out.trans hx58
  clear hb hun hx8 hx57 hx17
  go_wp2_with fail
  go_at_call 22
  refine hmn.mono ?_
  rintro e w9 ⟨hx9,s9,rfl⟩
  have hxw9:=hxw8.trans hx9
  have hx59:=hx58.trans hx9
  have hx19:=HX15.out.trans hx59
  have hx79:=hx78.trans hx9
  have hmx:=HMAX.out w9 hxw9 HOK.out w6.heap.size _ R (HQ.out.ext hx79) HCU.out HL5.out HR0.out v2 y2 HB2.out
  rw [←HLN.out] at hmx
  clear hmn
  go_wp2_with fail
  go_at_call 21
  refine hmx.mono ?_
  rintro e w10 ⟨hx10,s10,rfl⟩
  have hxw10:=hxw9.trans hx10
  have hx510:=hx59.trans hx10
  have hx110:=HX15.out.trans hx510
  have hx710:=hx79.trans hx10
  clear hmx hx9 hx10
  obtain ⟨low,hlow⟩:∃ z,z=- v1:=⟨_,rfl⟩
  have HLOW:=Lib.hid hlow
  rw [←hlow]
  have HLO:=Lib.hid (show low=(T.sumAt D.l fun _=>0)+T.toTr.atC (T.wfn D.l) y1∧∀ d,T.toTr.CutOk d→low≤(T.sumAt D.l fun _=>0)+T.toTr.atC (T.wfn D.l) d from by
   have h3:=HB1.out.val
   rw [Tr.atC_neg'] at h3
   exact ⟨by omega,fun d hd=>by have:=HB1.out.below hd;omega⟩)
  have HHI:=Lib.hid (show v2=(T.sumAt D.l fun _=>0)+T.toTr.atC (T.wfn D.l) y2∧∀ d,T.toTr.CutOk d→(T.sumAt D.l fun _=>0)+T.toTr.atC (T.wfn D.l) d≤v2 from ⟨HB2.out.val,fun d hd=>HB2.out.above hd⟩)
  clear hlow
  by_cases hout:k<low∨v2<k
  ·rcases HEX.out with ⟨c',hc',h0',_⟩ | ⟨_,hu',_⟩ | ⟨_,_,⟨cc,gg,he',hr',_,hc',hk'⟩ | ⟨he',_⟩⟩
   ·exact absurd (nofault HOK.out hc') h0'
   ·exact absurd HU.out hu'
   ·exfalso
    have h1:=HLO.out.2 cc hc'
    have h2:=HHI.out.2 cc hc'
    omega
   ·obtain ⟨rfl,rfl,rfl,rfl⟩:=ex_inj he'
    clear he' HEX
    by_cases h1:k<low
    ·have q1:decide (k<low)=true:=decide_eq_true h1
     clear hout h1
     by_cases hop:op≠9∧op≠10∧op≠11∧op≠12
     ·as_aux_lemma =>
        have HBD:=Lib.hid (poss_bad (T:=T) (D:=D) hop HP.out)
        have hsm:=fun W=>same0 W m kd v h a l c HBD.out.2.1 HBD.out.2.2.2.1 HBD.out.2.2.2.2.1 HBD.out.2.2.1 HBD.out.2.2.2.2.2
        have der:(er == 3)=true:=by simpa using HBD.out.1
        have q9:(op != 9)=true:=by simpa [bne] using hop.1
        have q10:(op != 10)=true:=by simpa [bne] using hop.2.1
        have q11:(op != 11)=true:=by simpa [bne] using hop.2.2.1
        have q12:(op != 12)=true:=by simpa [bne] using hop.2.2.2
        have p9:(op == 9)=false:=by simpa using hop.1
        have p10:(op == 10)=false:=by simpa using hop.2.1
        have p11:(op == 11)=false:=by simpa using hop.2.2.1
        have p12:(op == 12)=false:=by simpa using hop.2.2.2
        clear hop
        go_wp2_with fail
        go_at_call 73
        refine (hsm w10).mono ?_
        rintro e wl ⟨rfl,hxl⟩
        have hxwl:=Ext.trans hxw10 hxl
        go_wp2_with fail
        go_ret
        exact ⟨rfl,hxwl⟩
     have HOP:=Lib.hid (show op=9∨op=10∨op=11∨op=12 from by omega)
     clear hop
     have hx1W:=HX15.out.trans hx510
     have hrp:=HRP.out w10 hxw10 w6.heap.size _ R (HQ.out.ext hx710) HCU.out HL5.out HB1.out HB2.out HOK.out
     rw [←HLN.out] at hrp
     have hpre:(op != 9 && op != 10 && op != 11 && op != 12)=false:=by rcases HOP.out with rfl | rfl | rfl | rfl <;> decide
     rcases HOP.out with hop | hop | hop | hop
     all_goals
      as_aux_lemma=>
       subst hop
       clear hpre
       go_wp2_with fail
       go_at_call 74
       refine hrp.mono ?_
       rintro e wn ⟨hxn,h',kd',a',l',c',v',g',o',u',rfl,hn',han⟩
       have HAE:=Lib.hid (poss_same HOK.out HCU.out HL5.out (by decide) HB1.out HB2.out HR1.out HR2.out HP.out han)
       have HN':=Lib.hid hn'
       have hxwn:=Ext.trans hxw10 hxn
       have hx5n:=Ext.trans hx510 hxn
       clear hn' han hrp
       go_upto_region 28 with fail
       refine boxed1 (w:=wn) (G:=fun x=>Code.wp _ _ _ _ x) ?_
       intro wb hxb hsb ⟨lb,cb,fb,kb⟩
       have hxbb:Ext wb wb:=Ext.refl _
       have hxwb:=hxwn.trans hxb
       have hx5b:=hx5n.trans hxb
       have hx1b:=HX15.out.trans hx5b
       clear hsb
       obtain ⟨e1,e2,e3,e4,e5,hcut⟩:=HAE.out
       clear HAE
       subst e1 e2 e3 e4 e5
       rcases hcut with ⟨g,o,u,hnu,hll,h0l,huu⟩ | ⟨ht,hl0,g,cc,hga,hln,hcn,hir,hcc,hkk⟩
       ·subst hll
        have HS1:=Lib.hid (fun W (x:Ext wb W)=>same1 W 1 kd v h a a' l c c' g o g' o' u u' ((hnu.ext (HX45.out.trans hx5b)).ext x) (((HN'.out.ext hxb)).ext x) huu)
        cases h with
        | true =>
         have hl1:=h0l rfl
         have dl:((l:Int) == 0)=false:=by simp;omega
         clear hnu h0l huu
         go_wp2_with fail
         go_at_call 73
         refine (HS1.out wb hxbb).mono ?_
         rintro e wl ⟨rfl,hxl⟩
         have hxwl:=hxwb.trans hxl
         go_wp2_with fail
         go_ret
         exact ⟨rfl,hxwl⟩
        | false =>
         clear hnu h0l huu
         go_wp2_with fail
         go_at_call 73
         refine (HS1.out wb hxbb).mono ?_
         rintro e wl ⟨rfl,hxl⟩
         have hxwl:=hxwb.trans hxl
         go_wp2_with fail
         go_ret
         exact ⟨rfl,hxwl⟩
       ·subst ht hl0 hga hln hcn
        have HIR:=Lib.hid (hir.ext (HX45.out.trans hx5b))
        have HIRG:=Lib.hid hir
        have HCC:=Lib.hid (And.intro hcc hkk)
        have dk:(k == k)=true:=by simp
        have hcall1:=HRC.out wb hxwb HV.out g cc HIR.out hcc
        clear hir hcc hkk
        go_wp2_with fail
        go_at_call 30
        refine hcall1.mono ?_
        rintro e wc ⟨rfl,hxc⟩
        have hxwc:=hxwb.trans hxc
        have hx5c:=hx5b.trans hxc
        have hx1c:=HX15.out.trans hx5c
        have hxbc:=hxc
        have hcall2:=HRVL.out wc hxwc HOK.out g cc (HIR.out.ext hxc) HCC.out.1 HCC.out.2
        clear hcall1
        go_wp2_with fail
        go_at_call 31
        refine hcall2.mono ?_
        rintro e wd ⟨rfl,hxd⟩
        have hxwd:=hxwc.trans hxd
        have hx5d:=hx5c.trans hxd
        have hxbd:=hxbc.trans hxd
        clear hcall2
        go_upto_region 32 with fail
        refine setm1 (G:=fun x=>Code.wp _ _ _ _ x) ?_
        intro we hwe
        have HBW:=Lib.hid (show w5.heap.size≤wn.heap.size from hx5n.le)
        have hx5e:Ext w5 we:=by rw [hwe];exact hx5d.setCell (by show w5.heap.size≤wn.heap.size;exact HBW.out) _
        have hxwe:Ext w we:=by rw [hwe];exact hxwd.setCell (by show w.heap.size≤wn.heap.size;have:=HBW.out;have:=HXW5.out.le;omega) _
        obtain ⟨le,ce,_,_⟩:=(show Hold we wn.heap.size #[.int .i64 1,.bool true,.int .i64 kd,.slice (some ⟨g,0,none⟩) T.n T.n,.slice none 0 0,.slice none 0 0,.slice none 0 0,.int .i64 v] from by rw [hwe];exact (Hold.ext (W:=wb) kb hxbd).set 3 _).box
        have HIE:=Lib.hid (show NumAt we T.n (some ⟨g,0,none⟩) g 0 (natV cc) from by
         rw [hwe]
         exact ((HIR.out.ext hxbd).num (by have:=HV.out.n8;omega)).blk (Below.heap_setCell _ _ _ _ (by show g≠wn.heap.size;have h1:=(show g<w4.heap.size from HIRG.out.lt);have:=HX45.out.le;have:=HBW.out;omega)) (Nat.le_of_eq (World.size_setCell _ _ _).symm))
        have hxee:Ext we we:=Ext.refl _
        clear hwe lb cb fb kb
        go_wp2_with fail
        go_at_call 73
        refine (same1 we 1 kd v true _ _ T.n T.n T.n g 0 g 0 (natV cc) (natV cc) HIE.out HIE.out fun _ _=>rfl).mono ?_
        rintro e wl ⟨rfl,hxl⟩
        have hxwl:=hxwe.trans hxl
        go_wp2_with fail
        go_ret
        exact ⟨rfl,hxwl⟩
    ·have q1:decide (k<low)=false:=decide_eq_false h1
     have q2:decide (v2<k)=true:=decide_eq_true (hout.resolve_left h1)
     clear hout h1
     by_cases hop:op≠9∧op≠10∧op≠11∧op≠12
     ·as_aux_lemma =>
        have HBD:=Lib.hid (poss_bad (T:=T) (D:=D) hop HP.out)
        have hsm:=fun W=>same0 W m kd v h a l c HBD.out.2.1 HBD.out.2.2.2.1 HBD.out.2.2.2.2.1 HBD.out.2.2.1 HBD.out.2.2.2.2.2
        have der:(er == 3)=true:=by simpa using HBD.out.1
        have q9:(op != 9)=true:=by simpa [bne] using hop.1
        have q10:(op != 10)=true:=by simpa [bne] using hop.2.1
        have q11:(op != 11)=true:=by simpa [bne] using hop.2.2.1
        have q12:(op != 12)=true:=by simpa [bne] using hop.2.2.2
        have p9:(op == 9)=false:=by simpa using hop.1
        have p10:(op == 10)=false:=by simpa using hop.2.1
        have p11:(op == 11)=false:=by simpa using hop.2.2.1
        have p12:(op == 12)=false:=by simpa using hop.2.2.2
        clear hop
        go_wp2_with fail
        go_at_call 73
        refine (hsm w10).mono ?_
        rintro e wl ⟨rfl,hxl⟩
        have hxwl:=Ext.trans hxw10 hxl
        go_wp2_with fail
        go_ret
        exact ⟨rfl,hxwl⟩
     have HOP:=Lib.hid (show op=9∨op=10∨op=11∨op=12 from by omega)
     clear hop
     have hx1W:=HX15.out.trans hx510
     have hrp:=HRP.out w10 hxw10 w6.heap.size _ R (HQ.out.ext hx710) HCU.out HL5.out HB1.out HB2.out HOK.out
     rw [←HLN.out] at hrp
     have hpre:(op != 9 && op != 10 && op != 11 && op != 12)=false:=by rcases HOP.out with rfl | rfl | rfl | rfl <;> decide
     rcases HOP.out with hop | hop | hop | hop
     all_goals
      as_aux_lemma=>
       subst hop
       clear hpre
       go_wp2_with fail
       go_at_call 74
       refine hrp.mono ?_
       rintro e wn ⟨hxn,h',kd',a',l',c',v',g',o',u',rfl,hn',han⟩
       have HAE:=Lib.hid (poss_same HOK.out HCU.out HL5.out (by decide) HB1.out HB2.out HR1.out HR2.out HP.out han)
       have HN':=Lib.hid hn'
       have hxwn:=Ext.trans hxw10 hxn
       have hx5n:=Ext.trans hx510 hxn
       clear hn' han hrp
       go_upto_region 28 with fail
       refine boxed1 (w:=wn) (G:=fun x=>Code.wp _ _ _ _ x) ?_
       intro wb hxb hsb ⟨lb,cb,fb,kb⟩
       have hxbb:Ext wb wb:=Ext.refl _
       have hxwb:=hxwn.trans hxb
       have hx5b:=hx5n.trans hxb
       have hx1b:=HX15.out.trans hx5b
       clear hsb
       obtain ⟨e1,e2,e3,e4,e5,hcut⟩:=HAE.out
       clear HAE
       subst e1 e2 e3 e4 e5
       rcases hcut with ⟨g,o,u,hnu,hll,h0l,huu⟩ | ⟨ht,hl0,g,cc,hga,hln,hcn,hir,hcc,hkk⟩
       ·subst hll
        have HS1:=Lib.hid (fun W (x:Ext wb W)=>same1 W 1 kd v h a a' l c c' g o g' o' u u' ((hnu.ext (HX45.out.trans hx5b)).ext x) (((HN'.out.ext hxb)).ext x) huu)
        cases h with
        | true =>
         have hl1:=h0l rfl
         have dl:((l:Int) == 0)=false:=by simp;omega
         clear hnu h0l huu
         go_wp2_with fail
         go_at_call 73
         refine (HS1.out wb hxbb).mono ?_
         rintro e wl ⟨rfl,hxl⟩
         have hxwl:=hxwb.trans hxl
         go_wp2_with fail
         go_ret
         exact ⟨rfl,hxwl⟩
        | false =>
         clear hnu h0l huu
         go_wp2_with fail
         go_at_call 73
         refine (HS1.out wb hxbb).mono ?_
         rintro e wl ⟨rfl,hxl⟩
         have hxwl:=hxwb.trans hxl
         go_wp2_with fail
         go_ret
         exact ⟨rfl,hxwl⟩
       ·subst ht hl0 hga hln hcn
        have HIR:=Lib.hid (hir.ext (HX45.out.trans hx5b))
        have HIRG:=Lib.hid hir
        have HCC:=Lib.hid (And.intro hcc hkk)
        have dk:(k == k)=true:=by simp
        have hcall1:=HRC.out wb hxwb HV.out g cc HIR.out hcc
        clear hir hcc hkk
        go_wp2_with fail
        go_at_call 30
        refine hcall1.mono ?_
        rintro e wc ⟨rfl,hxc⟩
        have hxwc:=hxwb.trans hxc
        have hx5c:=hx5b.trans hxc
        have hx1c:=HX15.out.trans hx5c
        have hxbc:=hxc
        have hcall2:=HRVL.out wc hxwc HOK.out g cc (HIR.out.ext hxc) HCC.out.1 HCC.out.2
        clear hcall1
        go_wp2_with fail
        go_at_call 31
        refine hcall2.mono ?_
        rintro e wd ⟨rfl,hxd⟩
        have hxwd:=hxwc.trans hxd
        have hx5d:=hx5c.trans hxd
        have hxbd:=hxbc.trans hxd
        clear hcall2
        go_upto_region 32 with fail
        refine setm1 (G:=fun x=>Code.wp _ _ _ _ x) ?_
        intro we hwe
        have HBW:=Lib.hid (show w5.heap.size≤wn.heap.size from hx5n.le)
        have hx5e:Ext w5 we:=by rw [hwe];exact hx5d.setCell (by show w5.heap.size≤wn.heap.size;exact HBW.out) _
        have hxwe:Ext w we:=by rw [hwe];exact hxwd.setCell (by show w.heap.size≤wn.heap.size;have:=HBW.out;have:=HXW5.out.le;omega) _
        obtain ⟨le,ce,_,_⟩:=(show Hold we wn.heap.size #[.int .i64 1,.bool true,.int .i64 kd,.slice (some ⟨g,0,none⟩) T.n T.n,.slice none 0 0,.slice none 0 0,.slice none 0 0,.int .i64 v] from by rw [hwe];exact (Hold.ext (W:=wb) kb hxbd).set 3 _).box
        have HIE:=Lib.hid (show NumAt we T.n (some ⟨g,0,none⟩) g 0 (natV cc) from by
         rw [hwe]
         exact ((HIR.out.ext hxbd).num (by have:=HV.out.n8;omega)).blk (Below.heap_setCell _ _ _ _ (by show g≠wn.heap.size;have h1:=(show g<w4.heap.size from HIRG.out.lt);have:=HX45.out.le;have:=HBW.out;omega)) (Nat.le_of_eq (World.size_setCell _ _ _).symm))
        have hxee:Ext we we:=Ext.refl _
        clear hwe lb cb fb kb
        go_wp2_with fail
        go_at_call 73
        refine (same1 we 1 kd v true _ _ T.n T.n T.n g 0 g 0 (natV cc) (natV cc) HIE.out HIE.out fun _ _=>rfl).mono ?_
        rintro e wl ⟨rfl,hxl⟩
        have hxwl:=hxwe.trans hxl
        go_wp2_with fail
        go_ret
        exact ⟨rfl,hxwl⟩
  ·have q1:decide (k<low)=false:=decide_eq_false (fun h=>hout (.inl h))
   have q2:decide (v2<k)=false:=decide_eq_false (fun h=>hout (.inr h))
   rcases HEX.out with ⟨c',hc',h0',_⟩ | ⟨_,hu',_⟩ | ⟨_,_,⟨cc,gg,he',hr',_,hc',hk'⟩ | ⟨_,ho'⟩⟩
   ·exact absurd (nofault HOK.out hc') h0'
   ·exact absurd HU.out hu'
   ·obtain ⟨rfl,rfl,rfl,rfl⟩:=ex_inj he'
    have HIR0:=Lib.hid (And.intro (hr'.ext (HX67.out.trans hx710)) (And.intro hc' hk'))
    have dkk:(k == k)=true:=by simp
    clear hr' hc' hk' he' HEX hout
    go_wp2_with fail
    go_at_call 30
    refine (HRC.out w10 hxw10 HV.out gg cc HIR0.out.1 HIR0.out.2.1).mono ?_
    rintro e w11 ⟨rfl,hx11a⟩
    have hxw11:=hxw10.trans hx11a
    have hx511:=hx510.trans hx11a
    have hx111:=HX15.out.trans hx511
    have hx711:=hx710.trans hx11a
    go_wp2_with fail
    go_at_call 31
    refine (HRVL.out w11 hxw11 HOK.out gg cc (HIR0.out.1.ext hx11a) HIR0.out.2.1 HIR0.out.2.2).mono ?_
    rintro e w12 ⟨rfl,hx12a⟩
    have hxw12:=hxw11.trans hx12a
    have hx512:=hx511.trans hx12a
    have hx712:=hx711.trans hx12a
    clear hx11a hx12a hx511 hx711 hxw11
    by_cases hop:op≠9∧op≠10∧op≠11∧op≠12
    ·as_aux_lemma =>
       have HBD:=Lib.hid (poss_bad (T:=T) (D:=D) hop HP.out)
       have hsm:=fun W=>same0 W m kd v h a l c HBD.out.2.1 HBD.out.2.2.2.1 HBD.out.2.2.2.2.1 HBD.out.2.2.1 HBD.out.2.2.2.2.2
       have der:(er == 3)=true:=by simpa using HBD.out.1
       have q9:(op != 9)=true:=by simpa [bne] using hop.1
       have q10:(op != 10)=true:=by simpa [bne] using hop.2.1
       have q11:(op != 11)=true:=by simpa [bne] using hop.2.2.1
       have q12:(op != 12)=true:=by simpa [bne] using hop.2.2.2
       have p9:(op == 9)=false:=by simpa using hop.1
       have p10:(op == 10)=false:=by simpa using hop.2.1
       have p11:(op == 11)=false:=by simpa using hop.2.2.1
       have p12:(op == 12)=false:=by simpa using hop.2.2.2
       clear hop
       go_wp2_with fail
       go_at_call 73
       refine (hsm w12).mono ?_
       rintro e wl ⟨rfl,hxl⟩
       have hxwl:=Ext.trans hxw12 hxl
       go_wp2_with fail
       go_ret
       exact ⟨rfl,hxwl⟩
    have HOP:=Lib.hid (show op=9∨op=10∨op=11∨op=12 from by omega)
    clear hop
    have hx1W:=HX15.out.trans hx512
    have hrp:=HRP.out w12 hxw12 w6.heap.size _ R (HQ.out.ext hx712) HCU.out HL5.out HB1.out HB2.out HOK.out
    rw [←HLN.out] at hrp
    have hpre:(op != 9 && op != 10 && op != 11 && op != 12)=false:=by rcases HOP.out with rfl | rfl | rfl | rfl <;> decide
    rcases HOP.out with hop | hop | hop | hop
    all_goals
     as_aux_lemma=>
      subst hop
      clear hpre
      go_wp2_with fail
      go_at_call 74
      refine hrp.mono ?_
      rintro e wn ⟨hxn,h',kd',a',l',c',v',g',o',u',rfl,hn',han⟩
      have HAE:=Lib.hid (poss_same HOK.out HCU.out HL5.out (by decide) HB1.out HB2.out HR1.out HR2.out HP.out han)
      have HN':=Lib.hid hn'
      have hxwn:=Ext.trans hxw12 hxn
      have hx5n:=Ext.trans hx512 hxn
      clear hn' han hrp
      go_upto_region 28 with fail
      refine boxed1 (w:=wn) (G:=fun x=>Code.wp _ _ _ _ x) ?_
      intro wb hxb hsb ⟨lb,cb,fb,kb⟩
      have hxbb:Ext wb wb:=Ext.refl _
      have hxwb:=hxwn.trans hxb
      have hx5b:=hx5n.trans hxb
      have hx1b:=HX15.out.trans hx5b
      clear hsb
      obtain ⟨e1,e2,e3,e4,e5,hcut⟩:=HAE.out
      clear HAE
      subst e1 e2 e3 e4 e5
      rcases hcut with ⟨g,o,u,hnu,hll,h0l,huu⟩ | ⟨ht,hl0,g,cc,hga,hln,hcn,hir,hcc,hkk⟩
      ·subst hll
       have HS1:=Lib.hid (fun W (x:Ext wb W)=>same1 W 1 kd v h a a' l c c' g o g' o' u u' ((hnu.ext (HX45.out.trans hx5b)).ext x) (((HN'.out.ext hxb)).ext x) huu)
       cases h with
       | true =>
        have hl1:=h0l rfl
        have dl:((l:Int) == 0)=false:=by simp;omega
        clear hnu h0l huu
        go_wp2_with fail
        go_at_call 73
        refine (HS1.out wb hxbb).mono ?_
        rintro e wl ⟨rfl,hxl⟩
        have hxwl:=hxwb.trans hxl
        go_wp2_with fail
        go_ret
        exact ⟨rfl,hxwl⟩
       | false =>
        clear hnu h0l huu
        go_wp2_with fail
        go_at_call 73
        refine (HS1.out wb hxbb).mono ?_
        rintro e wl ⟨rfl,hxl⟩
        have hxwl:=hxwb.trans hxl
        go_wp2_with fail
        go_ret
        exact ⟨rfl,hxwl⟩
      ·subst ht hl0 hga hln hcn
       have HIR:=Lib.hid (hir.ext (HX45.out.trans hx5b))
       have HIRG:=Lib.hid hir
       have HCC:=Lib.hid (And.intro hcc hkk)
       have dk:(k == k)=true:=by simp
       have hcall1:=HRC.out wb hxwb HV.out g cc HIR.out hcc
       clear hir hcc hkk
       go_wp2_with fail
       go_at_call 30
       refine hcall1.mono ?_
       rintro e wc ⟨rfl,hxc⟩
       have hxwc:=hxwb.trans hxc
       have hx5c:=hx5b.trans hxc
       have hx1c:=HX15.out.trans hx5c
       have hxbc:=hxc
       have hcall2:=HRVL.out wc hxwc HOK.out g cc (HIR.out.ext hxc) HCC.out.1 HCC.out.2
       clear hcall1
       go_wp2_with fail
       go_at_call 31
       refine hcall2.mono ?_
       rintro e wd ⟨rfl,hxd⟩
       have hxwd:=hxwc.trans hxd
       have hx5d:=hx5c.trans hxd
       have hxbd:=hxbc.trans hxd
       clear hcall2
       go_upto_region 32 with fail
       refine setm1 (G:=fun x=>Code.wp _ _ _ _ x) ?_
       intro we hwe
       have HBW:=Lib.hid (show w5.heap.size≤wn.heap.size from hx5n.le)
       have hx5e:Ext w5 we:=by rw [hwe];exact hx5d.setCell (by show w5.heap.size≤wn.heap.size;exact HBW.out) _
       have hxwe:Ext w we:=by rw [hwe];exact hxwd.setCell (by show w.heap.size≤wn.heap.size;have:=HBW.out;have:=HXW5.out.le;omega) _
       obtain ⟨le,ce,_,_⟩:=(show Hold we wn.heap.size #[.int .i64 1,.bool true,.int .i64 kd,.slice (some ⟨g,0,none⟩) T.n T.n,.slice none 0 0,.slice none 0 0,.slice none 0 0,.int .i64 v] from by rw [hwe];exact (Hold.ext (W:=wb) kb hxbd).set 3 _).box
       have HIE:=Lib.hid (show NumAt we T.n (some ⟨g,0,none⟩) g 0 (natV cc) from by
        rw [hwe]
        exact ((HIR.out.ext hxbd).num (by have:=HV.out.n8;omega)).blk (Below.heap_setCell _ _ _ _ (by show g≠wn.heap.size;have h1:=(show g<w4.heap.size from HIRG.out.lt);have:=HX45.out.le;have:=HBW.out;omega)) (Nat.le_of_eq (World.size_setCell _ _ _).symm))
       have hxee:Ext we we:=Ext.refl _
       clear hwe lb cb fb kb
       go_wp2_with fail
       go_at_call 73
       refine (same1 we 1 kd v true _ _ T.n T.n T.n g 0 g 0 (natV cc) (natV cc) HIE.out HIE.out fun _ _=>rfl).mono ?_
       rintro e wl ⟨rfl,hxl⟩
       have hxwl:=hxwe.trans hxl
       go_wp2_with fail
       go_ret
       exact ⟨rfl,hxwl⟩
   ·exfalso
    have h1:=HLO.out.1
    have h2:=HHI.out.1
    rcases ho' with ho' | ho'
    ·have:=ho' y1 HB1.out.cut;omega
    ·have:=ho' y2 HB2.out.cut;omega
set_option maxRecDepth 100000 in
theorem lifted (os : Os) (started : os.Started) (H : Type) (enc : TypeId × Value → H) :
    ReturnsInHanded {} Tryz.checked os 13 .any (Rows.sumsPossiblySpec.pre6 enc Tryz.prog Tryz.f13 Rows.sumsPossiblyRow.domain false) (Rows.sumsPossiblySpec.post enc Tryz.prog Tryz.f13 false true false false):=by
 refine returnsInHanded_of_change_sized (C:=Tryz.checked) own14 started (by kernel_rfl) Tryz.func13
  (ChangeSpec.witness6 (enc:=enc) (C:=Tryz.checked) false ⟨#[],#[.agg #[.slice none 0 0],.slice none 0 0,.int .i64 0,.int .i64 0],[]⟩ 8 (by kernel_rfl) (by kernel_rfl) (by kernel_rfl) (by kernel_rfl)) ?_
 intro W base args ds gs before hval0 hW _ hsz0 _
 have hsz1:(DataW.weightsEach Tryz.prog (Tryz.f13.params.toList++Rows.sumsPossiblySpec.plain.varTypes Tryz.prog) (ds++gs)).all (·≤reachBytes)=true:=hsz0
 clear hsz0
 have hval:∀ (j:Nat) t v,Tryz.f13.params[j]?=some t→args[j]?=some v→Value.okWide Tryz.prog W .any base t v:=hval0
 have hW':=hW
 obtain ⟨p,q,hA0,hV,rfl,hfz,hnd⟩:=hW
 have hA:DataW.TrodAll enc Tryz.prog W 0 (fun _=>true) true Tryz.f13.params.toList args.toList ds p:=hA0
 rw [Tryz.params13] at hA hval hsz1
 obtain ⟨v0,vs0,d0,ds0,p0,q0,hargs,rfl,rfl,h0,r0⟩:=trodAll_cons hA
 obtain ⟨v1,vs1,d1,ds1,p1,q1,rfl,rfl,rfl,h1,r1⟩:=trodAll_cons r0
 obtain ⟨v2,vs2,d2,ds2,p2,q2,rfl,rfl,rfl,h2,r2⟩:=trodAll_cons r1
 obtain ⟨v3,vs3,d3,ds3,p3,q3,rfl,rfl,rfl,h3,r3⟩:=trodAll_cons r2
 obtain ⟨rfl,rfl,rfl⟩:=trodAll_nil r3
 obtain rfl:args=#[v0,v1,v2,v3]:=by cases args;simp_all
 obtain ⟨rfl,rfl⟩:=trodVars_none hV
 obtain ⟨T0,rfl,hT0⟩:=arg_trace (hval 0 24 v0 rfl rfl) h0 (small_of hsz1 (j:=0) rfl rfl)
 obtain ⟨D1,rfl,hD1⟩:=arg_terms (hval 1 25 v1 rfl rfl) h1 (small_of hsz1 (j:=1) rfl rfl)
 obtain ⟨a2,rfl,rfl,rfl,w2⟩:=open_int Tryz.underlying3 (hval 2 3 v2 rfl rfl) h2
 obtain ⟨a3,rfl,rfl,rfl,w3⟩:=open_int Tryz.underlying3 (hval 3 3 v3 rfl rfl) h3
 clear hA0 hval0 hsz1
 simp only [List.append_nil] at hW'
 have hl1:∀ x∈p1,x.block<W.heap.size:=fun x hx=>hW'.lt x (by simp [hx])
 have hl0:∀ x∈p0,x.block<W.heap.size:=fun x hx=>hW'.lt x (by simp [hx])
 refine (walk T0 D1 a2 a3 W hT0 hD1).mono fun e W' ⟨he,hg⟩=>?_
 subst he
 exact ⟨_,rfl,post_ext1 (pa:=(p0++(p1++([]++([]++[]))))) (pv:=[]) hW' (fun _ _ _=>(trodAll_cons_mk (shut_bool Tryz.underlying4 _) trodAll_mk0)) (trodAll_cons_mk (Below.trod laid14 (by kernel_rfl) (of_decide_eq_true (by kernel_rfl)) h0 hg.below hl0) (trodAll_cons_mk (Below.trod laid14 (by kernel_rfl) (of_decide_eq_true (by kernel_rfl)) h1 hg.below hl1) (trodAll_cons_mk (shut_int Tryz.underlying3 w2) (trodAll_cons_mk (shut_int Tryz.underlying3 w3) trodAll_mk0)))) rfl hg⟩
theorem j0:(Rows.sumsPossiblyRow.wf (OpenSpec.ofChange Rows.sumsPossiblySpec))=true:=by kernel_rfl
theorem j1:(laidOutB Tryz.pinned.checked.prog)=true:=by kernel_rfl
theorem j2:(mapsRowed Tryz.pinned.checked.prog)=true:=by kernel_rfl
theorem j3:(Tryz.f13.params.all (Tryz.pinned.checked.prog.readableRec ·))=true:=by kernel_rfl
theorem j4:(namedTie Tryz.pinned.checked.prog Rows.sumsPossiblyRow.named Rows.sumsPossiblySpec.vars)=true:=by kernel_rfl
theorem j5:(Rows.sumsPossiblyRow.stops == [])=true:=by kernel_rfl
theorem j6:(Tryz.pinned.checked.prog.stops == [])=true:=by kernel_rfl
theorem j7:(Rows.sumsPossiblyRow.knobs == [])=true:=by kernel_rfl
theorem j8:(Tryz.pinned.checked.prog.stopKnobs == [])=true:=by kernel_rfl
theorem j9:(Rows.sumsPossiblyRow.inPlace == Tryz.pinned.checked.prog.inPlace 13)=true:=by kernel_rfl
theorem j10:(Rows.sumsPossiblyRow.unfollowed == Tryz.pinned.checked.prog.unfollowed 13)=true:=by kernel_rfl
theorem j11:(Rows.sumsPossiblyRow.recurses == Tryz.pinned.checked.prog.recurses 13)=true:=by kernel_rfl
theorem j12:(Rows.sumsPossiblyRow.named == Tryz.pinned.checked.prog.varsNamed 13)=true:=by kernel_rfl
theorem j13:(Rows.sumsPossiblyRow.maps == (Tryz.f13.params.toList++Rows.sumsPossiblySpec.plain.varTypes Tryz.pinned.checked.prog).any (Tryz.pinned.checked.prog.mapsRec ·))=true:=by kernel_rfl
theorem j14:(Rows.sumsPossiblyRow.ifaces == (Tryz.f13.params.toList++Rows.sumsPossiblySpec.plain.varTypes Tryz.pinned.checked.prog).any (Tryz.pinned.checked.prog.ifacesRec ·))=true:=by kernel_rfl
theorem j15:(Rows.sumsPossiblyRow.mapsOut == Tryz.pinned.checked.prog.mapsAmong Tryz.f13.resultTypes.toList)=true:=by kernel_rfl
theorem j16:(Rows.sumsPossiblyRow.loops == (Tryz.f13.params.toList++Rows.sumsPossiblySpec.plain.varTypes Tryz.pinned.checked.prog).any (Tryz.pinned.checked.prog.loopsFrom ·))=true:=by kernel_rfl
theorem j17:(Rows.sumsPossiblyRow.wideKeys == (Tryz.f13.params.toList++Rows.sumsPossiblySpec.plain.varTypes Tryz.pinned.checked.prog++Tryz.f13.resultTypes.toList).any (Tryz.pinned.checked.prog.wideKeysFrom ·))=true:=by kernel_rfl
theorem j18:(Rows.sumsPossiblySpec.vars.all (Tryz.pinned.checked.prog.varReadable ·))=true:=by kernel_rfl
theorem j19:(Tryz.f13.resultTypes.all (fun t=>Tryz.pinned.checked.prog.readableRec t && decide (t<Tryz.pinned.checked.prog.types.size)))=true:=by kernel_rfl
theorem j20:(Rows.sumsPossiblyRow.ifacesOut == Tryz.f13.resultTypes.toList.any (Tryz.pinned.checked.prog.ifacesRec ·))=true:=by kernel_rfl
theorem j21:(Rows.sumsPossiblyRow.loopsOut == Tryz.f13.resultTypes.toList.any (Tryz.pinned.checked.prog.loopsFrom ·))=true:=by kernel_rfl
theorem j22:(Rows.sumsPossiblyRow.plainKeys == Tryz.pinned.checked.prog.plainKeys)=true:=by kernel_rfl
theorem j23:(Rows.sumsPossiblyRow.shortTexts.isNone)=true:=by kernel_rfl
theorem j24:(Tryz.pinned.checked.prog.stopsHeard)=true:=by kernel_rfl
theorem j25:(Tryz.pinned.checked.prog.mayEnter)=true:=by kernel_rfl
theorem j26:(Rows.sumsPossiblyRow.lifted == Tryz.pinned.checked.prog.liftsFinal)=true:=by kernel_rfl
theorem j27:(Tryz.pinned.checked.prog.make == some Rows.sumsPossiblyRow.make)=true:=by kernel_rfl
theorem j28:(Rows.sumsPossiblyRow.kinds == (if Rows.sumsPossiblyRow.domain.isEmpty then [] else Tryz.f13.params.toList.map fun t=>match Tryz.pinned.checked.prog.underlying t with | some (.int k)=>some k | _=>none))=true:=by kernel_rfl
theorem j29:(Rows.sumsPossiblyRow.pinned == Rows.sumsPossiblyRow.pinnedBy)=true:=by kernel_rfl
theorem j30:(Rows.sumsPossiblyRow.veiled == (Tryz.f13.params.toList++Rows.sumsPossiblySpec.plain.varTypes Tryz.pinned.checked.prog++Tryz.f13.resultTypes.toList).any (Tryz.pinned.checked.prog.veiledRec ·))=true:=by kernel_rfl
theorem j31:(Rows.sumsPossiblyRow.veiledFits Tryz.pinned.checked.prog Tryz.f13.params.toList (Tryz.f13.params.toList++Rows.sumsPossiblySpec.plain.varTypes Tryz.pinned.checked.prog++Tryz.f13.resultTypes.toList))=true:=by kernel_rfl
set_option maxRecDepth 100000 in
theorem closed:joinedFacts Tryz.pinned.checked.prog 13 Tryz.f13 Rows.sumsPossiblySpec Rows.sumsPossiblyRow=true:=by
 unfold joinedFacts
 rw [j0,j1,j2,j3,j4,j5,j6,j7,j8,j9,j10,j11,j12,j13,j14,j15,j16,j17,j18,j19,j20,j21,j22,j23,j24,j25,j26,j27,j29,j30,j31]
 simp only [Bool.true_and,Bool.and_true]
 first | exact j28 | kernel_rfl
theorem over:Rows.sumsPossiblyRow.holds Tryz.pinned (OpenSpec.ofChange Rows.sumsPossiblySpec):=
 OpenClaim.holds_of_wide 13 Tryz.f13 rfl rfl rfl rfl rfl rfl rfl ⟨rfl,rfl,rfl,rfl,rfl⟩ rfl rfl rfl rfl rfl (by kernel_rfl) Tryz.func13 closed
  (of_decide_eq_true (by kernel_rfl)) (by unfold Func.isWrapper;first | (rw [if_pos (by decide +kernel)];kernel_rfl) | (rw [if_neg (by decide +kernel)];exact ⟨rfl,rfl⟩))
  (fun os started H enc _=>lifted os started H enc)
theorem proved:Rows.SumsPossiblySaid:=
 over
#print axioms proved
end Go.Proofs.YtnknkkmdbnaglaaGreat.sumsPossibly
