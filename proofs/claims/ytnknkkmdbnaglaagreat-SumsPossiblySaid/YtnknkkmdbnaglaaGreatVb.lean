/- Contracts and laws in plain Lean for SPos: group Vb. -/
import Derived.Test.YtnknkkmdbnaglaaGreatUx
import Derived.Test.YtnknkkmdbnaglaaGreatVa
import Derived.Test.YtnknkkmdbnaglaaGreatUs
import Derived.Test.YtnknkkmdbnaglaaGreatUw
set_option maxRecDepth 100000
namespace Go.Proofs.YtnknkkmdbnaglaaGreat
open Go.RowKit Go.Shelf
attribute [local go_sem] Oper.semAt_some
abbrev natV (c:Nat→Nat):Nat→Int:=fun p=>(c p:Int)
theorem cut_isCut {T:Tr} (hV:T.Valid) {c:Nat→Nat} (h:T.CutOk c):T.IsCut T.n (natV c):=by
 refine ⟨⟨hV,rfl⟩,fun p hp=>?_,fun x hx hl h3=>?_⟩
 ·have:=h.le p hp
  show 0≤(c p:Int)∧(c p:Int)≤T.en p
  omega
 ·have hl':(x.2:Int)<(c x.1:Int):=hl
  have h1:=h.cl x hx (by omega) h3
  show ((T.sndN x).2:Int)<(c (T.sndN x).1:Int)
  omega
theorem boxdr1 {w : World} {c : Array Value} {t : TypeId} {G : World → Prop}
    (h:∀ w2,Ext w w2→w2.heap.size=w.heap.size+1→Box w2 w.heap.size c→G w2):G (w.alloc (.cells c t)).drew:=
 h _ (Ext.alloc _ _).drew (by simp) ((Box.of (t:=t) (by show (w.heap.push _)[w.heap.size]?=_;simp):Box (w.alloc (.cells c t)) w.heap.size c).ext (Ext.refl _).drew)
set_option maxHeartbeats 2000000 in
theorem cen1_any (w : World) (T : TM) (hT : T.At w) (hV : T.toTr.Valid) (a : Option Addr) (g o cap : Nat) (c : Nat → Nat) (hC : NumAt w T.n a g o (natV c)) (p : Nat) (hp : p < T.n) (hl : c p < T.en p) :
    Calls Tryz.prog 275 #[T.val,.slice a T.n cap,.int .i64 p] w (BoolPost (T.toTr.On c p) w):=by
 have hn8:=hV.n8
 have hen:=hV.en64 hp
 have hSnd:=fun (h3:T.kind p (c p)=3) W (hx:Ext w W)=>(show Calls Tryz.prog 162 #[T.val,.int .i64 (T.msg p (c p))] W (fun e w'=>e=.returned (.tuple #[.agg #[.int .i64 (T.toTr.sndN (p,c p)).1,.int .i64 ((T.toTr.sndN (p,c p)).2+1)],.bool true])∧Ext W w') from
  (sender_any W T (hT.ext hx) hV _).mono fun e w' ⟨hx',p',q,b,he,hf⟩=>by
   obtain ⟨hp',hq,hb⟩:=hV.found (x:=⟨(p,c p),hp,hl⟩) h3 hf
   rw [←Tr.sndN_eq] at hp' hq
   exact ⟨by rw [he,hp',hq,hb],hx'⟩)
 have HT:=Lib.hid hT
 have HC:=Lib.hid hC
 have HON:=Lib.hid (show T.toTr.On c p↔(T.kind p (c p)=3→(T.toTr.sndN (p,c p)).2<c (T.toTr.sndN (p,c p)).1) from ⟨fun h=>h.2,fun h=>⟨hl,h⟩⟩)
 obtain ⟨rfl⟩:a=some ⟨g,o,none⟩:=hC.pa (by omega)
 have pa:=hT.P.pa (by omega)
 simp only [TM.val,pa] at hSnd ⊢
 have HSnd:=Lib.hid hSnd
 have hsV:T.toTr.V (T.toTr.sndN (p,c p)):=T.toTr.sndN_V (y:=(p,c p)) ⟨hp,hl⟩
 have HSV:=Lib.hid hsV
 obtain ⟨k,hk⟩:∃ k,k=c p:=⟨_,rfl⟩
 have HKE:=Lib.hid hk
 clear hT hV hC hSnd pa hsV
 go_enter Tryz.func275,Tryz.ntmps275
 go_upto_region 1 with fail
 refine boxed1 (w:=w) (G:=fun x=>Code.wp _ _ _ _ x) ?_
 intro w4 hx4 hs4 ⟨l4,c4,_,_⟩
 have hx44:Ext w4 w4:=Ext.refl _
 have pb:=HT.out.P.pb (by omega)
 have gb:∀ w',Ext w4 w'→g<w'.heap.size:=fun w' x=>Nat.lt_of_lt_of_le (HC.out.pb (by omega)) (hx4.trans x).le
 have gc:∀ w',Ext w4 w'→w'.cell? ⟨g,o+p,none⟩=some (.int .i64 (k:Int)):=fun w' x=>by rw [hk];exact (hx4.trans x).cell (HC.out.c p hp)
 have hpn':(p:Int)<(T.n:Int):=by omega
 have hkl:k<T.en p:=by omega
 have hkl':(k:Int)<(T.en p:Int):=by omega
 have ea:=HT.out.E.ea p hp (by omega)
 have eb:=HT.out.E.eb p hp (by omega)
 have p24:∀ w',Ext w4 w'→w'.cell? ⟨T.b,T.off+p*3+2,none⟩=some (.slice (T.ea p) (T.en p) (T.ec p)):=fun w' h=>HT.out.P.p2 w' (hx4.trans h) p hp
 have e0:∀ w',Ext w4 w'→w'.cell? ⟨T.eb p,T.eo p+k*5,none⟩=some (.int .i64 (T.kind p k)):=fun w' h=>HT.out.E.e0 w' (hx4.trans h) p k hp hkl
 have e1:∀ w',Ext w4 w'→w'.cell? ⟨T.eb p,T.eo p+k*5+1,none⟩=some (.int .i64 (T.peer p k)):=fun w' h=>HT.out.E.e1 w' (hx4.trans h) p k hp hkl
 have e2:∀ w',Ext w4 w'→w'.cell? ⟨T.eb p,T.eo p+k*5+2,none⟩=some (.int .i64 (T.msg p k)):=fun w' h=>HT.out.E.e2 w' (hx4.trans h) p k hp hkl
 have e3:∀ w',Ext w4 w'→w'.cell? ⟨T.eb p,T.eo p+k*5+3,none⟩=some (.int .i64 (T.time p k)):=fun w' h=>HT.out.E.e3 w' (hx4.trans h) p k hp hkl
 have e4:∀ w',Ext w4 w'→w'.cell? ⟨T.eb p,T.eo p+k*5+4,none⟩=some (.slice (T.aa p k) (T.an p k) (T.ac p k)):=fun w' h=>HT.out.E.e4 w' (hx4.trans h) p k hp hkl
 clear hs4 hk
 go_region_held3 (fun w'=>Ext w4 w') (first | exact (Ext.refl w4).drew | exact ((Ext.refl w4).alloc' _).drew) (first | fail)
 simp only [Exit.then]
 go_upto_region 2 with fail
 refine boxdr1 (w:=w4) (G:=fun x=>Code.wp _ _ _ _ x) ?_
 intro w5 hx5 hs5 ⟨l5,c5,_,_⟩
 have hx55:Ext w5 w5:=Ext.refl _
 have hxw5:=hx4.trans hx5
 clear e0 e1 e2 e3 e4 eb ea hs5 p24
 by_cases hk3:T.kind p k=3
 ·have k1:(T.kind p k == 3)=true:=by simpa using hk3
  obtain ⟨⟨sp,si⟩,hsn⟩:∃ s,s=T.toTr.sndN (p,c p):=⟨_,rfl⟩
  have hsV:=HSV.out
  have HSD:=Lib.hid (HSnd.out (by rw [←HKE.out];exact hk3) w5 hxw5)
  have hon:=HON.out
  rw [←hsn,←HKE.out] at HSD hon
  rw [←hsn] at hsV
  have hsp:sp<T.n:=hsV.1
  have hsp':(sp:Int)<(T.n:Int):=by omega
  have hsi:si<T.en sp:=hsV.2
  obtain ⟨cs,hcs⟩:∃ z,z=c sp:=⟨_,rfl⟩
  have gcs:∀ w',Ext w4 w'→w'.cell? ⟨g,o+sp,none⟩=some (.int .i64 (cs:Int)):=fun w' x=>by rw [hcs];exact (hx4.trans x).cell (HC.out.c sp hsp)
  have HR:=Lib.hid (show T.toTr.On c p↔si<cs from by
   rw [hon]
   show (_→si<c sp)↔_
   rw [←hcs]
   exact ⟨fun h=>h hk3,fun h _=>h⟩)
  clear hsn hsV hcs hon hk3
  go_upto_region 5 with (go_at_call 162;refine HSD.out.mono ?_;rintro e w6 ⟨rfl,hx6⟩)
  refine boxed1 (w:=w6) (G:=fun x=>Code.wp _ _ _ _ x) ?_
  intro w7 hx7 hs7 ⟨l7,c7,_,_⟩
  have hx77:Ext w7 w7:=Ext.refl _
  have hx57:=hx6.trans hx7
  have hx47:=hx5.trans hx57
  have hxw7:=hxw5.trans hx57
  clear hs7
  by_cases hlt:si<cs
  ·have d1:decide ((si:Int)+1≤(cs:Int))=true:=decide_eq_true (by omega)
   have HLT:=Lib.hid (HR.out.2 hlt)
   clear hlt
   go_quiet (fail)
   go_wp2_with fail
   go_ret
   exact ⟨true,rfl,⟨fun _=>HLT.out,fun _=>rfl⟩,by first | exact hxw7.drew | exact hxw7.drewN _⟩
  ·have d1:decide ((si:Int)+1≤(cs:Int))=false:=decide_eq_false (by omega)
   have HLT:=Lib.hid (fun h=>hlt (HR.out.1 h))
   clear hlt
   go_quiet (fail)
   go_wp2_with fail
   go_ret
   exact ⟨false,rfl,⟨fun h=>(by cases h),fun h=>absurd h HLT.out⟩,by first | exact hxw7.drew | exact hxw7.drewN _⟩
 ·have k1:(T.kind p k == 3)=false:=by simpa using hk3
  have HR:=Lib.hid (show T.toTr.On c p from HON.out.2 fun h=>absurd h (by rw [←HKE.out];exact hk3))
  clear hk3
  go_wp2_with fail
  go_ret
  exact ⟨true,rfl,⟨fun _=>HR.out,fun _=>rfl⟩,hxw5⟩
open Classical in
noncomputable def Tr.onL (T:Tr) (c:Nat→Nat):Nat→List Nat
 | 0 => []
 | k+1 => T.onL c k++if T.On c k then [k] else []
theorem Tr.mem_onL {T:Tr} {c:Nat→Nat} {p:Nat}:∀ {k:Nat},p∈T.onL c k↔p<k∧T.On c p
 | 0 => by simp [Tr.onL]
 | k+1 => by
  unfold Tr.onL
  rw [List.mem_append,Tr.mem_onL (k:=k)]
  constructor
  ·rintro (⟨h1,h2⟩ | h)
   ·exact ⟨by omega,h2⟩
   ·split at h
    ·next h0=>simp at h;subst h;exact ⟨by omega,h0⟩
    ·simp at h
  ·rintro ⟨h1,h2⟩
   by_cases e:p=k
   ·subst e;right;rw [if_pos h2];simp
   ·exact .inl ⟨by omega,h2⟩
theorem Tr.onL_len (T:Tr) (c:Nat→Nat):∀ k,(T.onL c k).length≤k
 | 0 => Nat.le_refl _
 | k+1 => by
  have:=T.onL_len c k
  unfold Tr.onL
  rw [List.length_append]
  split <;> simp <;> omega
theorem Tr.onL_yes {T:Tr} {c:Nat→Nat} {k:Nat} (h:T.On c k):T.onL c (k+1)=T.onL c k++[k]:=by simp [Tr.onL,h]
theorem Tr.onL_no {T:Tr} {c:Nat→Nat} {k:Nat} (h:¬T.On c k):T.onL c (k+1)=T.onL c k:=by simp [Tr.onL,h]
def EnaPost (l:List Nat) (w:World) (e:Ending) (w':World):Prop:=Ext w w'∧∃ v,e=.returned (.tuple #[v,.int .i64 0])∧Que w' w.heap.size 1 v l.length (intCells (natInts l))
set_option maxHeartbeats 4000000 in
theorem cena_any (w : World) (T : TM) (hT : T.At w) (hV : T.toTr.Valid) (a : Option Addr) (g o cap : Nat) (c : Nat → Nat) (hC : NumAt w T.n a g o (natV c)) (hcut : T.toTr.CutOk c) :
    Calls Tryz.prog 246 #[T.val,.slice a T.n cap] w (EnaPost (T.toTr.onL c T.n) w):=by
 obtain ⟨j0,hj0,hy0,hy1,hy2⟩:=info_parts infoInt
 have hn8:=hV.n8
 have hn1:=hV.n1
 have HG:=Lib.hid (fun W b (h:Ext w W) hO=>cgiv_any W T (hT.ext h) a T.n cap b g o (natV c) (hC.ext h) hO)
 have HE:=Lib.hid (fun W (h:Ext w W) p hp hl=>cen1_any W T (hT.ext h) hV a g o cap c (hC.ext h) p hp hl)
 have HIC:=Lib.hid (cut_isCut hV hcut)
 have HLE:=Lib.hid hcut.le
 have HV:=Lib.hid hV
 have HT:=Lib.hid hT
 have HC:=Lib.hid hC
 unfold EnaPost
 obtain ⟨rfl⟩:a=some ⟨g,o,none⟩:=hC.pa (by omega)
 obtain ⟨ta,hta⟩:∃ z,z=T.a:=⟨_,rfl⟩
 obtain rfl:ta=some ⟨T.b,T.off,none⟩:=by rw [hta];exact hT.P.pa (by omega)
 simp only [TM.val,←hta] at HG HE ⊢
 clear hT hV hC hcut hta
 go_enter Tryz.func246,Tryz.ntmps246
 go_upto_region 1 with fail
 refine boxed1 (w:=w) (G:=fun x=>Code.wp _ _ _ _ x) ?_
 intro w1 hx1 hs1 ⟨l0,c0,_,_⟩
 have hx11:Ext w1 w1:=Ext.refl _
 clear hs1
 go_wp2_with fail
 go_at_call 161
 have hb:=Box.of (w:=w1.alloc (.cells #[.slice (some ⟨g,o,none⟩) T.n cap] 28)) (b:=w1.heap.size) (c:=#[.slice (some ⟨g,o,none⟩) T.n cap]) (t:=28) (by show (w1.heap.push _)[w1.heap.size]?=_;simp)
 refine (HG.out _ w1.heap.size (hx1.alloc' _) ⟨fun w' x=>hb.cell w' x 0,fun w' x=>hb.lt w' x⟩).mono ?_
 rintro e w2 ⟨hx2,z,hz,rfl⟩
 have hx12:=(hx11.alloc' (.cells #[.slice (some ⟨g,o,none⟩) T.n cap] 28)).trans hx2
 obtain rfl:z=0:=hz.zero.2 HIC.out
 clear hz hb hx2
 go_wp2_with fail
 go_loopg [7,18] T.n (fun gg v7 v18 wr=>∃ k:Nat,k≤T.n∧gg=T.n - k∧v18=.int .i64 k∧wr.ownsRow w1.heap.size 3 1 v7 (T.toTr.onL c k).length (intCells (natInts (T.toTr.onL c k)))∧Ext w1 wr)
 case atStart=>exact ⟨0,by omega,rfl,rfl,World.ownsRow_nil _ _ _ _,hx12⟩
 case round=>
  obtain ⟨k,hk,rfl,rfl,hq,hxr⟩:=hrel
  have hxw:=hx1.trans hxr
  obtain ⟨a7,c7,rfl⟩:=own_form hq
  have HLEN:=Lib.hid (T.toTr.onL_len c k)
  obtain ⟨ln,hln⟩:∃ z,z=(T.toTr.onL c k).length:=⟨_,rfl⟩
  have hlm:ln≤8:=by rw [hln];have:=T.toTr.onL_len c k;omega
  rw [←hln] at hq ⊢
  have HLN:=Lib.hid hln
  have HQ:=Lib.hid hq
  clear hx12 hln
  by_cases hlt:k<T.n
  ·have hlt':(k:Int)<(T.n:Int):=by omega
   have hen:=HV.out.en64 hlt
   have hle:=HLE.out k hlt
   have pb:=HT.out.P.pb (by omega)
   have p2:∀ w',Ext w w'→w'.cell? ⟨T.b,T.off+k*3+2,none⟩=some (.slice (T.ea k) (T.en k) (T.ec k)):=fun w' h=>HT.out.P.p2 w' h k hlt
   have gb:∀ w',Ext w w'→g<w'.heap.size:=fun w' x=>Nat.lt_of_lt_of_le (HC.out.pb (by omega)) x.le
   obtain ⟨ck,hck⟩:∃ ck,ck=c k:=⟨_,rfl⟩
   have gc:∀ w',Ext w w'→w'.cell? ⟨g,o+k,none⟩=some (.int .i64 (ck:Int)):=fun w' x=>by rw [hck];exact x.cell (HC.out.c k hlt)
   have hgw:∀ d os,Ext w (Sort.grow (redrawn wr d) os):=fun d os=>hxw.trans (below_regrown wr d os)
   have hg1:∀ d os,Ext w1 (Sort.grow (redrawn wr d) os):=fun d os=>hxr.trans (below_regrown wr d os)
   have hgr:∀ d os,Ext wr (Sort.grow (redrawn wr d) os):=fun d os=>below_regrown wr d os
   obtain ⟨bo,hbo⟩:=exists_bool (T.toTr.On c k)
   have HBO:=Lib.hid hbo
   by_cases hl:ck<T.en k
   ·have d1:decide ((ck:Int)<(T.en k:Int))=true:=decide_eq_true (by omega)
    have HEK:=Lib.hid (fun W (h:Ext w W)=>(show Calls Tryz.prog 275 #[.agg #[.slice (some ⟨T.b,T.off,none⟩) T.n T.cap],.slice (some ⟨g,o,none⟩) T.n cap,.int .i64 k] W (fun e w'=>e=.returned (.bool bo)∧Ext W w') from (HE.out W h k hlt (by rw [←hck];exact hl)).mono fun e w' ⟨b,he,hb,hx⟩=>⟨by
     have:b=bo:=by
      have h1:=HBO.out
      cases b <;> cases bo <;> simp_all
     rw [he,this],hx⟩))
    clear hq hbo hck hx11 hxr
    go_upto_region 8 with fail
    refine wp_region_quiet_below (by kernel_rfl) (by kernel_rfl) ?_
    repeat (go_big_quiet_step (exact Calls.regrown_of (HEK.out _ (hgw _ _))))
    refine wpQuiet_nil ?_
    intro _ hw'
    obtain ⟨⟨dq,osq⟩,hw''⟩:=hw'
    subst hw''
    have hxr6:=hgr dq osq
    have hxw6:=hgw dq osq
    have hx16:=hg1 dq osq
    clear hgw hg1 hgr
    generalize Sort.grow (redrawn wr dq) osq=w6 at hxr6 hxw6 hx16 ⊢
    cases bo with
    | true =>
     have HST:=Lib.hid (Tr.onL_yes (HBO.out.1 rfl))
     have h66:Ext w6 w6:=Ext.refl _
     go_upto_region 10 with (at_builtin;refine wpList_append_own _ rfl _ _ 28 rfl w1.heap.size 3 j0 (.int .i64 0) 1 8 Tryz.underlying28 hj0 hy0 hy1 hy2 rfl (by decide) (.slice a7 ln c7) ln (intCells (natInts (T.toTr.onL c k))) rfl (by exact own_ext HQ.out (hxr6.alloc' _)) ⟨w6.heap.size,0,none⟩ 1 1 [.int .i64 (k:Int)] rfl rfl (by exact news_ok w6 [_] _) (one_int _) (by unfold maxLen;omega) (by omega) (by rw [World.size_alloc];have:=hx16.le;omega) ?_;rintro v9 w9 hq9 hg9 -;obtain ⟨a9,c9,rfl⟩:=own_form hq9)
     have hx19:Ext w1 w9:=(hx16.alloc' _).below.grown hg9 (by rw [World.size_alloc];have:=hx16.le;omega) (fun g e=>(own_lt HQ.out g e).1)
     have HQ9:=Lib.hid (show w9.ownsRow w1.heap.size 3 1 (.slice a9 (ln+1) c9) (T.toTr.onL c (k+1)).length (intCells (natInts (T.toTr.onL c (k+1)))) from by rw [HST.out,natInts_snoc,List.length_append,←HLN.out];exact hq9)
     have HL9:=Lib.hid (show (T.toTr.onL c (k+1)).length=ln+1 from by rw [HST.out,List.length_append,←HLN.out];rfl)
     clear hq9 hg9
     go_wp2_with fail
     go_roundg (T.n - (k+1))
     case rel=>exact ⟨k+1,by omega,rfl,by go_num,HQ9.out,hx19⟩
     case measure=>omega
    | false =>
     have HST:=Lib.hid (Tr.onL_no (fun h=>absurd (HBO.out.2 h) (by decide)))
     have HQ9:=Lib.hid (show w6.ownsRow w1.heap.size 3 1 (.slice a7 ln c7) (T.toTr.onL c (k+1)).length (intCells (natInts (T.toTr.onL c (k+1)))) from by rw [HST.out,←HLN.out];exact own_ext HQ.out hxr6)
     go_wp2_with fail
     go_roundg (T.n - (k+1))
     case rel=>exact ⟨k+1,by omega,rfl,by go_num,HQ9.out,hx16⟩
     case measure=>omega
   ·have d1:decide ((ck:Int)<(T.en k:Int))=false:=decide_eq_false (by omega)
    have HST:=Lib.hid (Tr.onL_no (T:=T.toTr) (c:=c) (k:=k) (fun h=>hl (by rw [hck];exact h.1)))
    clear hq hbo hck hx11 hxr
    go_upto_region 8 with fail
    refine wp_region_quiet_below (by kernel_rfl) (by kernel_rfl) ?_
    repeat (go_big_quiet_step (fail))
    refine wpQuiet_nil ?_
    intro _ hw'
    obtain ⟨⟨dq,osq⟩,hw''⟩:=hw'
    subst hw''
    have hxr6:=hgr dq osq
    have hxw6:=hgw dq osq
    have hx16:=hg1 dq osq
    clear hgw hg1 hgr
    generalize Sort.grow (redrawn wr dq) osq=w6 at hxr6 hxw6 hx16 ⊢
    have HQ9:=Lib.hid (show w6.ownsRow w1.heap.size 3 1 (.slice a7 ln c7) (T.toTr.onL c (k+1)).length (intCells (natInts (T.toTr.onL c (k+1)))) from by rw [HST.out,←HLN.out];exact own_ext HQ.out hxr6)
    go_wp2_with fail
    go_roundg (T.n - (k+1))
    case rel=>exact ⟨k+1,by omega,rfl,by go_num,HQ9.out,hx16⟩
    case measure=>omega
  ·obtain rfl:k=T.n:=by omega
   have HF:=Lib.hid (Que.mono (Que.own HQ.out) hx1.le)
   rw [HLN.out] at HF
   clear hq
   go_wp2_with fail
   go_ret2
   exact ⟨hxw,_,rfl,by rw [←HLN.out];rw [←HLN.out] at HF;exact HF.out⟩
end Go.Proofs.YtnknkkmdbnaglaaGreat

namespace Go.Proofs.YtnknkkmdbnaglaaGreat
open Go.RowKit Go.Shelf
attribute [local go_sem] Oper.semAt_some
theorem totS_le {f g:Nat→Nat}:∀ {n:Nat},(∀ p,p<n→f p≤g p)→tot f n≤tot g n
 | 0,_ => Nat.le_refl _
 | n+1,h => by
  have h1:=totS_le (f:=f) (g:=g) (n:=n) fun p hp=>h p (by omega)
  have h2:=h n (by omega)
  show tot f n+f n≤tot g n+g n
  omega
theorem totS_lt {f g:Nat→Nat}:∀ {n:Nat} {q:Nat},(∀ p,p<n→f p≤g p)→q<n→f q<g q→tot f n<tot g n
 | 0,_,_,h,_ => by omega
 | n+1,q,h,hq,hl => by
  have h2:=h n (by omega)
  show tot f n+f n<tot g n+g n
  by_cases e:q=n
  ·subst e
   have h1:=totS_le (f:=f) (g:=g) (n:=q) fun p hp=>h p (by omega)
   omega
  ·have h1:=totS_lt (f:=f) (g:=g) (n:=n) (q:=q) (fun p hp=>h p (by omega)) (by omega) hl
   omega
theorem upC_rem {c d:Nat→Nat} {n p:Nat} (hp:p<n) (h:c p<d p):tot (fun q=>d q - upC c p q) n<tot (fun q=>d q - c q) n:=
 totS_lt (q:=p) (fun q _=>by have:=upC_ge c p q;omega) hp (by rw [upC_same];omega)
theorem IntRow.num {w:World} {g n:Nat} {f:Nat→Int} (h:IntRow w g n f) (hn:n≤140737488355328):NumAt w n (some ⟨g,0,none⟩) g 0 f:=⟨hn,fun _=>rfl,fun _=>h.lt,fun k hk=>by rw [Nat.zero_add];exact h.c k hk⟩
set_option maxHeartbeats 400000 in
theorem stow1_any (w : World) (b8 b4 gC gd n : Nat) (c d : Nat → Nat) (p : Nat) (hp : p < n) (k8 : Hold w b8 #[.slice (some ⟨gC, 0, none⟩) n n]) (k4 : Hold w b4 #[.slice (some ⟨gd, 0, none⟩) n n]) (hC : IntRow w gC n (natV c)) (hD : IntRow w gd n (natV d)) :
    Calls Tryz.prog 247 #[.int .i64 p,.pointer (some ⟨b8,0,none⟩),.pointer (some ⟨b4,0,none⟩)] w fun e w'=>e=.returned (.bool (decide (c p<d p)))∧Ext w w':=by
 obtain ⟨l8,c8,_,_⟩:=k8.box
 obtain ⟨l4,c4,_,_⟩:=k4.box
 have hp':(p:Int)<(n:Int):=by omega
 obtain ⟨cp,hcp⟩:∃ z,z=c p:=⟨_,rfl⟩
 obtain ⟨dp,hdp⟩:∃ z,z=d p:=⟨_,rfl⟩
 have gc:∀ w',Ext w w'→w'.cell? ⟨gC,p,none⟩=some (.int .i64 (cp:Int)):=fun w' x=>by rw [hcp];exact x.cell (hC.c p hp)
 have gd':∀ w',Ext w w'→w'.cell? ⟨gd,p,none⟩=some (.int .i64 (dp:Int)):=fun w' x=>by rw [hdp];exact x.cell (hD.c p hp)
 have lc:∀ w',Ext w w'→gC<w'.heap.size:=fun w' x=>Nat.lt_of_lt_of_le hC.lt x.le
 have ld:∀ w',Ext w w'→gd<w'.heap.size:=fun w' x=>Nat.lt_of_lt_of_le hD.lt x.le
 have hww:Ext w w:=Ext.refl _
 rw [←hcp,←hdp]
 clear hC hD hcp hdp k8 k4
 go_enter Tryz.func247,Tryz.ntmps247
 by_cases h:cp<dp
 ·have d1:decide ((cp:Int)<(dp:Int))=true:=decide_eq_true (by omega)
  have d1':decide (cp<dp)=true:=decide_eq_true h
  go_upto_region 1 with fail
  go_quiet (fail)
  go_wp2_with fail
  go_ret
  exact ⟨ret_bool (by first | rfl | simp [h]),by first | exact hww.drew | exact hww.drewN _⟩
 ·have d1:decide ((cp:Int)<(dp:Int))=false:=decide_eq_false (by omega)
  have d1':decide (cp<dp)=false:=decide_eq_false h
  go_upto_region 1 with fail
  go_quiet (fail)
  go_wp2_with fail
  go_ret
  exact ⟨ret_bool (by first | rfl | simp [h]),by first | exact hww.drew | exact hww.drewN _⟩
def StowPost (S:SumM) (d:Nat→Nat) (k:Int) (W:World) (e:Ending) (w':World):Prop:=Ext W w'∧
 ((∃ c g,e=.returned (.tuple #[.slice (some ⟨g,0,none⟩) S.T.n S.T.n,.bool true])∧IntRow w' g S.T.n (natV c)∧W.heap.size≤g∧S.T.toTr.CutOk c∧S.b+S.T.toTr.atC S.w c=k)∨
  (e=.returned (.tuple #[.slice none 0 0,.bool false])∧(S.b≤k→S.b+S.T.toTr.atC S.w d<k)∧(k≤S.b→k<S.b+S.T.toTr.atC S.w d)))
set_option maxHeartbeats 4000000 in
theorem stow_any (W : World) (S : SumM) (hS : S.At W) (gd : Nat) (d : Nat → Nat) (hD : IntRow W gd S.T.n (natV d)) (hd : S.T.toTr.CutOk d) (k : Int) (hu : UnitW S.w S.m) :
    Calls Tryz.prog 204 #[S.val,.slice (some ⟨gd,0,none⟩) S.T.n S.T.n,.int .i64 k] W (StowPost S d k W):=by
 obtain ⟨j0,hj0,hy0,hy1,hy2⟩:=info_parts infoInt
 have HAX:=Lib.hid (fun W' (h:Ext W W') g c hC hc=>sat_any W' S (hS.ext h) (some ⟨g,0,none⟩) g 0 S.T.n c hC hc)
 have HEN:=Lib.hid (fun W' (h:Ext W W') g c hC hc=>cena_any W' S.T (hS.T.ext h) hS.V (some ⟨g,0,none⟩) g 0 S.T.n c hC hc)
 have HV:=Lib.hid hS.V
 have HU:=Lib.hid (show UnitW S.w (tott S.T.en S.T.n) from hu)
 have HD:=Lib.hid hD
 have HDC:=Lib.hid hd
 have hn8:=hS.V.n8
 unfold StowPost
 obtain ⟨T,tv,wa,wg,wo,wc,w,b⟩:=S
 simp only [SumM.val,TM.sl,TM.val] at *
 generalize SumM.m ⟨T,tv,wa,wg,wo,wc,w,b⟩=m at *
 obtain ⟨ta,hta⟩:∃ z,z=T.a:=⟨_,rfl⟩
 rw [←hta] at HAX HEN ⊢
 clear hS hD hd hta hu
 go_enter Tryz.func204,Tryz.ntmps204
 go_upto_region 1 with fail
 refine boxed2 (w:=W) (G:=fun x=>Code.wp _ _ _ _ x) ?_
 intro w1 hx1 hs1 ⟨l0,c0,_,k0⟩ ⟨l1,c1,_,k1⟩
 have hx11:Ext w1 w1:=Ext.refl _
 have HK1:=Lib.hid k1
 clear hs1 k0 k1
 go_upto_region 2 with (at_make;refine wpList_make_full _ rfl _ _ 28 rfl w1.heap.size 3 j0 (.int .i64 0) 1 Tryz.underlying28 hj0 hy0 hy1 .i64 .i64 _ _ T.n rfl rfl rfl rfl (by rw [hy2];omega) (by unfold maxLen;omega) (Nat.le_refl _) ?_;intro w5 hown5 hg5)
 have hx15:Ext w1 w5:=(Below.refl _ _).grown hg5 (Nat.le_refl _) (by simp)
 have HI5:=Lib.hid (IntRow.made hown5)
 clear hown5 hg5
 obtain ⟨gC,hgC⟩:∃ g,g=w1.heap.size:=⟨_,rfl⟩
 rw [←hgC] at HI5 ⊢
 have HGC:=Lib.hid hgC
 have hgl:w1.heap.size≤gC:=by omega
 clear hgC
 refine boxed1 (w:=w5) (G:=fun x=>Code.wp _ _ _ _ x) ?_
 intro w6 hx6 hs6 ⟨_,_,_,k6⟩
 obtain ⟨b8,hb8⟩:∃ g,g=w5.heap.size:=⟨_,rfl⟩
 rw [←hb8] at k6 ⊢
 have HI6:=Lib.hid (HI5.out.ext hx6)
 have hx16:=hx15.trans hx6
 have HB8:=Lib.hid (show gC≠b8 from by have:=HI5.out.lt;omega)
 have HK6:=Lib.hid k6
 have HST:=Lib.hid (Tr.Way.start T.toTr w b d k)
 clear hs6 hx6 hx15 hb8 k6
 go_wp2_with fail
 go_loopg [] (tot d T.n) (fun gg wr=>∃ c,gg=tot (fun q=>d q - c q) T.n∧T.toTr.Way w b d k c∧Hold wr b8 #[.slice (some ⟨gC,0,none⟩) T.n T.n]∧IntRow wr gC T.n (natV c)∧Ext w1 wr)
 case atStart=>exact ⟨fun _=>0,rfl,HST.out,HK6.out,HI6.out,hx16⟩
 case round=>
  obtain ⟨c,rfl,hW,hK,hI,hxr⟩:=hrel
  have HW:=Lib.hid hW
  have HI:=Lib.hid hI
  have HK:=Lib.hid hK
  have hxw:=hx1.trans hxr
  obtain ⟨l8,c8,_,_⟩:=hK.box
  have hrr:Ext wr wr:=Ext.refl _
  obtain ⟨v,hv⟩:∃ v,v=b+T.toTr.atC w c:=⟨_,rfl⟩
  have HVE:=Lib.hid hv
  have hat:=HAX.out wr hxw gC c hI.cut hW.cut.le
  rw [←hv] at hat
  clear hW hI hK hv hx16
  go_wp2_with fail
  go_at_call 87
  refine hat.mono ?_
  rintro e w7 ⟨rfl,hx7⟩
  have hx17:=hxr.trans hx7
  have hxw7:=hxw.trans hx7
  clear hat
  by_cases hvk:v=k
  ·have d1:(v == k)=true:=by simpa using hvk
   have HVK:=Lib.hid hvk
   clear hvk
   go_wp2_with fail
   go_ret2
   exact ⟨hxw7,.inl ⟨c,gC,rfl,HI.out.ext hx7,by have:=HGC.out;have:=hx1.le;omega,HW.out.cut,by rw [←HVE.out];exact HVK.out⟩⟩
  ·have d1:(v == k)=false:=by simpa using hvk
   have HVK:=Lib.hid (show b+T.toTr.atC w c≠k from by rw [←HVE.out];exact hvk)
   have hen:=HEN.out w7 hxw7 gC c ((HI.out.ext hx7).num (by omega)) HW.out.cut
   clear hvk
   go_wp2_with fail
   go_at_call 246
   refine hen.mono ?_
   rintro e w9 ⟨hx9,vl,rfl,hq⟩
   obtain ⟨la,lg,lo,lcap,rfl,_,hla,hlc⟩:=Que.cells1 hq
   have hx79:=hx7.trans hx9
   have hx19:=hx17.trans hx9
   have hxw9:=hxw7.trans hx9
   have HLC:=Lib.hid hlc
   have HLA:=Lib.hid hla
   obtain ⟨ln,hln⟩:∃ z,z=(T.toTr.onL c T.n).length:=⟨_,rfl⟩
   have hlm:ln≤8:=by rw [hln];have:=T.toTr.onL_len c T.n;omega
   have HLN:=Lib.hid hln
   rw [←hln] at HLC HLA ⊢
   have HK9:=Lib.hid (HK.out.ext hx79)
   have HI9:=Lib.hid (HI.out.ext hx79)
   have HKd:=Lib.hid (Hold.ext HK1.out hx19)
   have HD9:=Lib.hid (HD.out.ext hxw9)
   have HGT:=Lib.hid (fun i (hi:i<ln)=>(show ∃ p,(T.toTr.onL c T.n)[i]?=some p∧p<T.n∧T.toTr.On c p∧∀ w',Ext w9 w'→w'.cell? ⟨lg,lo+i,none⟩=some (.int .i64 (p:Int)) from by
    have h1:i<(T.toTr.onL c T.n).length:=by rw [←hln];exact hi
    have h2:=List.getElem?_eq_getElem h1
    have h3:=Tr.mem_onL.1 (List.getElem_mem h1)
    exact ⟨_,h2,h3.1,h3.2,fun w' x=>x.cell ((HLC.out i hi).trans (natInts_get h2))⟩))
   obtain ⟨pf,hpf⟩:∃ pf:Nat→Nat,∀ i,i<ln→(T.toTr.onL c T.n)[i]?=some (pf i)∧pf i<T.n∧T.toTr.On c (pf i)∧∀ w',Ext w9 w'→w'.cell? ⟨lg,lo+i,none⟩=some (.int .i64 (pf i:Int)):=by
    classical
    exact ⟨fun i=>if h:i<ln then (HGT.out i h).choose else 0,fun i hi=>by dsimp only;rw [dif_pos hi];exact (HGT.out i hi).choose_spec⟩
   have HPF:=Lib.hid hpf
   have hix:=idx_int w9 la lg lo ln lcap (fun i=>.int .i64 (pf i:Int)) 247 #[.pointer (some ⟨b8,0,none⟩),.pointer (some ⟨W.heap.size+1,0,none⟩)] (fun i=>decide (c (pf i)<d (pf i))) (by omega) (fun h=>(HLA.out h).1) (fun w' x i hi=>(HPF.out i hi).2.2.2 w' x) (enters_of Tryz.func247 (by kernel_rfl) rfl)
    (fun i hi w' x=>stow1_any w' b8 (W.heap.size+1) gC gd T.n c d (pf i) (HPF.out i hi).2.1 (HK9.out.ext x) (HKd.out.ext x) (HI9.out.ext x) (HD9.out.ext x))
   clear hen hq hpf hla hlc hln l8 c8 hrr
   go_wp2_with fail
   go_at_call 139
   refine hix.mono ?_
   rintro e w10 ⟨rfl,hx10⟩
   have hx710:=hx79.trans hx10
   have hx110:=hx19.trans hx10
   have hxw10:=hxw9.trans hx10
   clear hix
   rcases idxI_cases (fun i=>decide (c (pf i)<d (pf i))) ln with ⟨he,hno⟩ | ⟨i,hi,hyes,he⟩
   ·have HNO := Lib.hid (HW.out.last HV.out HDC.out HVK.out (fun p hp ho hlt => by
      have hm:p∈T.toTr.onL c T.n:=Tr.mem_onL.2 ⟨hp,ho⟩
      obtain ⟨i,hi,hpi⟩:=List.getElem_of_mem hm
      have hi':i<ln:=by rw [HLN.out];exact hi
      have h1:=(HPF.out i hi').1
      rw [List.getElem?_eq_getElem hi,hpi] at h1
      have h2:p=pf i:=by simpa using h1
      have h3:=hno i hi'
      rw [←h2] at h3
      simp [hlt] at h3))
    rw [he]
    clear he hno
    go_wp2_with fail
    go_ret2
    exact ⟨hxw10,.inr ⟨rfl,HNO.out.1,HNO.out.2⟩⟩
   ·rw [he]
    have hip:=HPF.out i hi
    obtain ⟨p,hp⟩:∃ p,p=pf i:=⟨_,rfl⟩
    rw [←hp] at hip hyes
    obtain ⟨_,hpn,hon,hcl⟩:=hip
    have hcd:c p<d p:=by simpa using hyes
    have HNX:=Lib.hid (HW.out.next HU.out HVK.out hpn hcd hon)
    have HRM:=Lib.hid (upC_rem hpn hcd)
    obtain ⟨rfl,_,hll⟩:=HLA.out (by omega)
    have hen:=HV.out.en64 hpn
    have hcn:=hon.1
    obtain ⟨cp,hcp⟩:∃ z,z=c p:=⟨_,rfl⟩
    have hi':(i:Int)<(ln:Int):=by omega
    have hpn':(p:Int)<(T.n:Int):=by omega
    have l9:∀ w',Ext w10 w'→lg<w'.heap.size:=fun w' x=>Nat.lt_of_lt_of_le hll (hx10.trans x).le
    have g9:∀ w',Ext w10 w'→w'.cell? ⟨lg,lo+i,none⟩=some (.int .i64 (p:Int)):=fun w' x=>hcl w' (hx10.trans x)
    have HI10:=Lib.hid (HI9.out.ext hx10)
    have lC:∀ w',Ext w10 w'→gC<w'.heap.size:=fun w' x=>Nat.lt_of_lt_of_le HI10.out.lt x.le
    have cC:∀ w',Ext w10 w'→w'.cell? ⟨gC,p,none⟩=some (.int .i64 (cp:Int)):=fun w' x=>by rw [hcp];exact x.cell (HI10.out.c p hpn)
    have fC:∀ w',Ext w10 w'→w'.frozen? ⟨gC,p,none⟩=false:=fun w' x=>(x.frozen (p:=⟨gC,p,none⟩) HI10.out.lt).trans (HI10.out.fr p)
    have HK10:=Lib.hid (HK9.out.ext hx10)
    obtain ⟨l8,c8,_,_⟩:=HK10.out.box
    have hw1:IntKind.i64.wrap ((cp:Int)+1)=(cp:Int)+1:=IntWalk.i64_in _ (by omega)
    have HCP:=Lib.hid hcp
    have h1010:Ext w10 w10:=Ext.refl _
    clear he hyes hp hcd hon hcl hll hcp hcn
    go_upto_region 8 with fail
    refine wp_region_T (t:=9) (S:=fun _=>True) (R:=fun w'=>Ext w10 w') (by kernel_rfl) trivial (Ext.refl w10).drew (fun hHeld=>?_)
    refine takeR 0 (v:=?_) rfl (by kernel_rfl) (by kernel_rfl) (by kernel_rfl) (by kernel_rfl) (by kernel_rfl) (fun _ _ _ h=>h) (by decide) (Or.inl ⟨by rfl,?_⟩) hHeld.1 hHeld.2 ?_
    rotate_left
    ·intro w' hSw
     have hSX:=hSw.2
     (try dsimp only at hSX)
     have hSS:=Ext.refl w'
     go_simp
     try with_reducible rfl
    try simp only [Act.put,zA,zB,zC]
    refine takeR 1 (v:=?_) rfl (by kernel_rfl) (by kernel_rfl) (by kernel_rfl) (by kernel_rfl) (by kernel_rfl) (fun _ _ _ h=>h) (by decide) (Or.inl ⟨by rfl,?_⟩) hHeld.1 hHeld.2 ?_
    rotate_left
    ·intro w' hSw
     have hSX:=hSw.2
     (try dsimp only at hSX)
     have hSS:=Ext.refl w'
     go_simp
     try with_reducible rfl
    try simp only [Act.put,zA,zB,zC]
    refine takeR 2 (v:=?_) rfl (by kernel_rfl) (by kernel_rfl) (by kernel_rfl) (by kernel_rfl) (by kernel_rfl) (fun _ _ _ h=>h) (by decide) (Or.inl ⟨by rfl,?_⟩) hHeld.1 hHeld.2 ?_
    rotate_left
    ·intro w' hSw
     have hSX:=hSw.2
     (try dsimp only at hSX)
     have hSS:=Ext.refl w'
     go_simp
     try with_reducible rfl
    try simp only [Act.put,zA,zB,zC]
    refine takeR 3 (v:=?_) rfl (by kernel_rfl) (by kernel_rfl) (by kernel_rfl) (by kernel_rfl) (by kernel_rfl) (fun _ _ _ h=>h) (by decide) (Or.inl ⟨by rfl,?_⟩) hHeld.1 hHeld.2 ?_
    rotate_left
    ·intro w' hSw
     have hSX:=hSw.2
     (try dsimp only at hSX)
     have hSS:=Ext.refl w'
     go_simp
     try with_reducible rfl
    try simp only [Act.put,zA,zB,zC]
    refine takeR 4 (v:=?_) rfl (by kernel_rfl) (by kernel_rfl) (by kernel_rfl) (by kernel_rfl) (by kernel_rfl) (fun _ _ _ h=>h) (by decide) (Or.inl ⟨by rfl,?_⟩) hHeld.1 hHeld.2 ?_
    rotate_left
    ·intro w' hSw
     have hSX:=hSw.2
     (try dsimp only at hSX)
     have hSS:=Ext.refl w'
     go_simp
     try with_reducible rfl
    try simp only [Act.put,zA,zB,zC]
    refine takeR 5 (v:=?_) rfl (by kernel_rfl) (by kernel_rfl) (by kernel_rfl) (by kernel_rfl) (by kernel_rfl) (fun _ _ _ h=>h) (by decide) (Or.inl ⟨by rfl,?_⟩) hHeld.1 hHeld.2 ?_
    rotate_left
    ·intro w' hSw
     have hSX:=hSw.2
     (try dsimp only at hSX)
     have hSS:=Ext.refl w'
     go_simp
     try with_reducible rfl
    try simp only [Act.put,zA,zB,zC]
    refine takeR 6 (v:=?_) rfl (by kernel_rfl) (by kernel_rfl) (by kernel_rfl) (by kernel_rfl) (by kernel_rfl) (fun _ _ _ h=>h) (by decide) (Or.inl ⟨by rfl,?_⟩) hHeld.1 hHeld.2 ?_
    rotate_left
    ·intro w' hSw
     have hSX:=hSw.2
     (try dsimp only at hSX)
     have hSS:=Ext.refl w'
     go_simp
     try with_reducible rfl
    try simp only [Act.put,zA,zB,zC]
    refine takeR 7 (v:=?_) rfl (by kernel_rfl) (by kernel_rfl) (by kernel_rfl) (by kernel_rfl) (by kernel_rfl) (fun _ _ _ h=>h) (by decide) (Or.inl ⟨by rfl,?_⟩) hHeld.1 hHeld.2 ?_
    rotate_left
    ·intro w' hSw
     have hSX:=hSw.2
     (try dsimp only at hSX)
     have hSS:=Ext.refl w'
     go_simp
     try with_reducible rfl
    try simp only [Act.put,zA,zB,zC]
    refine takeR 8 (v:=?_) rfl (by kernel_rfl) (by kernel_rfl) (by kernel_rfl) (by kernel_rfl) (by kernel_rfl) (fun _ _ _ h=>h) (by decide) (Or.inl ⟨by rfl,?_⟩) hHeld.1 hHeld.2 ?_
    rotate_left
    ·intro w' hSw
     have hSX:=hSw.2
     (try dsimp only at hSX)
     have hSS:=Ext.refl w'
     go_simp
     try with_reducible rfl
    try simp only [Act.put,zA,zB,zC]
    have hdd:Ext w10 w10.drew:=(Ext.refl w10).drew
    refine wpAnyT_ready (rs:=[9]) (by kernel_rfl) (by simp) ?_
    refine AllReadyT.late rfl (by decide) (fun K hK=>?_) AllReadyT.nil
    go_simp
    refine hK.out _ _ trivial (fun hHeld=>?_)
    clear hK K
    try simp only [Act.put,zA,zB,zC]
    refine wpAnyT_done (by kernel_rfl) ?_ _
    generalize hw11:(w10.setCell ⟨gC,p,none⟩ (Value.int .i64 ((cp:Int)+1))).drew=w11
    have HI11:=Lib.hid (show IntRow w11 gC T.n (natV (upC c p)) from by
     rw [←hw11]
     exact ((HI10.out.set p ((cp:Int)+1)).ext (Ext.refl _).drew).like fun j hj=>by
      by_cases e:j=p
      ·subst e;rw [if_pos rfl];show ((upC c j j:Nat):Int)=_;rw [upC_same,HCP.out];omega
      ·rw [if_neg e];show ((upC c p j:Nat):Int)=_;rw [upC_other e])
    have HK11:=Lib.hid (show Hold w11 b8 #[.slice (some ⟨gC,0,none⟩) T.n T.n] from by rw [←hw11];exact ((HK10.out).other _ _ (by show b8≠gC;have:=HB8.out;omega)).ext (Ext.refl _).drew)
    have hx111:Ext w1 w11:=by rw [←hw11];exact (hx110.setCell hgl _).drew
    clear hw11 l8 c8 l9 g9 lC cC fC hdd h1010
    go_wp2_with fail
    go_roundg (tot (fun q=>d q - upC c p q) T.n)
    case rel=>exact ⟨upC c p,rfl,HNX.out,HK11.out,HI11.out,hx111⟩
    case measure=>exact HRM.out
def SexPost (S:SumM) (k:Int) (W:World) (e:Ending) (w':World):Prop:=Ext W w'∧
 ((∃ c g,e=.returned (.tuple #[.slice (some ⟨g,0,none⟩) S.T.n S.T.n,.bool true])∧IntRow w' g S.T.n (natV c)∧W.heap.size≤g∧S.T.toTr.CutOk c∧S.b+S.T.toTr.atC S.w c=k)∨
  (e=.returned (.tuple #[.slice none 0 0,.bool false])∧S.T.toTr.Out S.w S.b k))
set_option maxHeartbeats 4000000 in
theorem sex_any (W : World) (S : SumM) (hS : S.At W) (k : Int) (hu : UnitW S.w S.m) :
    Calls Tryz.prog 146 #[S.val,.int .i64 k] W (SexPost S k W):=by
 have HLE:=Lib.hid (fun W' (h:Ext W W')=>sleast_any W' S (hS.ext h))
 have HGR:=Lib.hid (fun W' (h:Ext W W')=>sgreat_any W' S (hS.ext h))
 have HTO:=Lib.hid (fun W' (h:Ext W W') gd d hD hd=>stow_any W' S (hS.ext h) gd d hD hd k hu)
 unfold SexPost
 obtain ⟨T,tv,wa,wg,wo,wc,w,b⟩:=S
 simp only [SumM.val,TM.sl] at *
 generalize SumM.m ⟨T,tv,wa,wg,wo,wc,w,b⟩=m at *
 obtain ⟨ta,hta⟩:∃ z,z=T.a:=⟨_,rfl⟩
 rw [←hta] at HLE HGR HTO ⊢
 clear hS hu hta
 go_enter Tryz.func146,Tryz.ntmps146
 go_upto_region 1 with fail
 refine boxed1 (w:=W) (G:=fun x=>Code.wp _ _ _ _ x) ?_
 intro w1 hx1 hs1 ⟨l0,c0,_,_⟩
 have hx11:Ext w1 w1:=Ext.refl _
 clear hs1
 go_wp2_with fail
 go_at_call 80
 refine (HLE.out w1 hx1).mono ?_
 rintro e w2 ⟨hx2,v1,d1,g1,rfl,hr1,hg1,hb1⟩
 have hxw2:=hx1.trans hx2
 have HB1:=Lib.hid hb1
 have hto:=HTO.out w2 hxw2 g1 d1 hr1 hb1.cut
 clear hr1 hb1
 go_wp2_with fail
 go_at_call 204
 refine hto.mono ?_
 rintro e w3 ⟨hx3,⟨c,g,rfl,hr,hg,hc,hv⟩ | ⟨rfl,hlo,hhi⟩⟩
 ·have hx13:=hx2.trans hx3
  have hxw3:=hxw2.trans hx3
  have HF:=Lib.hid (And.intro hr (And.intro hg (And.intro hc hv)))
  clear hto hr hg hc hv hg1
  go_wp2_with fail
  go_ret2
  exact ⟨hxw3,.inl ⟨c,g,rfl,HF.out.1,by have:=HF.out.2.1;have:=hxw2.le;omega,HF.out.2.2.1,HF.out.2.2.2⟩⟩
 ·have hx13:=hx2.trans hx3
  have hxw3:=hxw2.trans hx3
  have HLO:=Lib.hid (And.intro hlo hhi)
  clear hto hlo hhi hg1
  go_wp2_with fail
  go_at_call 79
  refine (HGR.out w3 hxw3).mono ?_
  rintro e w4 ⟨hx4,v2,d2,g2,rfl,hr2,hg2,hb2⟩
  have hxw4:=hxw3.trans hx4
  have hx14:=hx13.trans hx4
  have HB2:=Lib.hid hb2
  have hto:=HTO.out w4 hxw4 g2 d2 hr2 hb2.cut
  clear hr2 hb2
  go_wp2_with fail
  go_at_call 204
  refine hto.mono ?_
  rintro e w5 ⟨hx5,⟨c,g,rfl,hr,hg,hc,hv⟩ | ⟨rfl,hlo,hhi⟩⟩
  ·have hxw5:=hxw4.trans hx5
   have HF:=Lib.hid (And.intro hr (And.intro hg (And.intro hc hv)))
   clear hto hr hg hc hv hg2
   go_wp2_with fail
   go_ret2
   exact ⟨hxw5,.inl ⟨c,g,rfl,HF.out.1,by have:=HF.out.2.1;have:=hxw4.le;omega,HF.out.2.2.1,HF.out.2.2.2⟩⟩
  ·have hxw5:=hxw4.trans hx5
   have HHI:=Lib.hid (And.intro hlo hhi)
   clear hto hlo hhi hg2
   go_wp2_with fail
   go_ret2
   refine ⟨hxw5,.inr ⟨rfl,?_⟩⟩
   rcases Int.le_total k b with h | h
   ·left
    intro d hd
    have h1:=HLO.out.2 h
    have h2:=HB1.out.below hd
    have h3:=HB1.out.val
    rw [Tr.atC_neg'] at h3
    omega
   ·right
    intro d hd
    have h1:=HHI.out.1 h
    have h2:=HB2.out.above hd
    have h3:=HB2.out.val
    omega
end Go.Proofs.YtnknkkmdbnaglaaGreat

namespace Go.Proofs.YtnknkkmdbnaglaaGreat
open Go.RowKit Go.Shelf
def put8 (w:World) (g:Nat) (v0 v1 v2 v3 v4 v5 v6 v7:Value):World:=
 (((((((w.setCell ⟨g,0,none⟩ v0).setCell ⟨g,1,none⟩ v1).setCell ⟨g,2,none⟩ v2).setCell ⟨g,3,none⟩ v3).setCell ⟨g,4,none⟩ v4).setCell ⟨g,5,none⟩ v5).setCell ⟨g,6,none⟩ v6).setCell ⟨g,7,none⟩ v7
theorem put8_size (w:World) (g:Nat) (v0 v1 v2 v3 v4 v5 v6 v7:Value):(put8 w g v0 v1 v2 v3 v4 v5 v6 v7).heap.size=w.heap.size:=by simp only [put8,World.size_setCell]
theorem put8_other (w:World) (g:Nat) (v0 v1 v2 v3 v4 v5 v6 v7:Value) (b:Nat) (h:b≠g):(put8 w g v0 v1 v2 v3 v4 v5 v6 v7).heap[b]?=w.heap[b]?:=by
 unfold put8
 rw [Below.heap_setCell _ _ _ _ h,Below.heap_setCell _ _ _ _ h,Below.heap_setCell _ _ _ _ h,Below.heap_setCell _ _ _ _ h,Below.heap_setCell _ _ _ _ h,Below.heap_setCell _ _ _ _ h,Below.heap_setCell _ _ _ _ h,Below.heap_setCell _ _ _ _ h]
theorem Ext.put8 {w0 w:World} (h:Ext w0 w) {g:Nat} (hg:w0.heap.size≤g) (v0 v1 v2 v3 v4 v5 v6 v7:Value):Ext w0 (Go.Proofs.YtnknkkmdbnaglaaGreat.put8 w g v0 v1 v2 v3 v4 v5 v6 v7):=
 (((((((h.setCell hg v0).setCell hg v1).setCell hg v2).setCell hg v3).setCell hg v4).setCell hg v5).setCell hg v6).setCell hg v7
theorem Hold.all8 {W:World} {b:Nat} {u0 u1 u2 u3 u4 u5 u6 u7:Value} (h:Hold W b #[u0,u1,u2,u3,u4,u5,u6,u7]) (v0 v1 v2 v3 v4 v5 v6 v7:Value):Hold (Go.Proofs.YtnknkkmdbnaglaaGreat.put8 W b v0 v1 v2 v3 v4 v5 v6 v7) b #[v0,v1,v2,v3,v4,v5,v6,v7]:=by
 have:=((((((((h.set 0 v0).set 1 v1).set 2 v2).set 3 v3).set 4 v4).set 5 v5).set 6 v6).set 7 v7)
 simpa [Go.Proofs.YtnknkkmdbnaglaaGreat.put8] using this
theorem IntRow.put8 {w:World} {g n:Nat} {f:Nat→Int} (h:IntRow w g n f) (b:Nat) (v0 v1 v2 v3 v4 v5 v6 v7:Value) (hp:g≠b):IntRow (Go.Proofs.YtnknkkmdbnaglaaGreat.put8 w b v0 v1 v2 v3 v4 v5 v6 v7) g n f:=
 h.block (put8_other _ _ _ _ _ _ _ _ _ _ _ hp) (Nat.le_of_eq (put8_size ..).symm)
abbrev ansV (mode:Int) (holds:Bool) (kind:Int) (cut:Value) (value:Int):Value:=.agg #[.int .i64 mode,.bool holds,.int .i64 kind,cut,.slice none 0 0,.slice none 0 0,.slice none 0 0,.int .i64 value]
theorem yes_results (tmps : Array Value) (W : World) (b : Nat) (x0 x1 x2 x3 x4 x5 x6 x7 : Value) (t2 : tmps[2]? = some (.pointer (some ⟨b, 0, none⟩))) (h : Hold W b #[x0, x1, x2, x3, x4, x5, x6, x7]) :
    (results Tryz.f143 tmps).run Tryz.prog W=.ok (.agg #[x0,x1,x2,x3,x4,x5,x6,x7]) W:=by
 have c0:=h.cell0 0
 have c1:=h.cell0 1
 have c2:=h.cell0 2
 have c3:=h.cell0 3
 have c4:=h.cell0 4
 have c5:=h.cell0 5
 have c6:=h.cell0 6
 have c7:=h.cell0 7
 simp at c0 c1 c2 c3 c4 c5 c6 c7
 simp [results,Tryz.results143,go_sem,t2,c0,c1,c2,c3,c4,c5,c6,c7]
theorem no_results (tmps : Array Value) (W : World) (b : Nat) (x0 x1 x2 x3 x4 x5 x6 x7 : Value) (t4 : tmps[4]? = some (.pointer (some ⟨b, 0, none⟩))) (h : Hold W b #[x0, x1, x2, x3, x4, x5, x6, x7]) :
    (results Tryz.f144 tmps).run Tryz.prog W=.ok (.agg #[x0,x1,x2,x3,x4,x5,x6,x7]) W:=by
 have c0:=h.cell0 0
 have c1:=h.cell0 1
 have c2:=h.cell0 2
 have c3:=h.cell0 3
 have c4:=h.cell0 4
 have c5:=h.cell0 5
 have c6:=h.cell0 6
 have c7:=h.cell0 7
 simp at c0 c1 c2 c3 c4 c5 c6 c7
 simp [results,Tryz.results144,go_sem,t4,c0,c1,c2,c3,c4,c5,c6,c7]
set_option maxHeartbeats 1000000 in
theorem syes_any (w:World) (a:Option Addr) (n c:Nat):Calls Tryz.prog 143 #[.slice a n c] w fun e w'=>e=.returned (ansV 1 true 1 (.slice a n c) 0)∧Ext w w':=by
 go_enter Tryz.func143,Tryz.ntmps143
 go_upto_region 1 with fail
 refine boxed1 (w:=w) (G:=fun x=>Code.wp _ _ _ _ x) ?_
 intro w1 hx1 hs1 ⟨l0,c0,f0,k0⟩
 have hx11:Ext w1 w1:=Ext.refl _
 have hk9:=Hold.all8 (W:=w1) (b:=w.heap.size) k0 (.int .i64 1) (.bool true) (.int .i64 1) (.slice a n c) (.slice none 0 0) (.slice none 0 0) (.slice none 0 0) (.int .i64 0)
 have HK:=Lib.hid hk9
 clear hs1 k0 hk9
 go_wp2_with fail
 refine bodyPost_ret (yes_results _ _ w.heap.size _ _ _ _ _ _ _ _ rfl HK.out) rfl ?_
 exact ⟨rfl,hx1.put8 (Nat.le_refl _) _ _ _ _ _ _ _ _⟩
set_option maxHeartbeats 1000000 in
theorem sno_any (w:World) (v:Int) (a:Option Addr) (n c:Nat):Calls Tryz.prog 144 #[.int .i64 v,.slice a n c] w fun e w'=>e=.returned (ansV 1 false 5 (.slice a n c) v)∧Ext w w':=by
 go_enter Tryz.func144,Tryz.ntmps144
 go_upto_region 1 with fail
 refine boxed1 (w:=w) (G:=fun x=>Code.wp _ _ _ _ x) ?_
 intro w1 hx1 hs1 ⟨l0,c0,f0,k0⟩
 have hx11:Ext w1 w1:=Ext.refl _
 have hk9:=Hold.all8 (W:=w1) (b:=w.heap.size) k0 (.int .i64 1) (.bool false) (.int .i64 5) (.slice a n c) (.slice none 0 0) (.slice none 0 0) (.slice none 0 0) (.int .i64 v)
 have HK:=Lib.hid hk9
 clear hs1 k0 hk9
 go_wp2_with fail
 refine bodyPost_ret (no_results _ _ w.heap.size _ _ _ _ _ _ _ _ rfl HK.out) rfl ?_
 exact ⟨rfl,hx1.put8 (Nat.le_refl _) _ _ _ _ _ _ _ _⟩
theorem unitW_iff {w:Nat→Int} {m:Nat}:(!anyB (fun i=>decide (1<iabs (w i))) m)=true↔UnitW w m:=by
 rw [Bool.not_eq_true',Bool.eq_false_iff,ne_eq,anyB_iff]
 constructor
 ·exact fun h v hv=>Int.not_lt.1 fun hlt=>h ⟨v,hv,decide_eq_true hlt⟩
 ·rintro h ⟨v,hv,h1⟩
  have h2:=of_decide_eq_true h1
  have:=h v hv
  omega
def SxaPost (T:TM) (D:TmD) (k:Int) (w:World) (e:Ending) (w':World):Prop:=Ext w w'∧((∃ c:Int,T.SumFault D.l c∧c≠0∧e=.returned (.tuple #[.slice none 0 0,.int .i64 c]))∨
 (T.SumOk D.l∧¬UnitW (T.wfn D.l) (tott T.en T.n)∧e=.returned (.tuple #[.slice none 0 0,.int .i64 15]))∨
 (T.SumOk D.l∧UnitW (T.wfn D.l) (tott T.en T.n)∧((∃ c g,e=.returned (.tuple #[.slice (some ⟨g,0,none⟩) T.n T.n,.int .i64 0])∧IntRow w' g T.n (natV c)∧w.heap.size≤g∧T.toTr.CutOk c∧(T.sumAt D.l fun _=>0)+T.toTr.atC (T.wfn D.l) c=k)∨
  (e=.returned (.tuple #[.slice none 0 0,.int .i64 7])∧T.toTr.Out (T.wfn D.l) (T.sumAt D.l fun _=>0) k))))
set_option maxHeartbeats 2000000 in
theorem sxa_any (w:World) (T:TM) (hT:T.At w) (D:TmD) (hD:D.At w) (k:Int):Calls Tryz.prog 72 #[T.val,.slice D.s.a D.s.n D.s.c,.int .i64 k] w (SxaPost T D k w):=by
 have HOF:=Lib.hid (fun W (h:Ext w W)=>sof2_any' W T (hT.ext h) D (hD.ext h))
 unfold SxaPost
 obtain ⟨da,hda⟩:∃ z,z=D.s.a:=⟨_,rfl⟩
 have HDA:=Lib.hid hda
 obtain ⟨ta,hta⟩:∃ z,z=T.a:=⟨_,rfl⟩
 have HTA:=Lib.hid hta
 simp only [TM.val]
 rw [←hda,←hta]
 clear hT hD hda hta
 go_enter Tryz.func72,Tryz.ntmps72
 go_upto_region 1 with fail
 refine boxed1 (w:=w) (G:=fun x=>Code.wp _ _ _ _ x) ?_
 intro w1 hx1 hs1 ⟨l0,c0,_,_⟩
 have hx11:Ext w1 w1:=Ext.refl _
 clear hs1
 have hof:=HOF.out w1 hx1
 rw [←HDA.out,←HTA.out] at hof
 go_wp2_with fail
 go_at_call 78
 refine hof.mono ?_
 rintro e w2 ⟨hx2,hr⟩
 clear hof
 rcases hr with ⟨c,hc,hF,rfl⟩ | ⟨hO,wa,wg,wo,wc,rfl,hS⟩
 ·go_upto_region 2 with fail
  refine boxed1 (w:=w2) (G:=fun x=>Code.wp _ _ _ _ x) ?_
  intro w3 hx3 hs3 ⟨l3,c3,_,_⟩
  have hx33:Ext w3 w3:=Ext.refl _
  have hxw3:=(hx1.trans hx2).trans hx3
  have hx13:=hx2.trans hx3
  clear hs3
  have HF:=Lib.hid hF
  clear hF
  rcases hc with rfl | rfl | rfl | rfl | rfl <;> (go_wp2_with fail;go_ret2;exact ⟨hxw3,.inl ⟨_,HF.out,by decide,rfl⟩⟩)
 ·obtain ⟨m,hm⟩:∃ m,m=tott T.en T.n:=⟨_,rfl⟩
  obtain ⟨b,hb⟩:∃ b,b=T.toTr.sumAt D.l (fun _=>0):=⟨_,rfl⟩
  obtain ⟨r,hr⟩:∃ r,r=anyB (fun i=>decide (1<iabs (T.wfn D.l i))) (tott T.en T.n):=⟨_,rfl⟩
  have HRR:=Lib.hid (show (!r)=true↔UnitW (T.wfn D.l) m from by rw [hr,hm];exact unitW_iff)
  have hgr:=fun W (h:Ext w2 W)=>(show Calls Tryz.prog 89 #[sumV T D wa wc (T.sumAt D.l fun _=>0)] W (fun e w'=>e=.returned (.bool (!r))∧Ext W w') from by rw [hr];exact sunit_any W _ (hS.ext h))
  have hex:=fun W (h:Ext w2 W) (hu:UnitW (T.wfn D.l) m)=>(show Calls Tryz.prog 146 #[sumV T D wa wc (T.sumAt D.l fun _=>0),.int .i64 k] W (SexPost (sumOf T D wa wg wo wc) k W) from sex_any W (sumOf T D wa wg wo wc) (hS.ext h) k (by rw [hm] at hu;exact hu))
  simp only [sumV] at hgr hex ⊢
  rw [←hm,←hb,←HDA.out,←HTA.out] at hgr hex
  rw [←hm,←hb,←HDA.out,←HTA.out]
  have HGR:=Lib.hid hgr
  have HEX:=Lib.hid hex
  have HO:=Lib.hid hO
  have HB:=Lib.hid hb
  have HM:=Lib.hid hm
  clear hgr hex hS hm hb hO hr
  go_upto_region 2 with fail
  refine boxed1 (w:=w2) (G:=fun x=>Code.wp _ _ _ _ x) ?_
  intro w3 hx3 hs3 ⟨l3,c3,_,_⟩
  have hx33:Ext w3 w3:=Ext.refl _
  have hxw3:=(hx1.trans hx2).trans hx3
  have hx13:=hx2.trans hx3
  clear hs3
  go_wp2_with fail
  go_at_call 89
  refine (HGR.out w3 hx3).mono ?_
  rintro e w4 ⟨rfl,hx4⟩
  have hxw4:=hxw3.trans hx4
  have hx14:=hx13.trans hx4
  have hx24:=hx3.trans hx4
  cases r with
  | true =>
   have HNU:=Lib.hid (show ¬UnitW (T.wfn D.l) (tott T.en T.n) from fun h=>absurd (HRR.out.2 (by rw [HM.out];exact h)) (by decide))
   go_wp2_with fail
   go_ret2
   exact ⟨hxw4,.inr (.inl ⟨HO.out,HNU.out,rfl⟩)⟩
  | false =>
   have HU:=Lib.hid (HRR.out.1 rfl)
   have HU2:=Lib.hid (show UnitW (T.wfn D.l) (tott T.en T.n) from by rw [←HM.out];exact HU.out)
   go_wp2_with fail
   go_at_call 146
   refine (HEX.out w4 hx24 HU.out).mono ?_
   rintro e w5 ⟨hx5,⟨c,g,rfl,hr,hg,hc,hv⟩ | ⟨rfl,ho⟩⟩
   ·have hxw5:=hxw4.trans hx5
    have HF:=Lib.hid (And.intro hr (And.intro hg (And.intro hc hv)))
    clear hr hg hc hv l3 c3 hx33
    go_wp2_with fail
    go_ret2
    exact ⟨hxw5,.inr (.inr ⟨HO.out,HU2.out,.inl ⟨c,g,rfl,HF.out.1,by have:=HF.out.2.1;have:=hxw4.le;omega,HF.out.2.2.1,by rw [HB.out] at *;exact HF.out.2.2.2⟩⟩)⟩
   ·have hxw5:=hxw4.trans hx5
    have HF:=Lib.hid ho
    clear ho l3 c3 hx33
    go_wp2_with fail
    go_ret2
    exact ⟨hxw5,.inr (.inr ⟨HO.out,HU2.out,.inr ⟨rfl,by rw [HB.out] at *;exact HF.out⟩⟩)⟩
end Go.Proofs.YtnknkkmdbnaglaaGreat
