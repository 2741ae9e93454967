/- Contracts and laws in plain Lean for RApp: group W50. -/
import Derived.Test.YtkhgpockmaghjaaGreatW45
import Derived.Test.YtkhgpockmaghjaaGreatW38
import Derived.Test.YtkhgpockmaghjaaGreatW48
import Derived.Test.YtkhgpockmaghjaaGreatW36
set_option maxRecDepth 100000
namespace Go.Proofs.YtkhgpockmaghjaaGreat
open Go.RowKit
def PerP (L:List Syn) (v:Nat→Int):Prop:=∀ s,s∈L→s.2.2≤v s.2.1.toNat→s.1.2≤v s.1.1.toNat
theorem PerP.congr {T:Tr} {L:List Syn} (hL:SynOk T L) {u v:Nat→Int} (h:PerP L u) (e:∀ p,p<T.n→v p=u p):PerP L v:=fun s hs h1=>by
 obtain ⟨⟨_,_,_,_⟩,⟨_,_,_,_⟩⟩:=hL s hs
 rw [e _ (by omega)] at h1 ⊢
 exact h s hs h1
structure PCut (T:Tr) (L:List Syn) (c:Nat→Nat):Prop where
 cut:T.CutOk c
 per:PerP L (natV c)
theorem PCut.congr {T:Tr} {L:List Syn} (hL:SynOk T L) {c d:Nat→Nat} (h:PCut T L c) (e:∀ p,p<T.n→d p=c p):PCut T L d:=
 ⟨h.cut.congr e,h.per.congr hL fun p hp=>by show ((d p:Nat):Int)=(c p:Nat);rw [e p hp]⟩
theorem PCut.zero {T:Tr} {L:List Syn} (hL:SynOk T L):PCut T L fun _=>0:=⟨Tr.CutOk.zero T,fun s hs h1=>by
 obtain ⟨_,⟨_,_,h3,_⟩⟩:=hL s hs
 simp only [natV] at h1
 omega⟩
theorem PCut.ex {T:Tr} (hV:T.Valid) {L:List Syn} (hL:SynOk T L) (hA:T.NoCyc L) {c d:Nat→Nat} (hc:PCut T L c) (hd:PCut T L d) {p:Nat} (hp:p<T.n) (h:c p<d p):∃ q,q<T.n∧c q<d q∧PCut T L (upC c q):=by
 refine Classical.byContradiction fun hn=>?_
 have key:=hA.ind (P:=fun x=>¬(c x.1≤x.2∧x.2<d x.1)) (fun y hy ih ⟨h1,h2⟩=>by
  have ihd:∀ x,T.V x→T.Dir x y→¬(c x.1≤x.2∧x.2<d x.1):=fun x hx hd'=>ih x hx ((mem_gr hL).2 (.inl (hV.dir_succ hy hd')))
  by_cases e:c y.1<y.2
  ·have hx:T.V (y.1,y.2 - 1):=⟨hy.1,by have:=hy.2;show y.2 - 1<T.en y.1;omega⟩
   exact ihd (y.1,y.2 - 1) hx (.inl ⟨rfl,by show y.2=y.2 - 1+1;omega⟩) ⟨by show c y.1≤y.2 - 1;omega,by show y.2 - 1<d y.1;omega⟩
  ·have e2:c y.1=y.2:=by omega
   refine hn ⟨y.1,hy.1,by omega,?_⟩
   have hon:T.On c y.1:=by
    refine ⟨by have:=hy.2;omega,?_⟩
    rw [e2]
    intro h3
    exact Nat.lt_of_not_le fun hge=>ihd (T.sndN y) (Tr.sndN_V hy) (.inr ⟨h3,rfl⟩) ⟨hge,hd.cut.cl y hy h2 h3⟩
   refine ⟨hc.cut.up hon,fun s hs hto=>?_⟩
   obtain ⟨x,z,hx,hz,rfl⟩:=hL.nn hs
   simp only [natV,Int.toNat_natCast] at hto ⊢
   have hge:c x.1≤upC c y.1 x.1:=by unfold upC;split <;> omega
   by_cases h3:z.2<c z.1
   ·have h4:=hc.per _ hs (by simp only [natV,Int.toNat_natCast];omega)
    simp only [natV,Int.toNat_natCast] at h4
    omega
   ·have hzy : z = y := by
      by_cases e1:z.1=y.1
      ·rw [e1,upC_same] at hto
       rw [e1] at h3
       exact Prod.ext e1 (by omega)
      ·rw [upC_other e1] at hto;omega
    subst hzy
    have h4:=hd.per _ hs (by simp only [natV,Int.toNat_natCast];omega)
    simp only [natV,Int.toNat_natCast] at h4
    have h5:=ih x hx ((mem_gr hL).2 (.inr hs))
    omega)
 exact key (p,c p) ⟨hp,by have:=hd.cut.le p hp;show c p<T.en p;omega⟩ ⟨Nat.le_refl _,h⟩
open Classical in
noncomputable def Tr.pnL (T:Tr) (L:List Syn) (c:Nat→Nat):Nat→List Nat
 | 0 => []
 | k+1 => T.pnL L c k++if c k<T.en k∧PCut T L (upC c k) then [k] else []
theorem Tr.mem_pnL {T:Tr} {L:List Syn} {c:Nat→Nat} {p:Nat}:∀ {k:Nat},p∈T.pnL L c k↔p<k∧c p<T.en p∧PCut T L (upC c p)
 | 0 => by simp [Tr.pnL]
 | k+1 => by
  unfold Tr.pnL
  rw [List.mem_append,Tr.mem_pnL (k:=k)]
  constructor
  ·rintro (⟨h1,h2⟩ | h)
   ·exact ⟨by omega,h2⟩
   ·split at h
    ·next h0=>simp at h;subst h;exact ⟨by omega,h0⟩
    ·simp at h
  ·rintro ⟨h1,h2⟩
   by_cases e:p=k
   ·subst e;right;rw [if_pos h2];simp
   ·exact .inl ⟨by omega,h2⟩
theorem Tr.pnL_len (T:Tr) (L:List Syn) (c:Nat→Nat):∀ k,(T.pnL L c k).length≤k
 | 0 => Nat.le_refl _
 | k+1 => by
  have:=T.pnL_len L c k
  unfold Tr.pnL
  rw [List.length_append]
  split <;> simp <;> omega
theorem Tr.pnL_yes {T:Tr} {L:List Syn} {c:Nat→Nat} {k:Nat} (h:c k<T.en k∧PCut T L (upC c k)):T.pnL L c (k+1)=T.pnL L c k++[k]:=by simp [Tr.pnL,h]
theorem Tr.pnL_no {T:Tr} {L:List Syn} {c:Nat→Nat} {k:Nat} (h:¬(c k<T.en k∧PCut T L (upC c k))):T.pnL L c (k+1)=T.pnL L c k:=by simp [Tr.pnL,h]
def PCutL (T:Tr) (L:List Syn) (l:List Nat):Prop:=l.length=T.n∧PCut T L (fn l)
theorem PCutL.cutL {T:Tr} {L:List Syn} {l:List Nat} (h:PCutL T L l):CutL T l:=⟨h.1,h.2.cut⟩
noncomputable def Tr.pnext (T:Tr) (L:List Syn) (l:List Nat):List (List Nat):=(T.pnL L (fn l) T.n).map fun p=>rowOf T.n (upC (fn l) p)
theorem Tr.mem_pnext {T:Tr} {L:List Syn} {l m:List Nat}:m∈T.pnext L l↔∃ p,p<T.n∧(fn l p<T.en p∧PCut T L (upC (fn l) p))∧m=rowOf T.n (upC (fn l) p):=by
 unfold Tr.pnext
 rw [List.mem_map]
 constructor
 ·rintro ⟨p,hp,rfl⟩;exact ⟨p,(Tr.mem_pnL.1 hp).1,(Tr.mem_pnL.1 hp).2,rfl⟩
 ·rintro ⟨p,h1,h2,rfl⟩;exact ⟨p,Tr.mem_pnL.2 ⟨h1,h2⟩,rfl⟩
theorem PCutL.next {T:Tr} {L:List Syn} (hL:SynOk T L) {l m:List Nat} (hm:m∈T.pnext L l):PCutL T L m∧tot (fn m) T.n=tot (fn l) T.n+1:=by
 obtain ⟨p,hp,ho,rfl⟩:=Tr.mem_pnext.1 hm
 refine ⟨⟨rowOf_len _ _,ho.2.congr hL fun q hq=>fn_rowOf hq⟩,?_⟩
 rw [totS_congr (g:=upC (fn l) p) fun q hq=>fn_rowOf hq,upC_tot hp]
theorem PCut.prev {T:Tr} (hV:T.Valid) {L:List Syn} (hL:SynOk T L) (hA:T.NoCyc L) {c:Nat→Nat} (hc:PCut T L c):∀ (m:Nat) (d:Nat→Nat),PCut T L d→(∀ q,q<T.n→d q≤c q)→tot c T.n=tot d T.n+m+1→∃ d p,PCut T L d∧p<T.n∧d p<T.en p∧PCut T L (upC d p)∧∀ q,q<T.n→upC d p q=c q
 | m,d,hd,hle,ht => by
  have hex:∃ p,p<T.n∧d p<c p:=Classical.byContradiction fun hn=>by
   have:tot c T.n≤tot d T.n:=totS_le fun p hp=>Nat.le_of_not_lt fun h=>hn ⟨p,hp,h⟩
   omega
  obtain ⟨p,hp,hlt⟩:=hex
  obtain ⟨q,hq,h1,h2⟩:=PCut.ex hV hL hA hd hc hp hlt
  have hle2:∀ r,r<T.n→upC d q r≤c r:=fun r hr=>by
   by_cases e:r=q
   ·subst e;rw [upC_same];exact h1
   ·rw [upC_other e];exact hle r hr
  have ht2:=upC_tot (c:=d) hq
  cases m with
  | zero => exact ⟨d,q,hd,hq,by have:=hc.cut.le q hq;omega,h2,tot_same hle2 (by omega)⟩
  | succ m => exact PCut.prev hV hL hA hc m (upC d q) h2 hle2 (by omega)
theorem PCutL.prev {T:Tr} (hV:T.Valid) {L:List Syn} (hL:SynOk T L) (hA:T.NoCyc L) {m:List Nat} (h:PCutL T L m) (h0:0<tot (fn m) T.n):∃ l,PCutL T L l∧tot (fn l) T.n+1=tot (fn m) T.n∧m∈T.pnext L l:=by
 have hz:tot (fun _=>0) T.n=0:=by
  have:∀ n,tot (fun _=>0) n=0:=fun n=>by induction n with | zero=>rfl | succ n ih=>exact ih
  exact this _
 obtain ⟨d,p,hd,hp,hlt,ho,he⟩:=h.2.prev hV hL hA (tot (fn m) T.n - 1) (fun _=>0) (PCut.zero hL) (fun _ _=>Nat.zero_le _) (by omega)
 have hf:∀ q,q<T.n→fn (rowOf T.n d) q=d q:=fun q hq=>fn_rowOf hq
 have hc:PCutL T L (rowOf T.n d):=⟨rowOf_len _ _,hd.congr hL hf⟩
 have hup:∀ q,q<T.n→upC (fn (rowOf T.n d)) p q=upC d p q:=fun q hq=>by unfold upC;rw [hf q hq]
 refine ⟨rowOf T.n d,hc,?_,Tr.mem_pnext.2 ⟨p,hp,⟨by rw [hf p hp];exact hlt,ho.congr hL hup⟩,?_⟩⟩
 ·have h1:=upC_tot (c:=d) hp
  rw [totS_congr he] at h1
  rw [totS_congr hf];omega
 ·exact fn_ext (by rw [h.1, rowOf_len]) fun q hq => by
    rw [h.1] at hq
    rw [fn_rowOf hq,hup q hq,he q hq]
theorem plevel_next {T:Tr} (hV:T.Valid) {L:List Syn} (hL:SynOk T L) (hA:T.NoCyc L) {P:List Nat→Prop} {k:Nat} (hP:∀ l,P l↔(PCutL T L l∧tot (fn l) T.n=k)) (m:List Nat):(∃ l,P l∧m∈T.pnext L l)↔(PCutL T L m∧tot (fn m) T.n=k+1):=by
 constructor
 ·rintro ⟨l,hl,hm⟩
  obtain ⟨h1,h2⟩:=(hP l).1 hl
  obtain ⟨h3,h4⟩:=PCutL.next hL hm
  exact ⟨h3,by omega⟩
 ·rintro ⟨h1,h2⟩
  obtain ⟨l,h3,h4,h5⟩:=h1.prev hV hL hA (by omega)
  exact ⟨l,(hP l).2 ⟨h3,by omega⟩,h5⟩
theorem plevel_none {T:Tr} (hV:T.Valid) {L:List Syn} (hL:SynOk T L) (hA:T.NoCyc L) {k:Nat} (hn:∀ l,¬(PCutL T L l∧tot (fn l) T.n=k)):∀ (j:Nat) (l:List Nat),PCutL T L l→tot (fn l) T.n≠k+j
 | 0,l,h,he => hn l ⟨h,he⟩
 | j+1,l,h,he => by
  obtain ⟨m,h1,h2,_⟩:=h.prev hV hL hA (by omega)
  exact plevel_none hV hL hA hn j m h1 (by omega)
def IsPCuts (T:Tr) (L:List Syn) (M:List (List Nat)):Prop:=M.Pairwise (fun a b=>befP T.n (fn a) (fn b))∧∀ l,l∈M↔PCutL T L l
end Go.Proofs.YtkhgpockmaghjaaGreat

namespace Go.Proofs.YtkhgpockmaghjaaGreat
open Go.RowKit Go.Shelf
attribute [local go_sem] Oper.semAt_some
theorem PSize.congr {T:Tr} {L:List Syn} {B B' O O':Prop} {r:Int} (h:PSize T L B O r) (hB:B↔B') (hO:O↔O'):PSize T L B' O' r:=by
 unfold PSize at h ⊢;rw [hB,hO] at h;exact h
theorem PFault.congr {T:Tr} {L:List Syn} {B B' O O':Prop} {r:Int} (h:PFault T L B O r) (hB:B↔B') (hO:O↔O'):PFault T L B' O' r:=by
 rcases h with ⟨h1,h2⟩ | ⟨h1,h2,h3⟩ | ⟨h1,h2,h3⟩
 ·exact .inl ⟨h1.congr hB hO,h2⟩
 ·exact .inr (.inl ⟨h1.congr hB hO,h2,h3⟩)
 ·exact .inr (.inr ⟨h1.congr hB hO,h2,h3⟩)
theorem evs_small {T:Tr} (hV:T.Valid):T.evs.length≤512:=by
 have h1:=T.evs_len (fun k hk=>hV.en64 hk) T.n (Nat.le_refl _)
 have h2:=hV.n8
 unfold Tr.evs
 omega
theorem V_iff {T:Tr} (z:NN):T.V z↔z∈T.evs.map (·.1):=by
 refine ⟨evs_mem,fun h=>?_⟩
 obtain ⟨x,_,e⟩:=List.mem_map.1 h
 rw [←e];exact x.2
theorem cycm_any (W : World) {w1 : World} {bm : Nat} {NV : NN → Value} {T : Tr} (hV : T.Valid) {L : List Syn} (hL : SynOk T L) (hl : L.length ≤ 1000) (hM : MdI w1 bm (T.evs.map (·.1)) NV (T.gr L) W) :
    Calls Tryz.prog 72 #[.map (some bm)] W (BoolPost (¬T.NoCyc L) W):=
 (cyclicg_any W hM (V:=T.V) V_iff (fun _ hz _ hy=>gr_V hV hL hz hy) (fun z _=>by have:=gr_len T L z;omega) (fun S hn hv=>Nat.le_trans (evs_count hn hv) (evs_small hV))).mono fun e w' ⟨b,he,hb,hx⟩=>⟨b,he,by
  rw [hb]
  constructor
  ·rintro ⟨z,hz,hp⟩ h;exact h z hz hp
  ·intro h
   exact Classical.byContradiction fun hn=>h fun z hz hp=>hn ⟨z,hz,hp⟩,hx⟩
set_option maxHeartbeats 1000000 in
theorem check_any (w : World) (T : TM) (hT : T.At w) (D : SyD) (hD : D.At w) (a : Option Addr) (g o n cap : Nat) (v : Nat → Int) (hC : NumAt w n a g o v) :
    Calls Tryz.prog 48 #[T.val,.slice D.s.a D.s.n D.s.c,.slice a n cap] w fun e w'=>Ext w w'∧∃ r:Int,e=.returned (.int .i64 r)∧PFault T.toTr D.l (n=T.n) (¬T.toTr.InR T.n v) r:=by
 have HSZ:=Lib.hid (fun W (h:Ext w W)=>sizes_any W T (hT.ext h) D (hD.ext h) a g o n cap v (hC.ext h))
 have HMD:=Lib.hid (fun W (h:Ext w W) (hV:T.toTr.Valid) (hL:SynOk T.toTr D.l) (hl:D.l.length≤1000)=>made_any W T (hT.ext h) hV D (hD.ext h) hL (by rw [D.len] at hl;exact hl))
 obtain ⟨ta,hta⟩:∃ z,z=T.a:=⟨_,rfl⟩
 obtain ⟨da,hda⟩:∃ z,z=D.s.a:=⟨_,rfl⟩
 obtain ⟨dn,hdn⟩:∃ z,z=D.s.n:=⟨_,rfl⟩
 simp only [TM.val,←hta] at HSZ HMD ⊢
 rw [←hda,←hdn] at HSZ HMD
 rw [←hda,←hdn]
 clear hT hD hC hta hda hdn
 go_enter Tryz.func48,Tryz.ntmps48
 go_upto_region 1 with fail
 refine boxed1 (w:=w) (G:=fun x=>Code.wp _ _ _ _ x) ?_
 intro w1 hx1 hs1 ⟨l0,c0,_,_⟩
 have hx11:Ext w1 w1:=Ext.refl _
 clear hs1
 go_wp2_with fail
 go_at_call 69
 refine (HSZ.out w1 hx1).mono ?_
 rintro e w2 ⟨hx2,r,rfl,hr⟩
 have hxw2:=hx1.trans hx2
 by_cases h0:r=0
 ·subst h0
  have HR:=Lib.hid hr
  obtain ⟨⟨hV,_⟩,hl,hL,_⟩:=hr.ok
  have hmd:=HMD.out w2 hxw2 hV hL hl
  have HV:=Lib.hid hV
  have HL:=Lib.hid (And.intro hL hl)
  clear hr hV hL hl
  go_wp2_with fail
  go_at_call 71
  refine hmd.mono ?_
  rintro e w3 ⟨hx3,bm,NV,rfl,hM⟩
  have hxw3:=hxw2.trans hx3
  have hcy:=cycm_any w3 HV.out HL.out.1 HL.out.2 hM
  clear hmd hM
  go_wp2_with fail
  go_at_call 72
  refine hcy.mono ?_
  rintro e w4 ⟨b,rfl,hb,hx4⟩
  have HB:=Lib.hid hb
  clear hb hcy
  cases b with
  | true =>
   go_wp2_with fail
   go_ret
   exact ⟨hxw3.trans hx4,10,rfl,.inr (.inl ⟨HR.out,HB.out.1 (by trivial),rfl⟩)⟩
  | false =>
   have HN:=Lib.hid (show T.toTr.NoCyc D.l from Classical.byContradiction fun h=>absurd (HB.out.2 h) (by decide))
   go_wp2_with fail
   go_ret
   exact ⟨hxw3.trans hx4,0,rfl,.inr (.inr ⟨HR.out,HN.out,rfl⟩)⟩
 ·have d0:(r == 0)=false:=by simpa using h0
  have HR:=Lib.hid (And.intro hr h0)
  clear hr h0
  go_wp2_with fail
  go_ret
  exact ⟨hxw2,r,rfl,.inl ⟨HR.out.1,HR.out.2⟩⟩
set_option maxHeartbeats 1000000 in
theorem initial_any (w : World) (T : TM) (hn : T.n ≤ 1000) :
    Calls Tryz.prog 49 #[T.val] w fun e w'=>Ext w w'∧∃ g,e=.returned (.slice (some ⟨g,0,none⟩) T.n T.n)∧IntRow w' g T.n (fun _=>0)∧w.heap.size≤g:=by
 obtain ⟨j0,hj0,hy0,hy1,hy2⟩:=info_parts infoInt
 obtain ⟨ta,hta⟩:∃ z,z=T.a:=⟨_,rfl⟩
 obtain ⟨n,hnn⟩:∃ z,z=T.n:=⟨_,rfl⟩
 simp only [TM.val]
 rw [←hta,←hnn]
 rw [←hnn] at hn
 clear hta hnn
 go_enter Tryz.func49,Tryz.ntmps49
 go_upto_region 1 with fail
 refine boxed1 (w:=w) (G:=fun x=>Code.wp _ _ _ _ x) ?_
 intro w1 hx1 hs1 ⟨l0,c0,_,_⟩
 have hx11:Ext w1 w1:=Ext.refl _
 clear hs1
 go_wp2_with (at_make;refine wpList_make_full _ rfl _ _ 39 rfl w1.heap.size 3 j0 (.int .i64 0) 1 Tryz.underlying39 hj0 hy0 hy1 .i64 .i64 _ _ n rfl rfl rfl rfl (by rw [hy2];omega) (by unfold maxLen;omega) (Nat.le_refl _) ?_;intro w3 hown3 hg3)
 have hx3:Ext w1 w3:=(Below.refl _ _).grown hg3 (Nat.le_refl _) (by simp)
 have HI:=Lib.hid (IntRow.made hown3)
 clear hown3 hg3
 go_wp2_with fail
 go_ret
 exact ⟨hx1.trans hx3,w1.heap.size,rfl,HI.out,hx1.le⟩
theorem InR_zero (T:Tr):T.InR T.n (fun _=>0):=fun _ _=>⟨Int.le_refl _,Int.natCast_nonneg _⟩
theorem PFault.zero {T:Tr} {L:List Syn} {r:Int} (h:PFault T L (T.n=T.n) (¬T.InR T.n fun _=>0) r):PFault T L True False r:=
 h.congr ⟨fun _=>trivial,fun _=>rfl⟩ ⟨fun h=>h (InR_zero T),fun h=>h.elim⟩
set_option maxHeartbeats 1000000 in
theorem pvalid_any (w : World) (T : TM) (hT : T.At w) (hn : T.n ≤ 1000) (D : SyD) (hD : D.At w) :
    Calls Tryz.prog 20 #[T.val,.slice D.s.a D.s.n D.s.c] w (BoolPost (PFault T.toTr D.l True False 0) w):=by
 have HIN:=Lib.hid (fun W=>initial_any W T hn)
 have HCK:=Lib.hid (fun W (h:Ext w W) g (hr:IntRow W g T.n (fun _=>0))=>(show Calls Tryz.prog 48 #[T.val,.slice D.s.a D.s.n D.s.c,.slice (some ⟨g,0,none⟩) T.n T.n] W (fun e w'=>Ext W w'∧∃ r:Int,e=.returned (.int .i64 r)∧PFault T.toTr D.l True False r) from
  (check_any W T (hT.ext h) D (hD.ext h) (some ⟨g,0,none⟩) g 0 T.n T.n (fun _=>0) (hr.num (by omega))).mono fun e w' ⟨hx,r,he,hf⟩=>⟨hx,r,he,hf.zero⟩))
 obtain ⟨ta,hta⟩:∃ z,z=T.a:=⟨_,rfl⟩
 obtain ⟨da,hda⟩:∃ z,z=D.s.a:=⟨_,rfl⟩
 simp only [TM.val,←hta] at HIN HCK ⊢
 rw [←hda] at HCK
 rw [←hda]
 clear hT hD hta hda
 go_enter Tryz.func20,Tryz.ntmps20
 go_upto_region 1 with fail
 refine boxed1 (w:=w) (G:=fun x=>Code.wp _ _ _ _ x) ?_
 intro w1 hx1 hs1 ⟨l0,c0,_,_⟩
 clear hs1
 refine wp_region_held_drew (S:=fun w'=>Ext w1 w') (by kernel_rfl) (Ext.refl _).drew (fun hHeld=>?_)
 refine hQ 0 (v:=?_) rfl (y:=.inl ⟨by rfl,?_⟩) (h:=?_)
 rotate_left
 ·(intro w' hSw;(try dsimp only at hSw);have hSS:=Ext.refl w';go_simp;try with_reducible rfl)
 try simp only [Act.put,zA,zB,zC]
 refine hQ 1 (v:=?_) rfl (y:=.inl ⟨by rfl,?_⟩) (h:=?_)
 rotate_left
 ·(intro w' hSw;(try dsimp only at hSw);have hSS:=Ext.refl w';go_simp;try with_reducible rfl)
 try simp only [Act.put,zA,zB,zC]
 refine hQ 2 (v:=?_) rfl (y:=.inl ⟨by rfl,?_⟩) (h:=?_)
 rotate_left
 ·(intro w' hSw;(try dsimp only at hSw);have hSS:=Ext.refl w';go_simp;try with_reducible rfl)
 try simp only [Act.put,zA,zB,zC]
 refine wpAnyH_ready (rs:=[3]) (by kernel_rfl) (by simp) ?_
 refine AllReadyH.cons rfl (fun K hK=>?_) AllReadyH.nil
 go_simp
 go_at_call 49
 refine (HIN.out w1.drew).mono ?_
 rintro e w2 ⟨hx2,g,rfl,hr,-⟩
 have hx12:Ext w1 w2:=(Ext.refl w1).drew.trans hx2
 refine hK.out _ _ ?_ (fun hHeld2=>?_)
 ·exact hx12
 clear hK K
 try simp only [Act.put,zA,zB,zC]
 have hck:=HCK.out w2 (hx1.trans hx12) g hr
 refine wpAnyH_ready (rs:=[4]) (by kernel_rfl) (by simp) ?_
 refine AllReadyH.cons rfl (fun K hK=>?_) AllReadyH.nil
 go_simp
 go_at_call 48
 refine hck.mono ?_
 rintro e w3 ⟨hx3,r,rfl,hf⟩
 have hx13:=hx12.trans hx3
 refine hK.out _ _ ?_ (fun hHeld3=>?_)
 ·exact hx13
 clear hK K
 try simp only [Act.put,zA,zB,zC]
 have HF:=Lib.hid hf
 clear hf hck hr
 refine hQ 5 (v:=?_) rfl (y:=.inl ⟨by rfl,?_⟩) (h:=?_)
 rotate_left
 ·(intro w' hSw;(try dsimp only at hSw);have hSS:=Ext.refl w';go_simp;try with_reducible rfl)
 try simp only [Act.put,zA,zB,zC]
 refine hQ 6 (v:=?_) rfl (y:=.inl ⟨by rfl,?_⟩) (h:=?_)
 rotate_left
 ·(intro w' hSw;(try dsimp only at hSw);have hSS:=Ext.refl w';go_simp;try with_reducible rfl)
 try simp only [Act.put,zA,zB,zC]
 refine wpAnyH_done (by kernel_rfl) ?_ _
 clear hHeld hHeld2 hHeld3 hx2 hx3
 have hxw3:=hx1.trans hx13
 go_wp2_with fail
 go_ret
 refine ⟨r == 0,rfl,?_,hxw3⟩
 constructor
 ·intro h
  have h0:r=0:=by simpa using h
  subst h0;exact HF.out
 ·intro h
  have h0:=HF.out.uniq h Iff.rfl Iff.rfl
  subst h0;rfl
end Go.Proofs.YtkhgpockmaghjaaGreat

namespace Go.Proofs.YtkhgpockmaghjaaGreat
open Go.RowKit Go.Shelf
attribute [local go_sem] Oper.semAt_some
def brk (v:Nat→Int) (s:Syn):Bool:=decide (s.2.2≤v s.2.1.toNat) && decide (v s.1.1.toNat<s.1.2)
theorem brk_iff {L:List Syn} {v:Nat→Int}:PerP L v↔∀ s,s∈L→brk v s=false:=by
 unfold PerP brk
 constructor
 ·intro h s hs
  by_cases h1:s.2.2≤v s.2.1.toNat
  ·have h2:=h s hs h1
   have h3:¬v s.1.1.toNat<s.1.2:=by omega
   simp [h3]
  ·simp [h1]
 ·intro h s hs h1
  have h2:=h s hs
  simp [h1] at h2
  exact h2
set_option maxHeartbeats 1000000 in
theorem per1_any (w : World) {T : Tr} (a : Option Addr) (g o cap : Nat) (v : Nat → Int) (hC : NumAt w T.n a g o v) (s : Syn) (h1 : T.Ex s.1.1 s.1.2) (h2 : T.Ex s.2.1 s.2.2) (b : Nat) (hb : Hold w b #[.slice a T.n cap]) :
    Calls Tryz.prog 99 #[.agg #[.int .i64 s.1.1,.int .i64 s.1.2,.int .i64 s.2.1,.int .i64 s.2.2],.pointer (some ⟨b,0,none⟩)] w fun e w'=>e=.returned (.bool (brk v s))∧Ext w w':=by
 obtain ⟨⟨x0,x1⟩,⟨y0,y1⟩⟩:=s
 obtain ⟨p1,p2,_,_⟩:=h1
 obtain ⟨q1,q2,_,_⟩:=h2
 have hn:=hC.hn
 dsimp only at p1 p2 q1 q2 ⊢
 obtain ⟨p,rfl⟩:=Int.eq_ofNat_of_zero_le p1
 obtain ⟨q,rfl⟩:=Int.eq_ofNat_of_zero_le q1
 have hp:p<T.n:=by omega
 have hq:q<T.n:=by omega
 obtain rfl:=hC.pa (by omega)
 have gb:∀ w',Ext w w'→g<w'.heap.size:=fun w' x=>Nat.lt_of_lt_of_le (hC.pb (by omega)) x.le
 obtain ⟨vp,hvp⟩:∃ z,z=v p:=⟨_,rfl⟩
 obtain ⟨vq,hvq⟩:∃ z,z=v q:=⟨_,rfl⟩
 have cp:∀ w',Ext w w'→w'.cell? ⟨g,o+p,none⟩=some (.int .i64 vp):=fun w' x=>by rw [hvp];exact x.cell (hC.c p hp)
 have cq:∀ w',Ext w w'→w'.cell? ⟨g,o+q,none⟩=some (.int .i64 vq):=fun w' x=>by rw [hvq];exact x.cell (hC.c q hq)
 have hbr:brk v (((p:Int),x1),((q:Int),y1))=(decide (y1≤vq) && decide (vp<x1)):=by
  unfold brk;rw [hvp,hvq];rfl
 rw [hbr]
 obtain ⟨lb,cb,_,_⟩:=hb.box
 have hww:Ext w w:=Ext.refl _
 have hwp:IntKind.i64.wrap (p:Int)=(p:Int):=IntWalk.i64_in _ (by omega)
 have hwq:IntKind.i64.wrap (q:Int)=(q:Int):=IntWalk.i64_in _ (by omega)
 clear hC hb hvp hvq hbr
 by_cases d1:y1≤vq
 ·have e1:decide (y1≤vq)=true:=decide_eq_true d1
  by_cases d2:vp<x1
  ·have e2:decide (vp<x1)=true:=decide_eq_true d2
   rw [e1,e2]
   go_enter Tryz.func99,Tryz.ntmps99
   go_upto_region 1 with fail
   refine boxed1 (w:=w) (G:=fun x=>Code.wp _ _ _ _ x) ?_
   intro w1 hx1 hs1 ⟨l0,c0,_,_⟩
   have hx11:Ext w1 w1:=Ext.refl _
   clear hs1
   go_quiet (fail)
   go_wp2_with fail
   go_ret
   exact ⟨rfl,by first | exact hx1.drew | exact hx1.drewN _⟩
  ·have e2:decide (vp<x1)=false:=decide_eq_false d2
   rw [e1,e2]
   go_enter Tryz.func99,Tryz.ntmps99
   go_upto_region 1 with fail
   refine boxed1 (w:=w) (G:=fun x=>Code.wp _ _ _ _ x) ?_
   intro w1 hx1 hs1 ⟨l0,c0,_,_⟩
   have hx11:Ext w1 w1:=Ext.refl _
   clear hs1
   go_quiet (fail)
   go_wp2_with fail
   go_ret
   exact ⟨rfl,by first | exact hx1.drew | exact hx1.drewN _⟩
 ·have e1:decide (y1≤vq)=false:=decide_eq_false d1
  rw [e1,Bool.false_and]
  go_enter Tryz.func99,Tryz.ntmps99
  go_upto_region 1 with fail
  refine boxed1 (w:=w) (G:=fun x=>Code.wp _ _ _ _ x) ?_
  intro w1 hx1 hs1 ⟨l0,c0,_,_⟩
  have hx11:Ext w1 w1:=Ext.refl _
  clear hs1
  go_quiet (fail)
  go_wp2_with fail
  go_ret
  exact ⟨rfl,by first | exact hx1.drew | exact hx1.drewN _⟩
set_option maxHeartbeats 1000000 in
theorem permitted_any (w : World) (T : TM) (hT : T.At w) (D : SyD) (hD : D.At w) (hL : SynOk T.toTr D.l) (a : Option Addr) (g o cap : Nat) (v : Nat → Int) (hC : NumAt w T.n a g o v) :
    Calls Tryz.prog 63 #[T.val,.slice D.s.a D.s.n D.s.c,.slice a T.n cap] w (BoolPost (T.toTr.IsCut T.n v∧PerP D.l v) w):=by
 have HCN:=Lib.hid (fun W (h:Ext w W)=>ccon_any W T (hT.ext h) a T.n cap g o v (hC.ext h))
 have HHS:=Lib.hid (fun W (x:Ext w W) b (hb:Hold W b #[.slice a T.n cap])=>(show Calls Tryz.prog 42 #[.slice D.s.a D.s.n D.s.c,.func (.func 99) #[] #[.pointer (some ⟨b,0,none⟩)]] W (fun e w'=>e=.returned (.bool (anyB (fun i=>brk v (D.at i)) D.s.n))∧Ext W w') from
  has_Sync W D.s.a D.s.b D.s.o D.s.n D.s.c (fun i=>.int .i64 (D.x i).1) (fun i=>.int .i64 (D.x i).2) (fun i=>.int .i64 (D.y i).1) (fun i=>.int .i64 (D.y i).2) 99 #[.pointer (some ⟨b,0,none⟩)] (fun i=>brk v (D.at i)) hD.hn hD.ha
   (fun w' y i hi=>(hD.ext (x.trans y)).c0 i hi) (fun w' y i hi=>(hD.ext (x.trans y)).c1 i hi) (fun w' y i hi=>(hD.ext (x.trans y)).c2 i hi) (fun w' y i hi=>(hD.ext (x.trans y)).c3 i hi) (enters_of Tryz.func99 (by kernel_rfl) rfl)
   (fun i hi w' y=>per1_any w' (T:=T.toTr) a g o cap v ((hC.ext x).ext y) (D.at i) (hL _ (SyD.mem.2 ⟨i,hi,rfl⟩)).1 (hL _ (SyD.mem.2 ⟨i,hi,rfl⟩)).2 b (hb.ext y))))
 have HBR:=Lib.hid (show anyB (fun i=>brk v (D.at i)) D.s.n=false↔PerP D.l v from by
  rw [brk_iff,Bool.eq_false_iff,ne_eq,anyB_iff]
  constructor
  ·intro h s hs
   obtain ⟨i,hi,rfl⟩:=SyD.mem.1 hs
   exact Bool.eq_false_iff.2 fun hn=>h ⟨i,hi,hn⟩
  ·rintro h ⟨i,hi,h1⟩
   rw [h _ (SyD.mem.2 ⟨i,hi,rfl⟩)] at h1;cases h1)
 obtain ⟨ta,hta⟩:∃ z,z=T.a:=⟨_,rfl⟩
 obtain ⟨da,hda⟩:∃ z,z=D.s.a:=⟨_,rfl⟩
 obtain ⟨dn,hdn⟩:∃ z,z=D.s.n:=⟨_,rfl⟩
 simp only [TM.val,←hta] at HCN ⊢
 rw [←hda,←hdn] at HHS
 rw [←hdn] at HBR
 rw [←hda,←hdn]
 clear hT hD hC hL hta hda hdn
 go_enter Tryz.func63,Tryz.ntmps63
 go_upto_region 1 with fail
 refine boxed2 (w:=w) (G:=fun x=>Code.wp _ _ _ _ x) ?_
 intro w1 hx1 hs1 ⟨l0,c0,_,_⟩ ⟨l1,c1,_,k1⟩
 have hx11:Ext w1 w1:=Ext.refl _
 have HK:=Lib.hid (show Hold w1 (w.heap.size+1) #[.slice a T.n cap] from k1)
 clear hs1 k1
 go_wp2_with fail
 go_at_call 98
 refine (HCN.out w1 hx1).mono ?_
 rintro e w2 ⟨b,rfl,hb,hx2⟩
 have hxw2:=hx1.trans hx2
 cases b with
 | false =>
  have HN:=Lib.hid (show ¬T.toTr.IsCut T.n v from fun h=>absurd (hb.2 h) (by decide))
  clear hb
  go_wp2_with fail
  go_ret
  exact ⟨false,rfl,⟨fun h=>(by cases h),fun h=>absurd h.1 HN.out⟩,hxw2⟩
 | true =>
  have HY:=Lib.hid (hb.1 rfl)
  have hhs:=HHS.out w2 hxw2 (w.heap.size+1) (HK.out.ext hx2)
  obtain ⟨q,hq⟩:∃ q,q=anyB (fun i=>brk v (D.at i)) dn:=⟨_,rfl⟩
  rw [←hq] at hhs HBR
  clear hb hq
  go_wp2_with fail
  go_at_call 42
  refine hhs.mono ?_
  rintro e w3 ⟨rfl,hx3⟩
  clear hhs
  go_wp2_with fail
  go_ret
  refine ⟨!q,rfl,?_,hxw2.trans hx3⟩
  have h1:=HBR.out
  constructor
  ·intro h
   have hq0:q=false:=by simpa using h
   exact ⟨HY.out,h1.1 hq0⟩
  ·intro h
   rw [h1.2 h.2];rfl
set_option maxHeartbeats 1000000 in
theorem pconsistent_any (w : World) (T : TM) (hT : T.At w) (D : SyD) (hD : D.At w) (a : Option Addr) (g o n cap : Nat) (v : Nat → Int) (hC : NumAt w n a g o v) :
    Calls Tryz.prog 21 #[T.val,.slice D.s.a D.s.n D.s.c,.slice a n cap] w (BoolPost (PFault T.toTr D.l (n=T.n) (¬T.toTr.InR T.n v) 0∧T.toTr.IsCut T.n v∧PerP D.l v) w):=by
 have HCK:=Lib.hid (fun W (h:Ext w W)=>check_any W T (hT.ext h) D (hD.ext h) a g o n cap v (hC.ext h))
 have HPM:=Lib.hid (fun W (h:Ext w W) (hn:n=T.n) (hL:SynOk T.toTr D.l)=>(show Calls Tryz.prog 63 #[T.val,.slice D.s.a D.s.n D.s.c,.slice a n cap] W (BoolPost (T.toTr.IsCut T.n v∧PerP D.l v) W) from by
  subst hn;exact permitted_any W T (hT.ext h) D (hD.ext h) hL a g o cap v (hC.ext h)))
 obtain ⟨ta,hta⟩:∃ z,z=T.a:=⟨_,rfl⟩
 obtain ⟨da,hda⟩:∃ z,z=D.s.a:=⟨_,rfl⟩
 obtain ⟨dn,hdn⟩:∃ z,z=D.s.n:=⟨_,rfl⟩
 simp only [TM.val,←hta] at HCK HPM ⊢
 rw [←hda,←hdn] at HCK HPM
 rw [←hda,←hdn]
 obtain ⟨P,hP⟩:∃ P:Prop,P=(PFault T.toTr D.l (n=T.n) (¬T.toTr.InR T.n v) 0∧T.toTr.IsCut T.n v∧PerP D.l v):=⟨_,rfl⟩
 rw [←hP]
 have HP:=Lib.hid hP
 clear hT hD hC hta hda hdn hP
 go_enter Tryz.func21,Tryz.ntmps21
 go_upto_region 1 with fail
 refine boxed1 (w:=w) (G:=fun x=>Code.wp _ _ _ _ x) ?_
 intro w1 hx1 hs1 ⟨l0,c0,_,_⟩
 have hx11:Ext w1 w1:=Ext.refl _
 clear hs1
 go_wp2_with fail
 go_at_call 48
 refine (HCK.out w1 hx1).mono ?_
 rintro e w2 ⟨hx2,r,rfl,hf⟩
 have hxw2:=hx1.trans hx2
 have HF:=Lib.hid hf
 by_cases h0:r=0
 ·subst h0
  obtain ⟨⟨_,hn⟩,_,hL,_⟩:=hf.ok
  have hpm:=HPM.out w2 hxw2 hn hL
  clear hf hn hL
  go_wp2_with fail
  go_at_call 63
  refine hpm.mono ?_
  rintro e w3 ⟨b,rfl,hb,hx3⟩
  have HB:=Lib.hid hb
  clear hb hpm
  go_wp2_with fail
  go_ret
  refine ⟨b,rfl,?_,hxw2.trans hx3⟩
  rw [HP.out]
  exact ⟨fun h=>⟨HF.out,HB.out.1 h⟩,fun h=>HB.out.2 h.2⟩
 ·have d0:(r == 0)=false:=by simpa using h0
  have HN:=Lib.hid (show ¬P from fun h=>h0 (by rw [HP.out] at h;exact HF.out.uniq h.1 Iff.rfl Iff.rfl))
  clear hf h0
  go_wp2_with fail
  go_ret
  exact ⟨false,rfl,⟨fun h=>(by cases h),fun h=>absurd h HN.out⟩,hxw2⟩
end Go.Proofs.YtkhgpockmaghjaaGreat
