/- Contracts and laws in plain Lean for RApp: group P96. -/
import Derived.Test.YtmhapcnlpoilpaaGreatDoorP95
import Derived.Test.YtmhapcnlpoilpaaGreatDoorP87
set_option maxRecDepth 100000
namespace Go.Proofs.YtmhapcnlpoilpaaGreatDoor
open Go.RowKit Go.Shelf
attribute [local go_sem] Oper.semAt_some
set_option maxHeartbeats 1000000 in
theorem rdec20_any (n:Nat):n≤1000000→∀ w,Calls Tryz.prog 129 #[.int .i64 n] w fun e w'=>e=.returned (.string (bts (Lib.decDigits n)))∧Ext w w':=by
 induction n using Nat.strongRecOn with
 | ind n ih =>
  intro hn w
  obtain ⟨d,hd⟩:∃ d:Nat,d=n % 10:=⟨_,rfl⟩
  obtain ⟨q,hq⟩:∃ q:Nat,q=n / 10:=⟨_,rfl⟩
  have hd10:d<10:=by omega
  have b0:decide ((n:Int)<0)=false:=decide_eq_false (by omega)
  have hmod:Int.tmod (n:Int) 10=(d:Int):=by rw [Int.tmod_eq_emod_of_nonneg (by omega)];omega
  have hdiv:Int.tdiv (n:Int) 10=(q:Int):=by rw [Int.tdiv_eq_ediv_of_nonneg (by omega)];omega
  have hw0:IntKind.i64.wrap ((48:Int)+(d:Int))=48+(d:Int):=IntWalk.i64_in _ (by omega)
  have hwq:IntKind.i64.wrap (q:Int)=(q:Int):=IntWalk.i64_in _ (by omega)
  have hw1:IntKind.u8.wrap ((48:Int)+(d:Int))=48+(d:Int):=by
   have:∀ d:Nat,d<10→IntKind.u8.wrap ((48:Int)+(d:Int))=48+(d:Int):=by decide
   exact this d hd10
  obtain ⟨c,hc⟩:∃ c,c=UInt8.ofNat (48+d):=⟨_,rfl⟩
  have hcv:(convert 104 9 (.slice (some ⟨w.heap.size,0,none⟩) 1 1)).run Tryz.prog (w.alloc (.cells #[.int .u8 (48+(d:Int))] 5))=.ok (.string (bts [c])) (w.alloc (.cells #[.int .u8 (48+(d:Int))] 5)):=
   run_convert_bytes_back _ _ _ _ ⟨w.heap.size,0,none⟩ 1 [c] Tryz.underlying104 Tryz.underlying5 Tryz.underlying9 fun j hj=>by
    obtain rfl:j=0:=by simp at hj;omega
    show (w.alloc _).cell? ⟨w.heap.size,0,none⟩=some (.int .u8 ((c.toNat:Nat):Int))
    rw [hc,dig_nat d hd10]
    exact World.cell?_alloc_mark w _ _ (0,0) 0
  have hx1:Ext w (w.alloc (.cells #[.int .u8 (48+(d:Int))] 5)):=(Ext.refl w).alloc' _
  have HIH:=Lib.hid (fun (h:10≤n) W=>(ih q (by omega) (by omega) W))
  have HQ:=Lib.hid (And.intro hd (And.intro hq hc))
  clear ih hd hq hc
  by_cases h10:n<10
  ·have b1:decide ((10:Int)≤(n:Int))=false:=decide_eq_false (by omega)
   have b1':decide (10≤n)=false:=decide_eq_false (by omega)
   go_enter Tryz.func129,Tryz.ntmps129
   go_wp2_with fail
   go_ret
   exact ⟨by
    rw [Lib.decDigits,dif_pos h10,HQ.out.2.2,show d=n by have:=HQ.out.1;omega];rfl,hx1⟩
  ·have b1:decide ((10:Int)≤(n:Int))=true:=decide_eq_true (by omega)
   have b1':decide (10≤n)=true:=decide_eq_true (by omega)
   have hih:=fun W=>HIH.out (by omega) W
   obtain ⟨x,hx⟩:∃ x,x=Lib.decDigits q:=⟨_,rfl⟩
   have hxl:x.length≤1000001:=by rw [hx];have:=decDigits_len q;have:=HQ.out.2.1;omega
   rw [←hx] at hih
   have HX:=Lib.hid hx
   have HI2:=Lib.hid hih
   have hs1:=bts_size x
   have hs2:=bts_size [c]
   have hcat:¬9223372036854775807<x.length+1:=by omega
   have h10':=Lib.hid h10
   clear hx hih h10
   go_enter Tryz.func129,Tryz.ntmps129
   go_wp2_with (go_at_call 129;refine (HI2.out _).mono ?_;rintro e w2 ⟨rfl,hx2⟩)
   go_ret
   exact ⟨by
    rw [Lib.decDigits,dif_neg h10'.out,←HQ.out.2.1,←HQ.out.1,←HX.out,←HQ.out.2.2]
    exact congrArg (fun z=>Ending.returned (Value.string z)) (bts_append x [c]),hx1.trans hx2⟩
def evT (T:Tr) (x:EvE):List UInt8:=(T.name x.1.toNat).data.toList++46 :: Lib.itoa x.2
def grpT (T:Tr) (S:SlcD) (n:Nat) (g:List EvE):List UInt8:=(123 :: jn (fun i=>evT T (g.getD i (0,0))) 32 g.length)++([125,32]++wriL (natV (fn (S.E n (g.headD (0,0))))) n++[10])
def slH (S:SlcD) (n:Nat):List UInt8:=[102,105,114,115,116,32]++wriL S.f.z n++[10]++[108,97,115,116,32]++wriL S.l.z n++[10]
def slG (T:Tr) (S:SlcD) (n:Nat) (G:List (List EvE)):Nat→List UInt8
 | 0 => slH S n
 | k+1 => slG T S n G k++grpT T S n (G.getD k [])
theorem wriL_len {v:Nat→Int} {n:Nat} (hn:n≤100) (hv:∀ k,k<n→0≤v k∧v k≤1000):(wriL v n).length≤110000:=by
 rw [wriL_jn]
 have h1:=jn_le (f:=fun i=>Lib.itoa (v i)) (d:=32) (c:=1001) (k:=n) fun i hi=>by
  have h1:=hv i hi
  have h2:=itoa_len (v i) h1.1
  omega
 have h2:n*(1001+1)≤100*(1001+1):=Nat.mul_le_mul_right _ hn
 simp only [List.length_append,List.length_cons,List.length_nil]
 omega
theorem evT_len {T:Tr} {x:EvE} (hn:(T.name x.1.toNat).size≤1000) (h0:0≤x.2) (h1:x.2≤1000):(evT T x).length≤2100:=by
 have h2:=itoa_len x.2 h0
 have h3:=bytes_len (T.name x.1.toNat)
 unfold evT
 rw [List.length_append,List.length_cons]
 omega
theorem SlcD.GOk.ev {S:SlcD} {n:Nat} (h:S.GOk n) {x:EvE} (hx:x∈S.own n):x.1.toNat<n∧x.1=(x.1.toNat:Int)∧0<x.2∧x.2≤1000:=by
 obtain ⟨p,k,hp,hk,rfl⟩:=mem_ownL.1 hx
 have h1:=h.b p hp
 refine ⟨by simpa using hp,by simp,?_,?_⟩
 ·show 0<S.f.z p+1+(k:Int);omega
 ·show S.f.z p+1+(k:Int)≤1000;omega
theorem SlcD.GOk.evl {S:SlcD} {T:Tr} {n:Nat} (h:S.GOk n) (hN:∀ p,p<n→(T.name p).size≤1000) {x:EvE} (hx:x∈S.own n):(evT T x).length≤2100:=by
 have h1:=h.ev hx
 exact evT_len (hN _ h1.1) (by omega) h1.2.2.2
theorem SlcD.Has.bd {S:SlcD} {n:Nat} {x:EvE} (h:S.Has n x):∀ k,k<n→0≤natV (fn (S.E n x)) k∧natV (fn (S.E n x)) k≤1000:=fun k hk=>by
 obtain ⟨p,i,rfl,_,_,_,hv⟩:=h
 have:=hv k hk
 rw [S.E_at];unfold natV;rw [fn_rowOf hk];omega
theorem getD_own {S:SlcD} {n:Nat} {G:List (List EvE)} (h:GFin S n G) {i k:Nat} (hk:k<(G.getD i []).length):(G.getD i []).getD k (0,0)∈S.own n:=by
 have hi:i<G.length:=Nat.lt_of_not_le fun h2=>by
  rw [List.getD_eq_getElem?_getD,List.getElem?_eq_none h2] at hk;simp at hk
 refine h.of (G.getD i []) ?_ _ (getD_memE hk)
 rw [List.getD_eq_getElem?_getD,List.getElem?_eq_getElem hi];exact List.getElem_mem hi
theorem jnG_len {S : SlcD} {T : Tr} {n : Nat} {G : List (List EvE)} (hO : S.GOk n) (h : GFin S n G) (hN : ∀ p, p < n → (T.name p).size ≤ 1000) {i k : Nat} (hk : k ≤ (G.getD i []).length) :
    (123 :: jn (fun j=>evT T ((G.getD i []).getD j (0,0))) 32 k).length≤90000:=by
 have h1:=jn_le (f:=fun j=>evT T ((G.getD i []).getD j (0,0))) (d:=32) (c:=2100) (k:=k) fun j hj=>hO.evl hN (getD_own h (by omega))
 have h2:=h.lens i
 have h3:k*(2100+1)≤39*(2100+1):=Nat.mul_le_mul_right _ (by omega)
 rw [List.length_cons]
 omega
theorem GFin.hd {S:SlcD} {n:Nat} {G:List (List EvE)} (h:GFin S n G) {i:Nat} (hi:i<G.length):0<(G.getD i []).length∧(G.getD i []).headD (0,0)=(G.getD i []).getD 0 (0,0):=by
 have h1:G.getD i []∈G:=by rw [List.getD_eq_getElem?_getD,List.getElem?_eq_getElem hi];exact List.getElem_mem hi
 have h2:=h.ne _ h1
 cases hg:G.getD i [] with
 | nil => exact absurd hg h2
 | cons a t => exact ⟨by simp,by simp⟩
theorem grpT_len {S:SlcD} {T:Tr} {n:Nat} {G:List (List EvE)} (hO:S.GOk n) (h:GFin S n G) (hN:∀ p,p<n→(T.name p).size≤1000) {i:Nat} (hi:i<G.length):(grpT T S n (G.getD i [])).length≤210000:=by
 have h1:=jnG_len hO h hN (i:=i) (Nat.le_refl _)
 have h2:=h.hd hi
 have h3:=wriL_len hO.hn (hO.has _ (getD_own h h2.1)).bd
 unfold grpT
 rw [h2.2,List.length_append,List.length_append,List.length_append]
 simp only [List.length_cons,List.length_nil] at h1 ⊢
 omega
theorem slG_len {S:SlcD} {T:Tr} {n:Nat} {G:List (List EvE)} (hO:S.GOk n) (h:GFin S n G) (hN:∀ p,p<n→(T.name p).size≤1000):∀ {k:Nat},k≤G.length→(slG T S n G k).length≤300000+k*210000
 | 0,_ => by
  have h1:=wriL_len (v:=S.f.z) hO.hn fun p hp=>by have:=hO.b p hp;omega
  have h2:=wriL_len (v:=S.l.z) hO.hn fun p hp=>by have:=hO.b p hp;have:=hO.lz p hp;omega
  unfold slG slH
  simp only [List.length_append,List.length_cons,List.length_nil]
  omega
 | k+1,hk => by
  have h1:=slG_len hO h hN (k:=k) (by omega)
  have h2:=grpT_len hO h hN (i:=k) (by omega)
  unfold slG
  rw [List.length_append,Nat.succ_mul]
  omega
abbrev slcT (T:Tr) (S:SlcD) (n:Nat) (G:List (List EvE)):List UInt8:=slG T S n G G.length
set_option maxHeartbeats 1000000 in
theorem rname20_any (w : World) (T : TM) (hT : T.At w) (p : Nat) (x : Int) (hp : p < T.n) (hN : (T.name p).size ≤ 1000) (h0 : 0 ≤ x) (h1 : x ≤ 1000) :
    Calls Tryz.prog 77 #[T.val,.agg #[.int .i64 (p:Int),.int .i64 x]] w fun e w'=>e=.returned (.string (bts (evT T.toTr ((p:Int),x))))∧Ext w w':=by
 obtain ⟨d,hd⟩:∃ d,d=Lib.itoa x:=⟨_,rfl⟩
 have HDC:=Lib.hid (fun W=>(show Calls Tryz.prog 129 #[.int .i64 x] W (fun e w'=>e=.returned (.string (bts d))∧Ext W w') from by
  have h:=rdec20_any x.toNat (by omega) W
  rw [show ((x.toNat:Nat):Int)=x by omega] at h
  rw [hd];unfold Lib.itoa;rw [if_neg (by omega)];exact h))
 have hdl:d.length≤1001:=by have:=itoa_len x h0;rw [hd];omega
 have hTP:=hT.P
 have htn:=hTP.hn
 have hp':(p:Int)<(T.n:Int):=by omega
 have p0:∀ w',Ext w w'→w'.cell? ⟨T.b,T.off+p*3,none⟩=some (.string (T.name p)):=fun w' h=>hTP.p0 w' h p hp
 have pb:=hTP.pb (by omega)
 obtain ⟨nm,hnm⟩:∃ nm,nm=(T.name p).data.toList:=⟨_,rfl⟩
 have hnb:T.name p=bts nm:=by rw [hnm];simp [bts]
 have hnl:nm.length≤1000:=by have:=bytes_len (T.name p);rw [hnm];omega
 rw [hnb] at p0
 have HEV:=Lib.hid (show evT T.toTr ((p:Int),x)=nm++46 :: d from by unfold evT;rw [hd,hnm];simp only [Int.toNat_natCast])
 have hv:T.val=.agg #[.slice (some ⟨T.b,T.off,none⟩) T.n T.cap]:=by
  show Value.agg #[.slice T.a _ _]=_
  rw [hTP.pa (by omega)]
 rw [hv]
 have hz1:=bts_size nm
 have hz2:=bts_size d
 have hk1:¬9223372036854775807<nm.length+1:=by omega
 have hk2:¬9223372036854775807<nm.length+1+d.length:=by omega
 clear hd hnm hnb hTP hv hT
 go_enter Tryz.func77,Tryz.ntmps77
 go_upto_region 1 with fail
 refine boxed2 (w:=w) (G:=fun x=>Code.wp _ _ _ _ x) ?_
 intro w1 hx1 hs1 ⟨l0,c0,_,_⟩ ⟨l1,c1,_,_⟩
 have hx11:Ext w1 w1:=Ext.refl _
 have hg0:∀ d os,Ext w (Sort.grow (redrawn w1 d) os):=fun d os=>hx1.trans (below_regrown w1 d os)
 have hg1:∀ d os,Ext w1 (Sort.grow (redrawn w1 d) os):=fun d os=>below_regrown w1 d os
 clear hs1
 refine wp_region_quiet_below (by kernel_rfl) (by kernel_rfl) ?_
 repeat (go_big_quiet_step (exact Calls.regrown_of (HDC.out _)))
 refine wpQuiet_nil ?_
 intro _ hw'
 obtain ⟨⟨dq,osq⟩,hw''⟩:=hw'
 subst hw''
 have hxq:=hg0 dq osq
 clear hg0 hg1
 go_wp2_with fail
 go_ret
 exact ⟨by rw [HEV.out];exact congrArg (fun z=>Ending.returned (Value.string z)) (by rw [show (⟨#[46]⟩:ByteArray)=bts [46] from rfl,bts_append,bts_append];simp),hxq⟩
end Go.Proofs.YtmhapcnlpoilpaaGreatDoor

namespace Go.Proofs.YtmhapcnlpoilpaaGreatDoor
open Go.RowKit Go.Shelf
attribute [local go_sem] Oper.semAt_some
set_option maxHeartbeats 8000000 in
theorem rslice_any (w : World) (T : TM) (hT : T.At w) (S : SlcD) (hS : S.At w) (hO : S.GOk T.n) (hem : S.em = false) (hN : ∀ p, p < T.n → (T.name p).size ≤ 1000) :
    Calls Tryz.prog 30 #[T.val,S.val] w fun e w'=>Ext w w'∧∃ G,(∀ G',IsGrp T.n (S.E T.n) (·∈S.own T.n) G'→G'=G)∧GFin S T.n G∧e=.returned (.string (bts (slcT T.toTr S T.n G))):=by
 obtain ⟨n,hn⟩:∃ n,n=T.n:=⟨_,rfl⟩
 have HS:=Lib.hid hS
 have HGR:=Lib.hid (fun W (x:Ext w W)=>rgroups_any W T S (hS.ext x) hO hem)
 have HNM:=Lib.hid (fun W (x:Ext w W) p y hp h0 h1=>rname20_any W T (hT.ext x) p y hp (hN p hp) h0 h1)
 obtain ⟨ja,hja⟩:∃ z,z=S.j.s.a:=⟨_,rfl⟩
 have HJA:=Lib.hid hja
 have hv:S.val=.agg #[.bool false,.slice S.f.s.a S.f.s.n S.f.s.c,.slice S.l.s.a S.l.s.n S.l.s.c,.slice ja S.j.s.n S.j.s.c]:=by rw [hja,←hem]
 rw [hv] at HGR ⊢
 rw [←hn] at hO hN HGR HNM ⊢
 have HO:=Lib.hid hO
 have HNN:=Lib.hid hN
 simp only [TM.val] at HGR HNM ⊢
 rw [←hn] at HGR HNM ⊢
 have hfb:∀ p,p<n→0≤S.f.z p∧S.f.z p≤1000:=fun p hp=>by have:=hO.b p hp;omega
 have hlb:∀ p,p<n→0≤S.l.z p∧S.l.z p≤1000:=fun p hp=>by have:=hO.b p hp;have:=hO.lz p hp;omega
 obtain ⟨fw,hfw⟩:∃ z,z=wriL S.f.z n:=⟨_,rfl⟩
 obtain ⟨lw,hlw⟩:∃ z,z=wriL S.l.z n:=⟨_,rfl⟩
 have hfl:fw.length≤110000:=by rw [hfw];exact wriL_len hO.hn hfb
 have hll:lw.length≤110000:=by rw [hlw];exact wriL_len hO.hn hlb
 have HWF:=Lib.hid (fun W (x:Ext w W)=>(show Calls Tryz.prog 75 #[.slice S.f.s.a S.f.s.n S.f.s.c] W (fun e w'=>e=.returned (.string (bts fw))∧Ext W w') from by
  have h1:=hS.f.num.ext x
  rw [hO.fn] at h1 ⊢
  rw [hfw]
  exact rwritten_any W n S.f.s.c _ _ _ _ h1 hO.hn fun p hp=>by have:=hfb p hp;omega))
 have HWL:=Lib.hid (fun W (x:Ext w W)=>(show Calls Tryz.prog 75 #[.slice S.l.s.a S.l.s.n S.l.s.c] W (fun e w'=>e=.returned (.string (bts lw))∧Ext W w') from by
  have h1:=hS.l.num.ext x
  rw [hO.ln] at h1 ⊢
  rw [hlw]
  exact rwritten_any W n S.l.s.c _ _ _ _ h1 hO.hn fun p hp=>by have:=hlb p hp;omega))
 have HWR:=Lib.hid (fun W (x:Ext w W) (va vc:_) (g o:Nat) (y:EvE) (hy:S.Has n y) (hA:NumAt W n va g o (natV (fn (S.E n y))))=>(rwritten_any W n vc va g o _ hA hO.hn fun p hp=>by have:=hy.bd p hp;omega))
 have HH:=Lib.hid (show slG T.toTr S n [] 0=[102,105,114,115,116,32]++fw++[10]++[108,97,115,116,32]++lw++[10] from by rw [hfw,hlw];rfl)
 have hz1:=bts_size fw
 have hz2:=bts_size lw
 have hjn:=HS.out.j.s.hn
 clear hS hO hem hv hja hn hT hN hfb hlb hfw hlw
 go_enter Tryz.func30,Tryz.ntmps30
 go_upto_region 1 with fail
 refine boxed2 (w:=w) (G:=fun x=>Code.wp _ _ _ _ x) ?_
 intro w1 hx1 hs1 ⟨l0,c0,_,_⟩ ⟨l1,c1,_,_⟩
 have hx11:Ext w1 w1:=Ext.refl _
 have hgA:∀ d os,Ext w (Sort.grow (redrawn w1 d) os):=fun d os=>hx1.trans (below_regrown w1 d os)
 have hgB:∀ d os,Ext w1 (Sort.grow (redrawn w1 d) os):=fun d os=>below_regrown w1 d os
 clear hs1
 have hk1:¬9223372036854775807<6+fw.length:=by omega
 have hk2:¬9223372036854775807<6+fw.length+6:=by omega
 have hk3:¬9223372036854775807<6+fw.length+6+lw.length:=by omega
 have hk4:¬9223372036854775807<6+fw.length+6+lw.length+1:=by omega
 go_upto_region 3 with fail
 refine wp_region_quiet_below (by kernel_rfl) (by kernel_rfl) ?_
 go_big_quiet_step (fail)
 go_big_quiet_step (fail)
 go_big_quiet_step (exact Calls.regrown_of (HWF.out _ (hgA _ _)))
 go_big_quiet_step (fail)
 go_big_quiet_step (fail)
 go_big_quiet_step (fail)
 go_big_quiet_step (fail)
 go_big_quiet_step (exact Calls.regrown_of (HWL.out _ (hgA _ _)))
 repeat (go_big_quiet_step (fail))
 refine wpQuiet_nil ?_
 intro _ hw'
 obtain ⟨⟨dq,osq⟩,hw''⟩:=hw'
 subst hw''
 have hx13:=hgB dq osq
 clear hgA hgB hk1 hk2 hk3 hk4
 generalize Sort.grow (redrawn w1 dq) osq=w3 at hx13 ⊢
 have hxw3:=hx1.trans hx13
 go_wp2_with fail
 go_at_call 76
 refine (HGR.out w3 hxw3).mono ?_
 rintro e w4 ⟨hx34,vg,G,rfl,⟨NG,hq,hqv⟩,hu,hf⟩
 obtain ⟨ga,gc,hvg⟩:=hq.slice
 subst hvg
 have HQ:=Lib.hid hq
 have HQV:=Lib.hid hqv
 have HU:=Lib.hid hu
 have HF:=Lib.hid hf
 have HK9:=Lib.hid hf.len
 have HX0:=Lib.hid (show slG T.toTr S n G 0=[102,105,114,115,116,32]++fw++[10]++[108,97,115,116,32]++lw++[10] from HH.out)
 obtain ⟨K,hK⟩:∃ K,K=G.length:=⟨_,rfl⟩
 have HKE:=Lib.hid hK
 rw [←hK] at HQ HK9 ⊢
 have hK39:K≤39:=HK9.out
 have hxw4:=hxw3.trans hx34
 have hx14:=hx13.trans hx34
 clear hq hqv hu hf hK HGR
 go_wp2_with fail
 go_loopg [5,7] K (fun gg v5 v7 wr=>∃ i:Nat,i≤K∧gg=K - i∧v7=.int .i64 i∧v5=.string (bts (slG T.toTr S n G i))∧Ext w4 wr)
 case atStart=>exact ⟨0,by omega,rfl,rfl,by
  rw [HX0.out]
  exact congrArg Value.string (by
   rw [show (⟨#[102,105,114,115,116,32]⟩:ByteArray)=bts [102,105,114,115,116,32] from rfl,show (⟨#[10,108,97,115,116,32]⟩:ByteArray)=bts ([10]++[108,97,115,116,32]) from rfl,show (⟨#[10]⟩:ByteArray)=bts [10] from rfl]
   simp only [bts_append,List.append_assoc]),Ext.refl _⟩
 case round=>
  obtain ⟨i,hi,rfl,rfl,rfl,hx4r⟩:=hrel
  have hx1r:=hx14.trans hx4r
  have hxwr:=hxw4.trans hx4r
  by_cases hik:i<K
  case neg=>
   obtain rfl:i=K:=by omega
   go_wp2_with fail
   go_ret
   exact ⟨hxwr,G,HU.out,HF.out,by rw [HKE.out];rfl⟩
  have hik':(i:Int)<(K:Int):=by omega
  have hiG:i<G.length:=by rw [←HKE.out];exact hik
  obtain ⟨g,o,gcap,hga,_,hgl,_,hcs⟩:=HQ.out.shape (by omega)
  obtain rfl:ga=some ⟨g,o,none⟩:=by cases hga;rfl
  obtain ⟨ng,no,ncap,hnv,_,hngl,_,hce⟩:=(HQV.out i hiG).shape (HF.out.hd hiG).1
  have c1g:∀ w',Ext w4 w'→w'.cell? ⟨g,o+i,none⟩=some (.slice (some ⟨ng,no,none⟩) (G.getD i []).length ncap):=fun w' x=>x.cell (by rw [hcs i (by omega)];simp [hik,hnv,←HKE.out])
  have cgb:∀ w',Ext w4 w'→g<w'.heap.size:=fun w' x=>Nat.lt_of_lt_of_le hgl x.le
  have cnb:∀ w',Ext w4 w'→ng<w'.heap.size:=fun w' x=>Nat.lt_of_lt_of_le hngl x.le
  have HCE:=Lib.hid (show ∀ k (hk:k<(G.getD i []).length) w',Ext w4 w'→w'.cell? ⟨ng,no+k*2,none⟩=some (.int .i64 ((G.getD i []).getD k (0,0)).1)∧w'.cell? ⟨ng,no+k*2+1,none⟩=some (.int .i64 ((G.getD i []).getD k (0,0)).2) from fun k hk w' x=>by
   have hge:(G.getD i [])[k]'hk=(G.getD i []).getD k (0,0):=by rw [List.getD_eq_getElem?_getD (l:=G.getD i []),List.getElem?_eq_getElem hk];rfl
   refine ⟨x.cell ?_,x.cell ?_⟩
   ·rw [hce (k*2) (by omega),evCells_get0 _ k hk,hge]
   ·rw [Nat.add_assoc,hce (k*2+1) (by omega),evCells_get1 _ k hk,hge])
  have HLJ:=Lib.hid (fun k (hk:k≤(G.getD i []).length)=>jnG_len HO.out HF.out HNN.out hk)
  have HXL:=Lib.hid (slG_len HO.out HF.out HNN.out (show i≤G.length by omega))
  have HGO:=Lib.hid (fun k (hk:k<(G.getD i []).length)=>getD_own HF.out hk)
  have HHD:=Lib.hid (HF.out.hd hiG)
  have HL9:=Lib.hid (HF.out.lens i)
  obtain ⟨g0,hg0⟩:∃ z,z=G.getD i []:=⟨_,rfl⟩
  have HG0:=Lib.hid hg0
  rw [←hg0] at c1g HCE HLJ HGO HHD HL9
  obtain ⟨L,hL⟩:∃ L,L=g0.length:=⟨_,rfl⟩
  have HLL:=Lib.hid hL
  rw [←hL] at c1g HCE HLJ HGO HHD HL9
  obtain ⟨X,hX⟩:∃ X,X=slG T.toTr S n G i:=⟨_,rfl⟩
  have HXE:=Lib.hid hX
  rw [←hX] at HXL ⊢
  have hXl:X.length≤9000000:=by have:=HXL.out;omega
  have hL39:L≤39:=HL9.out
  have hL0:0<L:=HHD.out.1
  have hzX:=bts_size X
  clear hnv hce hcs hg0 hL hX hga hgl hngl
  go_wp2_with fail
  go_loopg [8,9] L (fun gg v8 v9 wi=>∃ k:Nat,k≤L∧gg=L - k∧v9=.int .i64 k∧v8=.string (bts (123 :: jn (fun j=>evT T.toTr (g0.getD j (0,0))) 32 k))∧Ext w4 wi)
  case atStart=>exact ⟨0,by omega,rfl,rfl,rfl,hx4r⟩
  case round=>
   rename World=>wi
   obtain ⟨k,hk,rfl,rfl,rfl,hx4i⟩:=hrel
   have hx1i:=hx14.trans hx4i
   have hxwi:=hxw4.trans hx4i
   have hii:Ext wi wi:=Ext.refl _
   obtain ⟨Y,hY⟩:∃ Y,Y=123 :: jn (fun j=>evT T.toTr (g0.getD j (0,0))) 32 k:=⟨_,rfl⟩
   have hYl:Y.length≤90000:=by rw [hY];exact HLJ.out k hk
   have HYE:=Lib.hid hY
   rw [←hY]
   have hzY:=bts_size Y
   have hgA:∀ d os,Ext w (Sort.grow (redrawn wi d) os):=fun d os=>hxwi.trans (below_regrown wi d os)
   have hgB:∀ d os,Ext w1 (Sort.grow (redrawn wi d) os):=fun d os=>hx1i.trans (below_regrown wi d os)
   have hgC:∀ d os,Ext w4 (Sort.grow (redrawn wi d) os):=fun d os=>hx4i.trans (below_regrown wi d os)
   clear hY
   by_cases hkl:k<L
   case neg=>
    obtain rfl:k=L:=by omega
    have hlt':¬(k:Int)<(k:Int):=by omega
    have HHAS:=Lib.hid (show S.Has n (g0.getD 0 (0,0)) from HO.out.has _ (HGO.out 0 hL0))
    have HCX:=Lib.hid (HCE.out 0 hL0)
    obtain ⟨x,hx⟩:∃ x,x=g0.getD 0 (0,0):=⟨_,rfl⟩
    have HXG:=Lib.hid hx
    rw [←hx] at HHAS HCX
    obtain ⟨p,q,hxe,hp,hq,hrn,hvb⟩:=HHAS.out
    obtain ⟨xi,hxi⟩:∃ z,z=(q:Int)+1:=⟨_,rfl⟩
    have e0:∀ w',Ext w4 w'→w'.cell? ⟨ng,no,none⟩=some (.int .i64 p):=fun w' y=>by
     have h:=(HCX.out w' y).1
     rw [hxe] at h;exact h
    have e1:∀ w',Ext w4 w'→w'.cell? ⟨ng,no+1,none⟩=some (.int .i64 xi):=fun w' y=>by
     have h:=(HCX.out w' y).2
     rw [hxe] at h;rw [hxi];exact h
    have hM:=(HS.out.j.c p hp).2.at'
    have hnm:=hM.hn
    have hp':(p:Int)<(S.j.s.n:Int):=by omega
    have hq':(q:Int)<((S.j.m p).n:Int):=by omega
    have hb1:∀ w',Ext w w'→S.j.s.b<w'.heap.size:=fun w' x=>Nat.lt_of_lt_of_le (HS.out.j.s.hb (by omega)) x.le
    have hb2:=hM.pb (by omega)
    have k1:∀ w',Ext w w'→w'.cell? ⟨S.j.s.b,S.j.s.o+p,none⟩=some (.slice (some ⟨(S.j.m p).b,(S.j.m p).off,none⟩) (S.j.m p).n (S.j.m p).cap):=fun w' x=>by
     rw [←hM.pa (by omega)];exact x.cell (HS.out.j.c p hp).1
    have k2:∀ w',Ext w w'→w'.cell? ⟨(S.j.m p).b,(S.j.m p).off+q,none⟩=some (.slice ((S.j.m p).ra q) ((S.j.m p).rn q) ((S.j.m p).rc q)):=fun w' x=>hM.p0 w' x q hq
    have hxw:IntKind.i64.wrap (xi - 1)=(q:Int):=by rw [IntWalk.i64_in _ (by omega)];omega
    have hxs:xi - 1=(q:Int):=by omega
    have hqw:IntKind.i64.wrap (q:Int)=(q:Int):=IntWalk.i64_in _ (by omega)
    have HRA:=Lib.hid (SlcD.row_at HS.out HHAS.out)
    have hrv:=HRA.out.2
    have hrow:(S.row n x).val=.slice ((S.j.m p).ra q) n ((S.j.m p).rc q):=by
     rw [hrv,hxe];simp only [Int.toNat_natCast];rw [show ((q:Int)+1).toNat - 1=q by omega]
    obtain ⟨r,hr⟩:∃ r,r=S.row n x:=⟨_,rfl⟩
    rw [hrn] at k2
    rw [←hr] at hrow HRA
    obtain ⟨va,hva⟩:∃ z,z=(S.j.m p).ra q:=⟨_,rfl⟩
    obtain ⟨vc,hvc⟩:∃ z,z=(S.j.m p).rc q:=⟨_,rfl⟩
    rw [←hva,←hvc] at hrow k2
    have HRV:=Lib.hid hrow
    have HVA:=Lib.hid (show r.a=va∧r.c=vc∧r.l.length=n from by
     have h1:=hrow
     unfold Row.val at h1
     simp only [Value.slice.injEq] at h1
     exact ⟨h1.1,h1.2.2,h1.2.1⟩)
    obtain rfl:ja=some ⟨S.j.s.b,S.j.s.o,none⟩:=by rw [HJA.out];exact HS.out.j.s.ha (by omega)
    generalize (S.j.m p).n=nm at *
    generalize (S.j.m p).b=bm at *
    generalize (S.j.m p).off=om at *
    generalize (S.j.m p).cap=cm at *
    obtain ⟨ew,hew⟩:∃ z,z=wriL (natV (fn (S.E n x))) n:=⟨_,rfl⟩
    have hel:ew.length≤110000:=by rw [hew];exact wriL_len HO.out.hn HHAS.out.bd
    have HWE:=Lib.hid (fun W (y:Ext w W)=>(show Calls Tryz.prog 75 #[.slice va n vc] W (fun e w'=>e=.returned (.string (bts ew))∧Ext W w') from by
     have h3:=HRA.out.1.ext y
     unfold Row.At at h3
     rw [HVA.out.2.2,HVA.out.1,show r.l=S.E n x from by rw [hr];rfl] at h3
     rw [hew]
     exact HWR.out W y va vc r.g r.o x HHAS.out h3))
    have HEW:=Lib.hid hew
    have hze:=bts_size ew
    have hj1:¬9223372036854775807<X.length+Y.length:=by omega
    have hj2:¬9223372036854775807<X.length+Y.length+2:=by omega
    have hj3:¬9223372036854775807<X.length+Y.length+2+ew.length:=by omega
    have hj4:¬9223372036854775807<X.length+Y.length+2+ew.length+1:=by omega
    clear hxe hM hrn hvb hrow hrv hr hva hvc hxi hx hew
    go_upto_region 15 with fail
    refine wp_region_quiet_below (by kernel_rfl) (by kernel_rfl) ?_
    repeat (go_big_quiet_step (exact Calls.regrown_of (HWE.out _ (hgA _ _))))
    refine wpQuiet_nil ?_
    intro _ hw'
    obtain ⟨⟨dq,osq⟩,hw''⟩:=hw'
    subst hw''
    have hx4q:=hgC dq osq
    clear hgA hgB hgC e0 e1 k1 k2 hb1 hb2 hxw hxs hqw hp' hq'
    generalize Sort.grow (redrawn wi dq) osq=w7 at hx4q ⊢
    have HNX:=Lib.hid (show slG T.toTr S n G (i+1)=X++Y++[125,32]++ew++[10] from by
     show slG T.toTr S n G i++grpT T.toTr S n (G.getD i [])=_
     unfold grpT
     rw [←HG0.out,←HLL.out,←HXE.out,←HYE.out,HHD.out.2,←HXG.out,←HEW.out]
     simp only [List.append_assoc])
    go_wp2_with fail
    go_roundg (K - (i+1))
    case rel=>exact ⟨i+1,by omega,rfl,by go_num,by
     rw [HNX.out]
     exact congrArg Value.string (by
      rw [show (⟨#[125,32]⟩:ByteArray)=bts [125,32] from rfl,show (⟨#[10]⟩:ByteArray)=bts [10] from rfl]
      simp only [bts_append,List.append_assoc]),hx4q⟩
    case measure=>omega
   have hkl':(k:Int)<(L:Int):=by omega
   have hev:=HO.out.ev (HGO.out k hkl)
   have hcx:=HCE.out k hkl
   obtain ⟨x,hx⟩:∃ x,x=g0.getD k (0,0):=⟨_,rfl⟩
   rw [←hx] at hev hcx
   obtain ⟨p,hp⟩:∃ p,p=x.1.toNat:=⟨_,rfl⟩
   obtain ⟨xi,hxi⟩:∃ z,z=x.2:=⟨_,rfl⟩
   rw [←hp,←hxi] at hev
   have hxe:x=((p:Int),xi):=Prod.ext (by rw [hev.2.1]) hxi.symm
   have e0:∀ w',Ext w4 w'→w'.cell? ⟨ng,no+k*2,none⟩=some (.int .i64 p):=fun w' y=>by
    have h:=(hcx w' y).1
    rw [hxe] at h;exact h
   have e1:∀ w',Ext w4 w'→w'.cell? ⟨ng,no+k*2+1,none⟩=some (.int .i64 xi):=fun w' y=>by
    have h:=(hcx w' y).2
    rw [hxe] at h;exact h
   obtain ⟨ev,hevt⟩:∃ z,z=evT T.toTr ((p:Int),xi):=⟨_,rfl⟩
   have hevl:ev.length≤2100:=by rw [hevt,←hxe,hx];exact HO.out.evl HNN.out (HGO.out k hkl)
   have HNE:=Lib.hid (fun W (y:Ext w W)=>(show Calls Tryz.prog 77 #[.agg #[.slice T.a n T.cap],.agg #[.int .i64 (p:Int),.int .i64 xi]] W (fun e w'=>e=.returned (.string (bts ev))∧Ext W w') from by
    rw [hevt];exact HNM.out W y p xi hev.1 (by omega) hev.2.2.2))
   have HST:=Lib.hid (show 123 :: jn (fun j=>evT T.toTr (g0.getD j (0,0))) 32 (k+1)=Y++((if 0<k then [32] else [])++ev) from by
    rw [HYE.out,hevt,←hxe,hx];rfl)
   have hzv:=bts_size ev
   clear hev hcx hx hp hxi hxe hevt
   by_cases hk0:0<k
   ·have b1:decide ((0:Int)<(k:Int))=true:=decide_eq_true (by omega)
    have b1':decide (0<k)=true:=decide_eq_true hk0
    rw [if_pos hk0] at HST
    have hj1:¬9223372036854775807<Y.length+1:=by omega
    have hj2:¬9223372036854775807<Y.length+1+ev.length:=by omega
    clear hk0
    go_upto_region 14 with fail
    refine wp_region_quiet_below (by kernel_rfl) (by kernel_rfl) ?_
    repeat (go_big_quiet_step (exact Calls.regrown_of (HNE.out _ (hgA _ _))))
    refine wpQuiet_nil ?_
    intro _ hw'
    obtain ⟨⟨dq,osq⟩,hw''⟩:=hw'
    subst hw''
    have hx4q:=hgC dq osq
    clear hgA hgB hgC e0 e1
    generalize Sort.grow (redrawn wi dq) osq=w7 at hx4q ⊢
    go_wp2_with fail
    go_roundg (L - (k+1))
    case rel=>exact ⟨k+1,by omega,rfl,by go_num,by
     rw [HST.out]
     exact congrArg Value.string (by
      rw [show (⟨#[32]⟩:ByteArray)=bts [32] from rfl]
      simp only [bts_append,List.append_assoc]),hx4q⟩
    case measure=>omega
   ·have b1:decide ((0:Int)<(k:Int))=false:=decide_eq_false (by omega)
    have b1':decide (0<k)=false:=decide_eq_false hk0
    rw [if_neg hk0,List.nil_append] at HST
    have hj2:¬9223372036854775807<Y.length+ev.length:=by omega
    clear hk0
    go_upto_region 14 with fail
    refine wp_region_quiet_below (by kernel_rfl) (by kernel_rfl) ?_
    repeat (go_big_quiet_step (exact Calls.regrown_of (HNE.out _ (hgA _ _))))
    refine wpQuiet_nil ?_
    intro _ hw'
    obtain ⟨⟨dq,osq⟩,hw''⟩:=hw'
    subst hw''
    have hx4q:=hgC dq osq
    clear hgA hgB hgC e0 e1
    generalize Sort.grow (redrawn wi dq) osq=w7 at hx4q ⊢
    go_wp2_with fail
    go_roundg (L - (k+1))
    case rel=>exact ⟨k+1,by omega,rfl,by go_num,by
     rw [HST.out]
     exact congrArg Value.string (bts_append Y ev),hx4q⟩
    case measure=>omega
end Go.Proofs.YtmhapcnlpoilpaaGreatDoor
