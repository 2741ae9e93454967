/- Contracts and laws in plain Lean for RApp: group T79. -/
import Derived.Test.YtlfdfkbmollaaaaGreatDoorT78
import Derived.Test.YtlfdfkbmollaaaaGreatDoorT75
import Derived.Test.YtlfdfkbmollaaaaGreatDoorT01
set_option maxRecDepth 100000
namespace Go.Proofs.YtlfdfkbmollaaaaGreatDoor
open Go.RowKit Go.Shelf
attribute [local go_sem] Oper.semAt_some
theorem dig_nat:∀ d:Nat,d<10→((UInt8.ofNat (48+d)).toNat:Int)=48+(d:Int):=by decide
set_option maxHeartbeats 1000000 in
theorem rdec20_any (n:Nat):n≤1000000→∀ w,Calls Tryz.prog 120 #[.int .i64 n] w fun e w'=>e=.returned (.string (bts (Lib.decDigits n)))∧Ext w w':=by
 induction n using Nat.strongRecOn with
 | ind n ih =>
  intro hn w
  obtain ⟨d,hd⟩:∃ d:Nat,d=n % 10:=⟨_,rfl⟩
  obtain ⟨q,hq⟩:∃ q:Nat,q=n / 10:=⟨_,rfl⟩
  have hd10:d<10:=by omega
  have b0:decide ((n:Int)<0)=false:=decide_eq_false (by omega)
  have hmod:Int.tmod (n:Int) 10=(d:Int):=by rw [Int.tmod_eq_emod_of_nonneg (by omega)];omega
  have hdiv:Int.tdiv (n:Int) 10=(q:Int):=by rw [Int.tdiv_eq_ediv_of_nonneg (by omega)];omega
  have hw0:IntKind.i64.wrap ((48:Int)+(d:Int))=48+(d:Int):=IntWalk.i64_in _ (by omega)
  have hwq:IntKind.i64.wrap (q:Int)=(q:Int):=IntWalk.i64_in _ (by omega)
  have hw1:IntKind.u8.wrap ((48:Int)+(d:Int))=48+(d:Int):=by
   have:∀ d:Nat,d<10→IntKind.u8.wrap ((48:Int)+(d:Int))=48+(d:Int):=by decide
   exact this d hd10
  obtain ⟨c,hc⟩:∃ c,c=UInt8.ofNat (48+d):=⟨_,rfl⟩
  have hcv:(convert 101 9 (.slice (some ⟨w.heap.size,0,none⟩) 1 1)).run Tryz.prog (w.alloc (.cells #[.int .u8 (48+(d:Int))] 5))=.ok (.string (bts [c])) (w.alloc (.cells #[.int .u8 (48+(d:Int))] 5)):=
   run_convert_bytes_back _ _ _ _ ⟨w.heap.size,0,none⟩ 1 [c] Tryz.underlying101 Tryz.underlying5 Tryz.underlying9 fun j hj=>by
    obtain rfl:j=0:=by simp at hj;omega
    show (w.alloc _).cell? ⟨w.heap.size,0,none⟩=some (.int .u8 ((c.toNat:Nat):Int))
    rw [hc,dig_nat d hd10]
    exact World.cell?_alloc_mark w _ _ (0,0) 0
  have hx1:Ext w (w.alloc (.cells #[.int .u8 (48+(d:Int))] 5)):=(Ext.refl w).alloc' _
  have HIH:=Lib.hid (fun (h:10≤n) W=>(ih q (by omega) (by omega) W))
  have HQ:=Lib.hid (And.intro hd (And.intro hq hc))
  clear ih hd hq hc
  by_cases h10:n<10
  ·have b1:decide ((10:Int)≤(n:Int))=false:=decide_eq_false (by omega)
   have b1':decide (10≤n)=false:=decide_eq_false (by omega)
   go_enter Tryz.func120,Tryz.ntmps120
   go_wp2_with fail
   go_ret
   exact ⟨by
    rw [Lib.decDigits,dif_pos h10,HQ.out.2.2,show d=n by have:=HQ.out.1;omega];rfl,hx1⟩
  ·have b1:decide ((10:Int)≤(n:Int))=true:=decide_eq_true (by omega)
   have b1':decide (10≤n)=true:=decide_eq_true (by omega)
   have hih:=fun W=>HIH.out (by omega) W
   obtain ⟨x,hx⟩:∃ x,x=Lib.decDigits q:=⟨_,rfl⟩
   have hxl:x.length≤1000001:=by rw [hx];have:=decDigits_len q;have:=HQ.out.2.1;omega
   rw [←hx] at hih
   have HX:=Lib.hid hx
   have HI2:=Lib.hid hih
   have hs1:=bts_size x
   have hs2:=bts_size [c]
   have hcat:¬9223372036854775807<x.length+1:=by omega
   have h10':=Lib.hid h10
   clear hx hih h10
   go_enter Tryz.func120,Tryz.ntmps120
   go_wp2_with (go_at_call 120;refine (HI2.out _).mono ?_;rintro e w2 ⟨rfl,hx2⟩)
   go_ret
   exact ⟨by
    rw [Lib.decDigits,dif_neg h10'.out,←HQ.out.2.1,←HQ.out.1,←HX.out,←HQ.out.2.2]
    exact congrArg (fun z=>Ending.returned (Value.string z)) (bts_append x [c]),hx1.trans hx2⟩
set_option maxHeartbeats 1000000 in
theorem rdec36_any (n:Nat):n≤1000000→∀ w,Calls Tryz.prog 119 #[.int .i64 n] w fun e w'=>e=.returned (.string (bts (Lib.decDigits n)))∧Ext w w':=by
 induction n using Nat.strongRecOn with
 | ind n ih =>
  intro hn w
  obtain ⟨d,hd⟩:∃ d:Nat,d=n % 10:=⟨_,rfl⟩
  obtain ⟨q,hq⟩:∃ q:Nat,q=n / 10:=⟨_,rfl⟩
  have hd10:d<10:=by omega
  have b0:decide ((n:Int)<0)=false:=decide_eq_false (by omega)
  have hmod:Int.tmod (n:Int) 10=(d:Int):=by rw [Int.tmod_eq_emod_of_nonneg (by omega)];omega
  have hdiv:Int.tdiv (n:Int) 10=(q:Int):=by rw [Int.tdiv_eq_ediv_of_nonneg (by omega)];omega
  have hw0:IntKind.i64.wrap ((48:Int)+(d:Int))=48+(d:Int):=IntWalk.i64_in _ (by omega)
  have hwq:IntKind.i64.wrap (q:Int)=(q:Int):=IntWalk.i64_in _ (by omega)
  have hw1:IntKind.u8.wrap ((48:Int)+(d:Int))=48+(d:Int):=by
   have:∀ d:Nat,d<10→IntKind.u8.wrap ((48:Int)+(d:Int))=48+(d:Int):=by decide
   exact this d hd10
  obtain ⟨c,hc⟩:∃ c,c=UInt8.ofNat (48+d):=⟨_,rfl⟩
  have hcv:(convert 101 9 (.slice (some ⟨w.heap.size,0,none⟩) 1 1)).run Tryz.prog (w.alloc (.cells #[.int .u8 (48+(d:Int))] 5))=.ok (.string (bts [c])) (w.alloc (.cells #[.int .u8 (48+(d:Int))] 5)):=
   run_convert_bytes_back _ _ _ _ ⟨w.heap.size,0,none⟩ 1 [c] Tryz.underlying101 Tryz.underlying5 Tryz.underlying9 fun j hj=>by
    obtain rfl:j=0:=by simp at hj;omega
    show (w.alloc _).cell? ⟨w.heap.size,0,none⟩=some (.int .u8 ((c.toNat:Nat):Int))
    rw [hc,dig_nat d hd10]
    exact World.cell?_alloc_mark w _ _ (0,0) 0
  have hx1:Ext w (w.alloc (.cells #[.int .u8 (48+(d:Int))] 5)):=(Ext.refl w).alloc' _
  have HIH:=Lib.hid (fun (h:10≤n) W=>(ih q (by omega) (by omega) W))
  have HQ:=Lib.hid (And.intro hd (And.intro hq hc))
  clear ih hd hq hc
  by_cases h10:n<10
  ·have b1:decide ((10:Int)≤(n:Int))=false:=decide_eq_false (by omega)
   have b1':decide (10≤n)=false:=decide_eq_false (by omega)
   go_enter Tryz.func119,Tryz.ntmps119
   go_wp2_with fail
   go_ret
   exact ⟨by
    rw [Lib.decDigits,dif_pos h10,HQ.out.2.2,show d=n by have:=HQ.out.1;omega];rfl,hx1⟩
  ·have b1:decide ((10:Int)≤(n:Int))=true:=decide_eq_true (by omega)
   have b1':decide (10≤n)=true:=decide_eq_true (by omega)
   have hih:=fun W=>HIH.out (by omega) W
   obtain ⟨x,hx⟩:∃ x,x=Lib.decDigits q:=⟨_,rfl⟩
   have hxl:x.length≤1000001:=by rw [hx];have:=decDigits_len q;have:=HQ.out.2.1;omega
   rw [←hx] at hih
   have HX:=Lib.hid hx
   have HI2:=Lib.hid hih
   have hs1:=bts_size x
   have hs2:=bts_size [c]
   have hcat:¬9223372036854775807<x.length+1:=by omega
   have h10':=Lib.hid h10
   clear hx hih h10
   go_enter Tryz.func119,Tryz.ntmps119
   go_wp2_with (go_at_call 119;refine (HI2.out _).mono ?_;rintro e w2 ⟨rfl,hx2⟩)
   go_ret
   exact ⟨by
    rw [Lib.decDigits,dif_neg h10'.out,←HQ.out.2.1,←HQ.out.1,←HX.out,←HQ.out.2.2]
    exact congrArg (fun z=>Ending.returned (Value.string z)) (bts_append x [c]),hx1.trans hx2⟩
set_option maxHeartbeats 1000000 in
theorem rname20_any (w : World) (T : TM) (hT : T.At w) (p : Nat) (x : Int) (hp : p < T.n) (hN : (T.name p).size ≤ 1000) (h0 : 0 ≤ x) (h1 : x ≤ 1000) :
    Calls Tryz.prog 74 #[T.val,.agg #[.int .i64 (p:Int),.int .i64 x]] w fun e w'=>e=.returned (.string (bts (evN T.toTr ((p:Int),x))))∧Ext w w':=by
 obtain ⟨d,hd⟩:∃ d,d=Lib.itoa x:=⟨_,rfl⟩
 have HDC:=Lib.hid (fun W=>(show Calls Tryz.prog 120 #[.int .i64 x] W (fun e w'=>e=.returned (.string (bts d))∧Ext W w') from by
  have h:=rdec20_any x.toNat (by omega) W
  rw [show ((x.toNat:Nat):Int)=x by omega] at h
  rw [hd];unfold Lib.itoa;rw [if_neg (by omega)];exact h))
 have hdl:d.length≤1001:=by have:=itoa_len x h0;rw [hd];omega
 have hTP:=hT.P
 have htn:=hTP.hn
 have hp':(p:Int)<(T.n:Int):=by omega
 have p0:∀ w',Ext w w'→w'.cell? ⟨T.b,T.off+p*3,none⟩=some (.string (T.name p)):=fun w' h=>hTP.p0 w' h p hp
 have pb:=hTP.pb (by omega)
 obtain ⟨nm,hnm⟩:∃ nm,nm=(T.name p).data.toList:=⟨_,rfl⟩
 have hnb:T.name p=bts nm:=by rw [hnm];simp [bts]
 have hnl:nm.length≤1000:=by rw [hnm];simpa using hN
 rw [hnb] at p0
 have HEV:=Lib.hid (show evN T.toTr ((p:Int),x)=nm++46 :: d from by unfold evN;rw [hd,hnm];simp only [Int.toNat_natCast])
 have hv:T.val=.agg #[.slice (some ⟨T.b,T.off,none⟩) T.n T.cap]:=by
  show Value.agg #[.slice T.a _ _]=_
  rw [hTP.pa (by omega)]
 rw [hv]
 have hz1:=bts_size nm
 have hz2:=bts_size d
 have hk1:¬9223372036854775807<nm.length+1:=by omega
 have hk2:¬9223372036854775807<nm.length+1+d.length:=by omega
 clear hd hnm hnb hTP hv hT
 go_enter Tryz.func74,Tryz.ntmps74
 go_upto_region 1 with fail
 refine boxed2 (w:=w) (G:=fun x=>Code.wp _ _ _ _ x) ?_
 intro w1 hx1 hs1 ⟨l0,c0,_,_⟩ ⟨l1,c1,_,_⟩
 have hx11:Ext w1 w1:=Ext.refl _
 have hg0:∀ d os,Ext w (Sort.grow (redrawn w1 d) os):=fun d os=>hx1.trans (below_regrown w1 d os)
 have hg1:∀ d os,Ext w1 (Sort.grow (redrawn w1 d) os):=fun d os=>below_regrown w1 d os
 clear hs1
 refine wp_region_quiet_below (by kernel_rfl) (by kernel_rfl) ?_
 repeat (go_big_quiet_step (exact Calls.regrown_of (HDC.out _)))
 refine wpQuiet_nil ?_
 intro _ hw'
 obtain ⟨⟨dq,osq⟩,hw''⟩:=hw'
 subst hw''
 have hxq:=hg0 dq osq
 clear hg0 hg1
 go_wp2_with fail
 go_ret
 exact ⟨by rw [HEV.out];exact congrArg (fun z=>Ending.returned (Value.string z)) (by rw [show (⟨#[46]⟩:ByteArray)=bts [46] from rfl,bts_append,bts_append];simp),hxq⟩
set_option maxHeartbeats 1000000 in
theorem rcounts_any (w : World) (n cap : Nat) (a : Option Addr) (g o : Nat) (v : Nat → Int) (hA : NumAt w n a g o v) (hn : n ≤ 100) (hv : ∀ k, k < n → 0 ≤ v k ∧ v k ≤ 1000) :
    Calls Tryz.prog 73 #[.slice a n cap] w fun e w'=>e=.returned (.string (bts (cntL (vL v n))))∧Ext w w':=by
 have HA:=Lib.hid hA
 have HV:=Lib.hid hv
 have HT:=Lib.hid (fun W x (h0:0≤x) (h1:x≤1000)=>(show Calls Tryz.prog 119 #[.int .i64 x] W (fun e w'=>e=.returned (.string (bts (Lib.itoa x)))∧Ext W w') from by
  have h:=rdec36_any x.toNat (by omega) W
  rw [show ((x.toNat:Nat):Int)=x by omega] at h
  unfold Lib.itoa;rw [if_neg (by omega)];exact h))
 clear hA hv
 go_enter Tryz.func73,Tryz.ntmps73
 go_wp2_with fail
 go_loopg [3,4] n (fun gg v3 v4 wr=>∃ k:Nat,k≤n∧gg=n - k∧v4=.int .i64 k∧v3=.string (bts (cntL (vL v k)))∧Ext w wr)
 case atStart=>exact ⟨0,by omega,rfl,rfl,by simp [vL,cntL,bts],Ext.refl _⟩
 case round=>
  obtain ⟨k,hk,rfl,rfl,rfl,hxr⟩:=hrel
  obtain ⟨u,hu⟩:∃ u,u=cntL (vL v k):=⟨_,rfl⟩
  have hul:u.length≤300000:=by
   have h1:=cntL_len (vL v k) (vL_in fun j hj=>HV.out j (by omega))
   rw [vL_len] at h1
   have h2:k*1002≤100*1002:=Nat.mul_le_mul_right _ (by omega)
   rw [hu];omega
  rw [←hu]
  have hzu:=bts_size u
  by_cases hlt:k<n
  ·have hlt':(k:Int)<(n:Int):=by omega
   obtain rfl:=HA.out.pa (by omega)
   obtain ⟨x,hx⟩:∃ x,x=v k:=⟨_,rfl⟩
   have hxb:=HV.out k hlt
   rw [←hx] at hxb
   obtain ⟨d,hd⟩:∃ d,d=Lib.itoa x:=⟨_,rfl⟩
   have hdl:d.length≤1001:=by have:=itoa_len x hxb.1;rw [hd];omega
   have hzd:=bts_size d
   have hc:wr.cell? ⟨g,o+k,none⟩=some (.int .i64 x):=by rw [hx];exact hxr.cell (HA.out.c k hlt)
   have hg:g<wr.heap.size:=Nat.lt_of_lt_of_le (HA.out.pb (by omega)) hxr.le
   have HI:=Lib.hid (HT.out wr x hxb.1 hxb.2)
   rw [←hd] at HI
   have HS:=Lib.hid (show cntL (vL v (k+1))=u++(32 :: d) from by rw [vL_succ,cntL_app,hu,←hx];simp [cntL,hd])
   have hk1:¬9223372036854775807<u.length+1:=by omega
   have hk2:¬9223372036854775807<u.length+1+d.length:=by omega
   clear hu hx hd
   go_wp2_with (go_at_call 119;refine HI.out.mono ?_;rintro e w2 ⟨rfl,hx2⟩)
   go_roundg (n - (k+1))
   case rel=>exact ⟨k+1,by omega,rfl,by go_num,by rw [HS.out];exact congrArg Value.string (by rw [show (⟨#[32]⟩:ByteArray)=bts [32] from rfl,bts_append,bts_append];simp),hxr.trans hx2⟩
   case measure=>omega
  ·have hlt':decide ((k:Int)<(n:Int))=false:=decide_eq_false (by omega)
   obtain rfl:k=n:=by omega
   have HU:=Lib.hid hu
   clear hu
   go_wp2_with fail
   go_ret
   exact ⟨by rw [←HU.out] <;> rfl,hxr⟩
structure CnAt (w:World) (v:Value) (l:List UInt8):Prop where
 out:∀ W,Ext w W→Calls Tryz.prog 73 #[v] W fun e w'=>e=.returned (.string (bts l))∧Ext W w'
end Go.Proofs.YtlfdfkbmollaaaaGreatDoor

namespace Go.Proofs.YtlfdfkbmollaaaaGreatDoor
open Go.RowKit Go.Shelf
attribute [local go_sem] Oper.semAt_some
def rtexV (T:Tr) (S:SlcD):List UInt8:=if S.em=true then [101,109,112,116,121,10] else textL T S
set_option maxHeartbeats 8000000 in
theorem rtext36_any (w : World) (T : TM) (hT : T.At w) (S : SlcD) (hS : S.At w) (hO : S.Ok T.toTr) (h24 : tot T.en T.n ≤ 39) :
    Calls Tryz.prog 21 #[T.val,S.val] w fun e w'=>e=.returned (.string (bts (rtexV T.toTr S)))∧Ext w w':=by
 have HTX:=Lib.hid (fun (h:S.Ok T.toTr) (he:S.em=false)=>h.txf he h24)
 have HT:=Lib.hid hT
 have HS:=Lib.hid hS
 have HOK:=Lib.hid hO
 have HOW:=Lib.hid (fun W (x:Ext w W) (a1 a2:Option Addr) (g1 o1 g2 o2 n c1 c2:Nat) (u v:Nat→Int) (h1:NumAt W n a1 g1 o1 u) (h2:NumAt W n a2 g2 o2 v) (hn:T.n=n) (hn9:n≤100) hb=>rown_any W T a1 a2 g1 o1 g2 o2 n c1 c2 u v h1 h2 hn hn9 hb)
 simp only [TM.val] at HOW ⊢
 clear hT hS h24 hO
 go_enter Tryz.func21,Tryz.ntmps21
 go_upto_region 1 with fail
 refine boxed2 (w:=w) (G:=fun x=>Code.wp _ _ _ _ x) ?_
 intro w1 hx1 hs1 ⟨l0,c0,_,_⟩ ⟨l1,c1,_,_⟩
 have hx11:Ext w1 w1:=Ext.refl _
 clear hs1
 rcases hem:S.em with _ | _
 case true=>
  rw [hem] at c1
  have HV:=Lib.hid (show rtexV T.toTr S=[101,109,112,116,121,10] from if_pos hem)
  clear hem
  go_wp2_with fail
  go_ret
  exact ⟨by rw [HV.out];rfl,hx1⟩
 have HF:=Lib.hid (HTX.out HOK.out hem)
 have HEM:=Lib.hid hem
 have hn:=HF.out.g.hn
 obtain ⟨fa,hfa⟩:∃ z,z=S.f.s.a:=⟨_,rfl⟩
 obtain ⟨fc,hfc⟩:∃ z,z=S.f.s.c:=⟨_,rfl⟩
 obtain ⟨la,hla⟩:∃ z,z=S.l.s.a:=⟨_,rfl⟩
 obtain ⟨lc,hlc⟩:∃ z,z=S.l.s.c:=⟨_,rfl⟩
 obtain ⟨vj,hvj⟩:∃ z,z=S.j.s.v:=⟨_,rfl⟩
 have hfv:S.f.s.v=.slice fa T.n fc:=by rw [hfa,hfc,←HF.out.g.fn]
 have hlv:S.l.s.v=.slice la T.n lc:=by rw [hla,hlc,←HF.out.g.ln]
 have HSV:=Lib.hid (show S.val=.agg #[.bool false,.slice fa T.n fc,.slice la T.n lc,vj] from by
  show Value.agg #[.bool S.em,S.f.s.v,S.l.s.v,S.j.s.v]=_
  rw [hem,hfv,hlv,hvj])
 rw [hem,hfv,hlv,←hvj] at c1
 have HNF:=Lib.hid (show NumAt w T.n fa S.f.s.b S.f.s.o S.f.z from by
  have h:=HS.out.f.num
  rw [HF.out.g.fn,←hfa] at h;exact h)
 have HNL:=Lib.hid (show NumAt w T.n la S.l.s.b S.l.s.o S.l.z from by
  have h:=HS.out.l.num
  rw [HF.out.g.ln,←hla] at h;exact h)
 have HBF:=Lib.hid (show (∀ q,q<T.n→0≤S.f.z q∧S.f.z q≤1000)∧∀ q,q<T.n→0≤S.l.z q∧S.l.z q≤1000 from ⟨fun q hq=>by have:=HF.out.g.b q hq;omega,fun q hq=>by have:=HF.out.g.b q hq;have:=HF.out.g.lz q hq;omega⟩)
 have HV:=Lib.hid (show rtexV T.toTr S=textL T.toTr S from if_neg (by rw [HEM.out];decide))
 obtain ⟨lf,hlf⟩:∃ z,z=cntL (vL S.f.z T.n):=⟨_,rfl⟩
 obtain ⟨ll,hll⟩:∃ z,z=cntL (vL S.l.z T.n):=⟨_,rfl⟩
 have HHD:=Lib.hid (show headL S T.n=([102,105,114,115,116]++lf++[10])++([108,97,115,116]++ll++[10]) from by rw [hlf,hll];rfl)
 have hhl:lf.length≤110000∧ll.length≤110000:=by
  have h1:=cntL_len2 hn HBF.out.1
  have h2:=cntL_len2 hn HBF.out.2
  rw [hlf,hll];omega
 obtain ⟨hll1,hll2⟩:=hhl
 have HC1:CnAt w (.slice fa T.n fc) lf:=.mk fun W x=>by
  rw [hlf];exact rcounts_any W T.n fc fa _ _ S.f.z (HNF.out.ext x) hn HBF.out.1
 have HC2:CnAt w (.slice la T.n lc) ll:=.mk fun W x=>by
  rw [hll];exact rcounts_any W T.n lc la _ _ S.l.z (HNL.out.ext x) hn HBF.out.2
 have HOW2:=Lib.hid (fun W (x:Ext w W)=>HOW.out W x fa la _ _ _ _ T.n fc lc S.f.z S.l.z (HNF.out.ext x) (HNL.out.ext x) rfl hn HF.out.g.b)
 have hz1:=bts_size lf
 have hz2:=bts_size ll
 have hk1:¬9223372036854775807<5+lf.length:=by omega
 have hk2:¬9223372036854775807<5+lf.length+5:=by omega
 have hk3:¬9223372036854775807<5+lf.length+5+ll.length:=by omega
 have hk4:¬9223372036854775807<5+lf.length+5+ll.length+1:=by omega
 clear hem hfa hfc hla hlc hvj hfv hlv hlf hll HOW HTX
 go_upto_region 3 with fail
 have hg0:∀ d os,Ext w (Sort.grow (redrawn w1 d) os):=fun d os=>hx1.trans (below_regrown w1 d os)
 have hg1:∀ d os,Ext w1 (Sort.grow (redrawn w1 d) os):=fun d os=>below_regrown w1 d os
 refine wp_region_quiet_below (by kernel_rfl) (by kernel_rfl) ?_
 repeat (go_big_quiet_step (exact Calls.regrown_of ((by first | exact HC1 | exact HC2:CnAt w _ _).out _ (hg0 _ _))))
 refine wpQuiet_nil ?_
 intro _ hw'
 obtain ⟨⟨dq,osq⟩,hw''⟩:=hw'
 subst hw''
 have hxw2:=hg0 dq osq
 have hx12:=hg1 dq osq
 clear hg0 hg1
 generalize Sort.grow (redrawn w1 dq) osq=w2 at hxw2 hx12 ⊢
 have HST:=Lib.hid (show ((⟨#[102,105,114,115,116]⟩:ByteArray)++bts lf ++ ⟨#[10,108,97,115,116]⟩ ++ bts ll ++ ⟨#[10]⟩)=bts (headL S T.n++linesL T.toTr S T.n 0) from by
  rw [HHD.out,show (⟨#[102,105,114,115,116]⟩:ByteArray)=bts [102,105,114,115,116] from rfl,show (⟨#[10,108,97,115,116]⟩:ByteArray)=bts [10,108,97,115,116] from rfl,show (⟨#[10]⟩:ByteArray)=bts [10] from rfl,bts_append,bts_append,bts_append,bts_append]
  simp [linesL])
 clear hk1 hk2 hk3 hk4
 go_upto_region 5 with (go_at_call 44;refine (HOW2.out w2 hxw2).mono ?_;rintro e w8 ⟨hx28,a8,c8,rfl,hq8⟩;have HQ8:=Lib.hid hq8;clear hq8)
 obtain ⟨N,hN⟩:∃ N,N=(ownL S.f.z S.l.z T.n).length:=⟨_,rfl⟩
 rw [←hN] at HQ8 ⊢
 have HNN:=Lib.hid hN
 have hN39:N≤39:=by rw [hN];exact HF.out.g.few
 have hx18:=hx12.trans hx28
 have hxw8:=hxw2.trans hx28
 have HLL:=Lib.hid (show ∀ j,j≤N→(headL S T.n++linesL T.toTr S T.n j).length≤10000000 from fun j hj=>by
  have h1:=linesL_len (T:=T.toTr) (S:=S) (n:=T.n) (k:=j) (c:=110000) (by show j≤(ownL S.f.z S.l.z T.n).length;omega) (lineL_len HF.out)
  have h2:j*110000≤39*110000:=Nat.mul_le_mul_right _ (by omega)
  rw [HHD.out]
  simp only [List.length_append,List.length_cons,List.length_nil];omega)
 clear hN hxw2 HOW2 hx12 HC1 HC2
 go_wp2_with fail
 go_loopg [5,7] N (fun gg v5 v7 wo=>∃ k:Nat,k≤N∧gg=N - k∧v7=.int .i64 k∧v5=.string (bts (headL S T.n++linesL T.toTr S T.n k))∧Ext w8 wo)
 case atStart=>exact ⟨0,by omega,by omega,rfl,congrArg Value.string HST.out,Ext.refl _⟩
 case round=>
  obtain ⟨k,hk,rfl,rfl,rfl,hxo⟩:=hrel
  obtain ⟨l,hl⟩:∃ l,l=headL S T.n++linesL T.toTr S T.n k:=⟨_,rfl⟩
  have hl9:l.length≤10000000:=by rw [hl];exact HLL.out k hk
  rw [←hl]
  have HL:=Lib.hid hl
  have hrr:Ext wr wr:=Ext.refl _
  have hx1o:=hx18.trans hxo
  have hxwo:=hxw8.trans hxo
  clear hl
  by_cases hlt:k<N
  ·have hlt':(k:Int)<(N:Int):=by omega
   have hkL:k<(ownL S.f.z S.l.z T.n).length:=by rw [←HNN.out];exact hlt
   have hmem:(ownL S.f.z S.l.z T.n)[k]∈S.own T.n:=List.getElem_mem hkL
   obtain ⟨p,i,hxk,hp,hi⟩:=HF.out.ev _ hmem
   have HHX:=Lib.hid (HF.out.g.has _ hmem)
   rw [hxk] at HHX
   obtain ⟨rb,ro,ha,_,hrb,hco⟩:=HQ8.out.cellsE HNN.out.symm (by omega)
   subst ha
   obtain ⟨z,hz⟩:∃ z:Int,z=(i:Int)+1:=⟨_,rfl⟩
   rw [←hz] at hxk HHX
   have o0:∀ w',Ext w8 w'→w'.cell? ⟨rb,ro+k*2,none⟩=some (.int .i64 (p:Int)):=fun w' x=>by rw [x.cell (hco k hkL).1,hxk]
   have o1:∀ w',Ext w8 w'→w'.cell? ⟨rb,ro+k*2+1,none⟩=some (.int .i64 z):=fun w' x=>by rw [x.cell (hco k hkL).2,hxk]
   have ob:∀ w',Ext w8 w'→rb<w'.heap.size:=fun w' x=>Nat.lt_of_lt_of_le hrb x.le
   have HXK:=Lib.hid hxk
   have HZ:=Lib.hid hz
   have hnm:=HF.out.nm p hp
   have HNA:=Lib.hid (fun W (x:Ext w W)=>show Calls Tryz.prog 74 #[.agg #[.slice T.a T.n T.cap],.agg #[.int .i64 (p:Int),.int .i64 z]] W (fun e w'=>e=.returned (.string (bts (evN T.toTr ((p:Int),z))))∧Ext W w') from
    rname20_any W T (HT.out.ext x) p z hp hnm.1 (by have:=HZ.out;omega) (by have:=HZ.out;omega))
   obtain ⟨nm,hnv⟩:∃ y,y=evN T.toTr ((p:Int),z):=⟨_,rfl⟩
   rw [←hnv] at HNA
   have hnl:nm.length≤5000:=by
    have h3:=itoa_len z (by have:=HZ.out;omega)
    have h5:(T.name p).data.size=(T.name p).size:=rfl
    have h6:=HZ.out
    rw [hnv];unfold evN
    simp only [Int.toNat_natCast,List.length_append,List.length_cons,Array.length_toList]
    omega
   -- the element
   have hjn:S.j.s.n=T.n:=by
    obtain ⟨_,⟨h1,_⟩ | ⟨_,hSh,_,_⟩⟩:=HOK.out
    ·rw [HEM.out] at h1;cases h1
    ·exact hSh.1.2.2.2
   have hmn:(S.j.m p).n=T.en p:=by
    obtain ⟨_,⟨h1,_⟩ | ⟨_,hSh,_,_⟩⟩:=HOK.out
    ·rw [HEM.out] at h1;cases h1
    ·exact hSh.2 p hp
   have hM:=(HS.out.j.c p (by omega)).2.at'
   have hS3:=HS.out.j.s
   have b1:∀ w',Ext w w'→S.j.s.b<w'.heap.size:=fun w' x=>Nat.lt_of_lt_of_le (hS3.hb (by omega)) x.le
   have b2:=hM.pb (by omega)
   have k1:∀ w',Ext w w'→w'.cell? ⟨S.j.s.b,S.j.s.o+p,none⟩=some (.slice (some ⟨(S.j.m p).b,(S.j.m p).off,none⟩) (T.en p) (S.j.m p).cap):=fun w' x=>by
    rw [←hM.pa (by omega),←hmn];exact x.cell (HS.out.j.c p (by omega)).1
   have hrn:=(SlcD.row_at HS.out HHX.out).1
   have hrl:(S.j.m p).rn i=T.n:=by
    obtain ⟨p',i',e,_,_,h3,_⟩:=HHX.out
    have h4:=HZ.out
    obtain ⟨rfl,rfl⟩:p=p'∧i=i':=by
     simp only [Prod.mk.injEq] at e;omega
    exact h3
   have k2:∀ w',Ext w w'→w'.cell? ⟨(S.j.m p).b,(S.j.m p).off+i,none⟩=some (.slice ((S.j.m p).ra i) T.n ((S.j.m p).rc i)):=fun w' x=>by
    rw [←hrl];exact hM.p0 w' x i (by omega)
   have hNE:=hM.num (k:=i) (by omega)
   rw [hrl] at hNE
   have hjv:vj=.slice (some ⟨S.j.s.b,S.j.s.o,none⟩) T.n S.j.s.c:=by
    have h:=HSV.out
    have h2:S.val=.agg #[.bool S.em,S.f.s.v,S.l.s.v,.slice S.j.s.a S.j.s.n S.j.s.c]:=rfl
    rw [h2,hjn,hS3.ha (by omega)] at h
    simp only [Value.agg.injEq,Array.mk.injEq,List.cons.injEq] at h
    exact h.2.2.2.1.symm
   generalize (S.j.m p).b=bm at k1 k2 b2 hNE
   generalize (S.j.m p).off=om at k1 k2 b2 hNE
   generalize (S.j.m p).cap=cm at k1 k2 b2 hNE
   generalize (S.j.m p).ra i=ea at k1 k2 b2 hNE
   generalize (S.j.m p).rc i=ec at k1 k2 b2 hNE
   generalize S.j.s.b=sb at k1 b1 hjv
   generalize S.j.s.o=so at k1 b1 hjv
   generalize S.j.s.c=sc at hjv
   have hvb:∀ q,q<T.n→0≤(S.j.m p).val i q∧(S.j.m p).val i q≤1000:=fun q hq=>by
    obtain ⟨p',i',e,_,_,_,hv⟩:=HHX.out
    have h4:=HZ.out
    obtain ⟨rfl,rfl⟩:p=p'∧i=i':=by
     simp only [Prod.mk.injEq] at e;omega
    exact hv q hq
   obtain ⟨cl,hcl⟩:∃ y,y=cntL (vL ((S.j.m p).val i) T.n):=⟨_,rfl⟩
   have HCA:=Lib.hid (fun W (x:Ext w W)=>(show Calls Tryz.prog 73 #[.slice ea T.n ec] W (fun e w'=>e=.returned (.string (bts cl))∧Ext W w') from by
    rw [hcl];exact rcounts_any W T.n ec ea _ _ _ (hNE.ext x) hn hvb))
   have hcll:cl.length≤110000:=by
    have h1:=cntL_len2 hn hvb
    rw [hcl];omega
   have HLN:=Lib.hid (show headL S T.n++linesL T.toTr S T.n (k+1)=l++nm++cl++[10] from by
    rw [linesL_succ hkL,←List.append_assoc,←HL.out]
    show l++lineL T.toTr S T.n (ownL S.f.z S.l.z T.n)[k]=_
    have e1:vL (natV (fn (S.E T.n ((p:Int),z)))) T.n=vL ((S.j.m p).val i) T.n:=by
     refine List.map_congr_left fun q hq=>?_
     have hq':=List.mem_range.1 hq
     rw [HZ.out,S.E_at];unfold natV;rw [fn_rowOf hq']
     have:=hvb q hq';omega
    rw [HXK.out]
    unfold lineL
    rw [e1,←hcl,←hnv];simp)
   have hiE:(i:Int)<(T.en p:Int):=by omega
   have hpT:(p:Int)<(T.n:Int):=by omega
   have e1w:IntKind.i64.wrap (p:Int)=(p:Int):=IntWalk.i64_in _ (by omega)
   have e2w:IntKind.i64.wrap (z - 1)=(i:Int):=by have:=HZ.out;rw [IntWalk.i64_in _ (by omega)];omega
   have e3w:IntKind.i64.wrap (i:Int)=(i:Int):=IntWalk.i64_in _ (by omega)
   have hy1:=bts_size l
   have hy2:=bts_size nm
   have hy3:=bts_size cl
   have hk1:¬9223372036854775807<l.length+nm.length:=by omega
   have hk2:¬9223372036854775807<l.length+nm.length+cl.length:=by omega
   have hk3:¬9223372036854775807<l.length+nm.length+cl.length+1:=by omega
   rw [hjv] at c1
   clear hco hrb hmem hz hxk hM hS3 hrn hNE hjv hvb hcl hnv hnm hjn hmn hrl hrr
   go_upto_region 8 with fail
   have hgw:∀ d os,Ext w (Sort.grow (redrawn wr d) os):=fun d os=>hxwo.trans (below_regrown wr d os)
   have hg1:∀ d os,Ext w1 (Sort.grow (redrawn wr d) os):=fun d os=>hx1o.trans (below_regrown wr d os)
   have hg8:∀ d os,Ext w8 (Sort.grow (redrawn wr d) os):=fun d os=>hxo.trans (below_regrown wr d os)
   refine wp_region_quiet_below (by kernel_rfl) (by kernel_rfl) ?_
   repeat (go_big_quiet_step (first | exact Calls.regrown_of (HNA.out _ (hgw _ _)) | exact Calls.regrown_of (HCA.out _ (hgw _ _))))
   refine wpQuiet_nil ?_
   intro _ hw'
   obtain ⟨⟨dq,osq⟩,hw''⟩:=hw'
   subst hw''
   have hx8q:=hg8 dq osq
   clear hgw hg1 hg8
   go_wp2_with fail
   go_roundg (N - (k+1))
   case rel=>
    refine ⟨k+1,by omega,rfl,by go_num,?_,hx8q⟩
    rw [HLN.out]
    refine congrArg Value.string ?_
    rw [show (⟨#[10]⟩:ByteArray)=bts [10] from rfl,bts_append,bts_append,bts_append]
   case measure=>omega
  ·obtain rfl:k=N:=by omega
   have hlt':¬(k:Int)<(k:Int):=by omega
   go_wp2_with fail
   go_ret
   exact ⟨by rw [HV.out,HL.out,HNN.out] <;> rfl,hxwo⟩
end Go.Proofs.YtlfdfkbmollaaaaGreatDoor

namespace Go.Proofs.YtlfdfkbmollaaaaGreatDoor
open Go.RowKit Go.Shelf
attribute [local go_sem] Oper.semAt_some
set_option maxHeartbeats 1000000 in
theorem relem_none (w : World) (T : TM) (S : SlcD) (hem : S.em = true) :
    Calls Tryz.prog 75 #[T.val,S.val] w fun e w'=>e=.returned (.slice none 0 0)∧Ext w w':=by
 have hv:S.val=.agg #[.bool true,S.f.s.v,S.l.s.v,S.j.s.v]:=by rw [←hem]
 rw [hv]
 simp only [TM.val]
 clear hem hv
 go_enter Tryz.func75,Tryz.ntmps75
 go_upto_region 1 with fail
 refine boxed2 (w:=w) (G:=fun x=>Code.wp _ _ _ _ x) ?_
 intro w1 hx1 hs1 ⟨l0,c0,_,_⟩ ⟨l1,c1,_,_⟩
 have hx11:Ext w1 w1:=Ext.refl _
 go_wp2_with fail
 go_ret
 exact ⟨rfl,hx1⟩
def ElG (S:SlcD) (n:Nat) (w:World) (e:Ending) (w':World):Prop:=Ext w w'∧∃ ea ec G RV,e=.returned (.slice ea (List.length G) ec)∧Que w' w.heap.size 1 (.slice ea G.length ec) G.length RV∧
 (∀ k,k<G.length→∃ (a:Option Addr) (c g o:Nat),RV[k]?=some (.slice a n c)∧NumAt w' n a g o (natV (fn (S.E n ((G.getD k []).headD (0,0))))))∧G.length≤39∧(S.em=true→G=[])∧(S.em=false→∀ G',IsGrp n (S.E n) (·∈S.own n) G'→G'=G)
theorem refG_head {S:SlcD} {n:Nat} {R:List Row} (h:ElI S n (S.own n).length R) {k:Nat} (hk:k<R.length):S.E n (((refG S n (R.map Row.l)).getD k []).headD (0,0))=R[k].l:=by
 have e:(refG S n (R.map Row.l)).getD k []=(S.own n).filter fun x=>decide (S.E n x=R[k].l):=by
  unfold refG
  rw [List.getD_eq_getElem?_getD,List.getElem?_map,List.getElem?_map,List.getElem?_eq_getElem hk];rfl
 rw [e]
 obtain ⟨y,hy,he⟩:=h.of _ (List.getElem_mem hk)
 have hm:y∈(S.own n).filter fun x=>decide (S.E n x=R[k].l):=List.mem_filter.2 ⟨hy,by rw [he];simp [SlcD.row]⟩
 cases hl:(S.own n).filter fun x=>decide (S.E n x=R[k].l) with
 | nil => rw [hl] at hm;cases hm
 | cons a t =>
  have ha:a∈(S.own n).filter fun x=>decide (S.E n x=R[k].l):=by rw [hl];exact List.mem_cons_self ..
  exact of_decide_eq_true (List.mem_filter.1 ha).2
theorem elg_any (w:World) (T:TM) (S:SlcD) (hS:S.At w) (hO:S.Ok T.toTr) (h24:tot T.en T.n≤39):Calls Tryz.prog 75 #[T.val,S.val] w (ElG S T.n w):=by
 rcases hem:S.em with _ | _
 ·have hg:=hO.gok hem h24
  refine (relem_any w T S hS hg hem).mono ?_
  rintro e w' ⟨hx,vv,R,rfl,hq,hi⟩
  obtain ⟨a,c,hv⟩:=hq.1.slice
  subst hv
  have hl:(refG S T.n (R.map Row.l)).length=R.length:=by simp [refG]
  have hf:=hi.fin hg.few
  refine ⟨hx,a,c,refG S T.n (R.map Row.l),R.map Row.val,by rw [hl],by rw [hl];exact hq.1,fun k hk=>?_,hf.len,fun h=>(by rw [hem] at h;cases h),fun _ G' hG'=>hi.ref hG'⟩
  rw [hl] at hk
  have hr:=hq.2 _ (List.getElem_mem hk)
  obtain ⟨y,_,he⟩:=hi.of _ (List.getElem_mem hk)
  have hn:R[k].l.length=T.n:=by rw [he];exact S.E_len _ _
  unfold Row.At at hr
  rw [hn] at hr
  refine ⟨R[k].a,R[k].c,R[k].g,R[k].o,?_,by rw [refG_head hi hk];exact hr⟩
  rw [List.getElem?_map,List.getElem?_eq_getElem hk]
  show some (Value.slice _ R[k].l.length _)=_
  rw [hn]
 ·refine (relem_none w T S hem).mono ?_
  rintro e w' ⟨rfl,hx⟩
  exact ⟨hx,_,_,[],[],rfl,Que.nil _ _ _,fun k hk=>absurd hk (Nat.not_lt_zero _),by decide,fun _=>rfl,fun h=>(by rw [hem] at h;cases h)⟩
structure BitsP (p:Nat→Bool) (j m:Nat) (W:Nat→Nat):Prop where
 u:∀ q,q<m→W q<18446744073709551616
 b:∀ i,i / 64<m→(W (i / 64)).testBit (i % 64)=decide (i<j∧p i=true)
theorem BitsP.zero (p:Nat→Bool) (m:Nat):BitsP p 0 m (fun _=>0):=⟨fun _ _=>by omega,fun i _=>by simp⟩
theorem BitsP.no {p:Nat→Bool} {j m:Nat} {W:Nat→Nat} (h:BitsP p j m W) (hp:p j=false):BitsP p (j+1) m W:=
 ⟨h.u,fun i hi=>by
  rw [h.b i hi]
  refine decide_eq_decide.2 ⟨fun ⟨h1,h2⟩=>⟨by omega,h2⟩,fun ⟨h1,h2⟩=>⟨?_,h2⟩⟩
  by_cases e:i=j
  ·subst e;rw [hp] at h2;cases h2
  ·omega⟩
theorem BitsP.yes {p:Nat→Bool} {j m:Nat} {W:Nat→Nat} (h:BitsP p j m W) (hp:p j=true):BitsP p (j+1) m (fun q=>if q=j / 64 then W q ||| 2 ^ (j % 64) else W q):=by
 refine ⟨fun q hq=>?_,fun i hi=>?_⟩
 ·split
  ·exact Nat.or_lt_two_pow (n:=64) (h.u q hq) (Nat.pow_lt_pow_right (by omega) (Nat.mod_lt _ (by omega)))
  ·exact h.u q hq
 ·have hb:=h.b i hi
  by_cases he:i / 64=j / 64
  ·rw [if_pos he,Nat.testBit_or,hb,Nat.testBit_two_pow]
   by_cases h2:j % 64=i % 64
   ·obtain rfl:j=i:=by omega
    rw [decide_eq_true h2,Bool.or_true]
    exact (decide_eq_true ⟨by omega,hp⟩).symm
   ·simp only [h2,decide_false,Bool.or_false]
    refine decide_eq_decide.2 ⟨fun ⟨h1,h3⟩=>⟨by omega,h3⟩,fun ⟨h1,h3⟩=>⟨?_,h3⟩⟩
    by_cases e:i=j
    ·subst e;exact absurd rfl h2
    ·omega
  ·rw [if_neg he,hb]
   refine decide_eq_decide.2 ⟨fun ⟨h1,h3⟩=>⟨by omega,h3⟩,fun ⟨h1,h3⟩=>⟨?_,h3⟩⟩
   by_cases e:i=j
   ·subst e;exact absurd rfl he
   ·omega
theorem BitsP.top {p:Nat→Bool} {n m:Nat} {W:Nat→Nat} (h:BitsP p n m W) (hm:m=(n+63) / 64) (hn:n % 64≠0):W (m - 1)<2 ^ (n % 64):=by
 refine Nat.lt_pow_two_of_testBit _ fun i hi=>?_
 by_cases h64:i<64
 ·have e:=h.b (64*(m - 1)+i) (by omega)
  rw [show (64*(m - 1)+i) / 64=m - 1 by omega,show (64*(m - 1)+i) % 64=i by omega] at e
  rw [e]
  exact decide_eq_false fun ⟨h1,_⟩=>by omega
 ·exact Nat.testBit_lt_two_pow (Nat.lt_of_lt_of_le (h.u (m - 1) (by omega)) (show 2 ^ 64≤2 ^ i from Nat.pow_le_pow_right (by omega) (by omega)))
def RGraphPost (S:SlcD) (T:Tr) (w:World) (e:Ending) (w':World):Prop:=
 Ext w w'∧∃ a N cap,e=.returned (.agg #[.slice a N cap])∧∃ g Sx G,RelAt a g N cap Sx (bitG S T.n G) w'∧N=G.length∧N≤39∧(S.em=true→G=[])∧
  (S.em=false→∀ G',IsGrp T.n (S.E T.n) (·∈S.own T.n) G'→G'=G)
theorem rgraph_results (tmps : Array Value) (W : World) (b : Nat) (x : Value) (t4 : tmps[4]? = some (.pointer (some ⟨b, 0, none⟩))) (c : W.cell? ⟨b, 0, none⟩ = some x) :
    (results Tryz.f25 tmps).run Tryz.prog W=.ok (.agg #[x]) W:=by
 simp [results,go_sem,t4,c]
end Go.Proofs.YtlfdfkbmollaaaaGreatDoor

namespace Go.Proofs.YtlfdfkbmollaaaaGreatDoor
open Go.RowKit Go.Shelf
attribute [local go_sem] Oper.semAt_some
set_option maxHeartbeats 8000000 in
theorem rgraph_any (w:World) (T:TM) (S:SlcD) (hS:S.At w) (hO:S.Ok T.toTr) (h24:tot T.en T.n≤39):Calls Tryz.prog 25 #[T.val,S.val] w (RGraphPost S T.toTr w):=by
 obtain ⟨s0,hs0,hq0,hq1,hq2⟩:=info_parts infoSet
 obtain ⟨i0,hi0,hz0,hz1,hz2⟩:=info_parts infoU64
 have HEL:=Lib.hid (fun W (x:Ext w W)=>elg_any W T S (hS.ext x) hO h24)
 obtain ⟨n,hn⟩:∃ n,n=T.n:=⟨_,rfl⟩
 unfold RGraphPost
 rw [←hn] at HEL
 have HNE:=Lib.hid hn
 simp only [TM.val] at HEL ⊢
 have HS:=Lib.hid hS
 clear hS h24 hO hn
 go_enter Tryz.func25,Tryz.ntmps25
 go_upto_region 1 with fail
 refine boxed3 (w:=w) (G:=fun x=>Code.wp _ _ _ _ x) ?_
 intro w1 hx1 hs1 ⟨l0,c0,_,_⟩ ⟨l1,c1,_,_⟩ ⟨l2,c2,f2,k2⟩
 have hx11:Ext w1 w1:=Ext.refl _
 have HK2:=Lib.hid (show Hold w1 (w.heap.size+1+1) _ from k2)
 have hs1':w1.heap.size=w.heap.size+1+1+1:=hs1
 clear hs1 k2
 go_upto_region 2 with (go_at_call 75;refine (HEL.out w1 hx1).mono ?_;rintro e w3 ⟨hx13,ea,ec,G,RV,rfl,hq3,hr3,hG9,hfin⟩;have HQ3:=Lib.hid hq3;have HR3:=Lib.hid hr3;have HFN:=Lib.hid hfin;clear hq3 hr3 hfin)
 obtain ⟨N,hN⟩:∃ N,N=G.length:=⟨_,rfl⟩
 rw [←hN] at HQ3 HR3 hG9 ⊢
 have HNG:=Lib.hid hN
 clear hN
 go_upto_region 4 with fail
 refine boxed1 (w:=w3) (G:=fun x=>Code.wp _ _ _ _ x) ?_
 intro w4 hx4 hs4 ⟨_,_,_,k4⟩
 have HRI0:=Lib.hid (RelI.mk (w7:=w3) (bx:=w3.heap.size) (N:=N) (n:=0) (v:=.slice none 0 0) (S:=fun _=>⟨⟨0,0,fun _=>0⟩,none,0,0,0⟩) (bit:=bitG S n G) (wr:=w4) hx4 (Nat.le_refl _) k4 (World.ownsRow_nil _ _ _ _) (fun k h=>absurd h (Nat.not_lt_zero _)) (fun k i h=>absurd h (Nat.not_lt_zero _)))
 obtain ⟨bx,hbx⟩:∃ z,z=w3.heap.size:=⟨_,rfl⟩
 rw [←hbx] at HRI0 ⊢
 have HBX:=Lib.hid hbx
 have hxw3:=hx1.trans hx13
 have h20:w.heap.size+1+1<w3.heap.size:=by have:=hx13.le;omega
 obtain ⟨m,hm⟩:∃ m,m=(N+63) / 64:=⟨_,rfl⟩
 have HM:=Lib.hid hm
 have hm9:m≤1:=by omega
 have hN63:IntKind.i64.wrap ((N:Int)+63)=(N:Int)+63:=IntWalk.i64_in _ (by omega)
 have hNdv:Int.tdiv ((N:Int)+63) 64=(m:Int):=by rw [Int.tdiv_eq_ediv_of_nonneg (by omega)];omega
 have hNdw:IntKind.i64.wrap (m:Int)=(m:Int):=IntWalk.i64_in _ (by omega)
 have hNdx:IntKind.i64.wrap (((N:Int)+63) / 64)=(m:Int):=by rw [IntWalk.i64_in _ (by omega)];omega
 clear hbx k4 hs4 hm
 go_wp2_with fail
 go_loopg [8] N (fun gg v8 wo=>∃ (k:Nat) (u:Value) (Sx:Nat→SetM),k≤N∧gg=N - k∧v8=.int .i64 k∧RelI w3 bx N k u Sx (bitG S n G) wo)
 case atStart=>exact ⟨0,_,_,by omega,by omega,rfl,HRI0.out⟩
 case round=>
  clear HRI0 hx4
  obtain ⟨k,u,Sx,hk,rfl,rfl,hR⟩:=hrel
  have HR:=Lib.hid hR
  have hx3r:=hR.bl
  clear hR
  by_cases hlt:k<N
  ·have hlt':(k:Int)<(N:Int):=by omega
   obtain ⟨go,oo,hea,hg1,hg2,hgc⟩:∃ g o,ea=some ⟨g,o,none⟩∧w1.heap.size≤g∧g<w3.heap.size∧∀ k,k<N→w3.cell? ⟨g,o+k,none⟩=RV[k]?:=by
    rcases HQ3.out.val with ⟨_,_,hz,_⟩ | ⟨g,off,cap',hv,h1,h2,_,_,h5,_⟩
    ·omega
    ·cases hv
     exact ⟨g,off,rfl,h1,h2,fun k hk=>h5 k (by omega)⟩
   subst hea
   have HGC:=Lib.hid (fun (w':World) (x:Ext w3 w') j (hj:j<N)=>show w'.cell? ⟨go,oo+j,none⟩=RV[j]? from by
    obtain ⟨a,c,_,_,e,_⟩:=HR3.out j hj
    rw [e];exact x.cell ((hgc j hj).trans e))
   have lb:∀ w',Ext w3 w'→go<w'.heap.size:=fun w' x=>Nat.lt_of_lt_of_le hg2 x.le
   obtain ⟨ra,rc,rg,ro,hrv,hrn⟩:=HR3.out k hlt
   have ck:∀ w',Ext w3 w'→w'.cell? ⟨go,oo+k,none⟩=some (.slice ra n rc):=fun w' x=>(HGC.out w' x k hlt).trans hrv
   have HRN:=Lib.hid hrn
   clear hgc hg1 hg2 hrv hrn
   obtain ⟨bp,hbp⟩:∃ bp:Nat→Bool,∀ j,bp j=true↔bitG S n G k j:=by
    refine ⟨fun j=>@decide (bitG S n G k j) (Classical.propDecidable _),fun j=>by simp⟩
   have HBP:=Lib.hid hbp
   clear hbp
   obtain ⟨wk,hwk⟩:∃ z,z=wr:=⟨_,rfl⟩
   rw [←hwk] at HR hx3r ⊢
   have hkk:Ext wk wk:=Ext.refl _
   clear hwk
   go_upto_region 8 with (at_make;refine wpList_make_full _ rfl _ _ 122 rfl wk.heap.size 132 i0 (.int .u64 0) 1 Tryz.underlying122 hi0 hz0 hz1 .i64 .i64 _ _ m rfl rfl rfl rfl (by rw [hz2];omega) (by unfold maxLen;omega) (Nat.le_refl _) ?_;intro w5 hown5 hg5)
   have hx5:Ext wk w5:=(Below.refl _ _).grown hg5 (Nat.le_refl _) (by simp)
   refine boxed1t' (w:=w5) (G:=fun x=>Code.wp _ _ _ _ x) ?_
   intro w6 hx6 hs6 k6
   obtain ⟨gq,hgq⟩:∃ z,z=wk.heap.size:=⟨_,rfl⟩
   obtain ⟨bs,hbs⟩:∃ z,z=w5.heap.size:=⟨_,rfl⟩
   have HW6:=Lib.hid ((WdRow.made hown5).ext hx6)
   have HGQ:=Lib.hid (show wk.heap.size≤gq∧gq<bs from ⟨by omega,by rw [hgq,hbs];exact (WdRow.made hown5).lt⟩)
   rw [←hgq] at HW6 k6 ⊢
   rw [←hbs] at k6 ⊢
   have HK6:=Lib.hid k6
   have hx56:=hx5.trans hx6
   clear hown5 hg5 hs6 k6 hgq hbs
   go_wp2_with fail
   go_loopg [10] N (fun gg v10 wi=>∃ j:Nat,j≤N∧gg=N - j∧v10=.int .i64 j∧∃ W,WdRow wi gq m W∧BitsP bp j m W∧Hold wi bs #[.int .i64 N,.slice (some ⟨gq,0,none⟩) m m]∧Ext wk wi)
   case atStart=>exact ⟨0,by omega,by omega,rfl,_,HW6.out,BitsP.zero _ _,HK6.out,hx56⟩
   case round=>
    clear HW6 HK6 hx56 hx6 hx5
    obtain ⟨j,hj,rfl,rfl,W,hw,hb,hh,hxi⟩:=hrel
    have HW:=Lib.hid hw
    have HB:=Lib.hid hb
    have HH:=Lib.hid hh
    clear hw hb hh
    have hx3i:=hx3r.trans hxi
    have hrr:Ext wr wr:=Ext.refl _
    by_cases hjl:j<N
    ·have hjl':(j:Int)<(N:Int):=by omega
     obtain ⟨sa,sc,sg,so,hsv,hsn⟩:=HR3.out j hjl
     have cj:∀ w',Ext w3 w'→w'.cell? ⟨go,oo+j,none⟩=some (.slice sa n sc):=fun w' x=>(HGC.out w' x j hjl).trans hsv
     have HSN:=Lib.hid hsn
     clear hsv hsn
     have hg3:∀ d os,Ext w3 (Sort.grow (redrawn wr d) os):=fun d os=>hx3i.trans (below_regrown wr d os)
     have hgr:∀ d os,Ext wr (Sort.grow (redrawn wr d) os):=fun d os=>below_regrown wr d os
     by_cases hkj:k=j
     ·have d1:((k:Int) != (j:Int))=false:=by simp [hkj]
      have HNO:=Lib.hid (show bp j=false from Bool.eq_false_iff.2 fun h=>((HBP.out j).1 h).1 hkj)
      clear hkj
      go_upto_region 11 with fail
      refine wp_region_quiet_below (by kernel_rfl) (by kernel_rfl) ?_
      repeat (go_big_quiet_step (fail))
      refine wpQuiet_nil ?_
      intro _ hw'
      obtain ⟨⟨dq,osq⟩,hw''⟩:=hw'
      subst hw''
      have hxq:=hgr dq osq
      clear hg3 hgr
      go_wp2_with fail
      go_roundg (N - (j+1))
      case rel=>exact ⟨j+1,by omega,rfl,by go_num,W,HW.out.ext hxq,HB.out.no HNO.out,HH.out.ext hxq,hxi.trans hxq⟩
      case measure=>omega
     ·have d1:((k:Int) != (j:Int))=true:=by simp;omega
      obtain ⟨bq,hbq⟩:∃ z,z=bp j:=⟨_,rfl⟩
      have HLQ:=Lib.hid (fun W (x:Ext w3 W)=>(rleq_any W ra sa rg ro sg so n n rc sc _ _ (HRN.out.ext x) (HSN.out.ext x)).mono fun e w' ⟨b,h1,h2,h3⟩=>(⟨by
       rw [h1,hbq]
       refine congrArg (fun z=>Ending.returned (Value.bool z)) (Bool.eq_iff_iff.2 (h2.trans ?_))
       rw [HBP.out j]
       exact ⟨fun h=>⟨hkj,h⟩,fun h=>h.2⟩,h3⟩:e=Ending.returned (Value.bool bq)∧Ext W w'))
      have HBQ:=Lib.hid hbq
      clear hkj hbq
      go_upto_region 11 with fail
      refine wp_region_quiet_below (by kernel_rfl) (by kernel_rfl) ?_
      repeat (go_big_quiet_step (exact Calls.regrown_of (HLQ.out _ (hg3 _ _))))
      refine wpQuiet_nil ?_
      intro _ hw'
      obtain ⟨⟨dq,osq⟩,hw''⟩:=hw'
      subst hw''
      have hxq:=hgr dq osq
      clear hg3 hgr
      generalize Sort.grow (redrawn wr dq) osq=w8 at hxq ⊢
      rcases bq with _ | _
      ·go_wp2_with fail
       go_roundg (N - (j+1))
       case rel=>exact ⟨j+1,by omega,rfl,by go_num,W,HW.out.ext hxq,HB.out.no HBQ.out.symm,HH.out.ext hxq,hxi.trans hxq⟩
       case measure=>omega
      ·have h88:Ext w8 w8:=Ext.refl _
       obtain ⟨q,hqe⟩:∃ q,q=j / 64:=⟨_,rfl⟩
       obtain ⟨r,hre⟩:∃ r,r=j % 64:=⟨_,rfl⟩
       have hq:q<m:=by have:=HM.out;omega
       have hq':(q:Int)<(m:Int):=by omega
       have hr':(r:Int)<64:=by omega
       have hR5:=HW.out.ext hxq
       have r5:=hR5.c _ hq
       have rl:=hR5.lt
       have rf:=hR5.fr
       obtain ⟨lx,cx,fx,_⟩:=(HH.out.ext hxq).box
       have hu:=HB.out.u _ hq
       obtain ⟨y,hy⟩:∃ y,y=W q:=⟨_,rfl⟩
       rw [←hy] at r5 hu
       have hw1:IntKind.i64.wrap ((j:Int) / 64)=(q:Int):=by rw [IntWalk.i64_in _ (by omega)];omega
       have hw2:IntKind.i64.wrap ((j:Int) % 64)=(r:Int):=by rw [IntWalk.i64_in _ (by omega)];omega
       have hsh:=shl_one j r hre
       have hpl:(2:Nat) ^ r<18446744073709551616:=(show (2:Nat) ^ r<2 ^ 64 from Nat.pow_lt_pow_right (by omega) (by omega))
       obtain ⟨pw,hpw⟩:∃ pw,pw=2 ^ r:=⟨_,rfl⟩
       rw [←hpw] at hsh hpl
       have hor:bits BinOp.or IntKind.u64 (y:Int) (pw:Int)=((y ||| pw:Nat):Int):=bits_or_u64_nat y pw hu hpl
       obtain ⟨o,ho⟩:∃ o,o=y ||| pw:=⟨_,rfl⟩
       rw [←ho] at hor
       have HWN:=Lib.hid (hR5.set (w:=w8) q o hq)
       have HFE:=Lib.hid (show (fun i=>if i=q then o else W i)=fun i=>if i=j / 64 then W i ||| 2 ^ (j % 64) else W i from by
        funext i
        by_cases hi:i=q
        ·subst hi;rw [if_pos rfl,if_pos hqe,ho,hpw,hy,hre]
        ·rw [if_neg hi,if_neg (by omega)])
       have HOT:=Lib.hid (show gq≠bs from by have:=HGQ.out;omega)
       clear hqe hre hy hR5 hpw ho
       go_upto_region 12 with fail
       refine wp_region_reads 14 (by kernel_rfl) (by kernel_rfl) ?_
       simp only [List.take_succ_cons,List.take_zero]
       repeat still_step
       refine wpStill_nil ?_
       refine wpAny_ready (rs:=[14]) (by kernel_rfl) (by simp) ?_
       refine AllReady.cons rfl (fun K hK=>?_) AllReady.nil
       go_simp
       refine hK _ _ ?_;clear hK K
       refine wpAny_ready (rs:=[15]) (by kernel_rfl) (by simp) ?_
       refine AllReady.cons rfl (fun K hK=>?_) AllReady.nil
       go_simp
       refine hK _ _ ?_;clear hK K
       refine wpAny_done (by kernel_rfl) ?_ _
       go_wp2_with fail
       go_roundg (N - (j+1))
       case rel=>
        refine ⟨j+1,by omega,rfl,by go_num,fun i=>if i=j / 64 then W i ||| 2 ^ (j % 64) else W i,?_,HB.out.yes HBQ.out.symm,?_,?_⟩
        ·have h:=HWN.out
         rw [HFE.out] at h
         exact h.ext (Ext.refl _).drew
        ·exact ((HH.out.ext hxq).other _ _ (by show bs≠gq;exact fun e=>HOT.out e.symm)).ext (Ext.refl _).drew
        ·exact (((hxi.trans hxq).setCell (by show _≤gq;exact HGQ.out.1) _)).drew
       case measure=>omega
    ·have hjl':¬(j:Int)<(N:Int):=by omega
     obtain rfl:j=N:=by omega
     have HRi:=Lib.hid (HR.out.ext hxi)
     have hbx:=(HRi.out).box
     obtain ⟨lx,cx,fx,_⟩:=hbx.box
     obtain ⟨lc,cc,_,_⟩:=HH.out.box
     have hsz:=Lib.hid (show bx+1≤wr.heap.size from hbx.lt)
     have HSA:=Lib.hid (show SetM.At ⟨⟨j,m,W⟩,some ⟨gq,0,none⟩,gq,0,m⟩ wr∧SetM.Good ⟨⟨j,m,W⟩,some ⟨gq,0,none⟩,gq,0,m⟩ j from
      ⟨⟨by show m≤_;omega,fun _=>rfl,fun _ w' x=>Nat.lt_of_lt_of_le HW.out.lt x.le,fun w' x t ht=>by
       show w'.cell? ⟨gq,0+t,none⟩=_
       rw [Nat.zero_add];exact (HW.out.ext x).c t ht,HB.out.u⟩,⟨rfl,by omega,HM.out,fun h0=>HB.out.top HM.out h0⟩⟩)
     have HPU:=Lib.hid (fun (w':World) v'=>RelI.push (w6:=w') (v':=v') (w4:=wr) (s:=⟨⟨j,m,W⟩,some ⟨gq,0,none⟩,gq,0,m⟩) (c:=#[.int .i64 j,.slice (some ⟨gq,0,none⟩) m m]) (t:=124) HR.out hxi HSA.out.1 HSA.out.2 HGQ.out.1 (fun i hi=>by
      show (W (i / 64)).testBit (i % 64)=true↔_
      rw [HB.out.b i (by have:=HM.out;omega),decide_eq_true_iff,←HBP.out i]
      exact ⟨fun h=>h.2,fun h=>⟨hi,h⟩⟩))
     have HOW:=Lib.hid (HRi.out.own.alloc (.cells #[.int .i64 j,.slice (some ⟨gq,0,none⟩) m m] 124))
     clear hbx
     go_wp2_with (at_builtin;refine wpList_append_own_at _ rfl _ _ 49 rfl (bx+1) 124 s0 (.agg #[.int .i64 0,.slice none 0 0]) 2 32 Tryz.underlying49 hs0 hq0 hq1 hq2 rfl (by decide) u k (setRow Sx k) rfl (by exact HOW.out) ⟨wr.heap.size,0,none⟩ 1 1 [.int .i64 j,.slice (some ⟨gq,0,none⟩) m m] rfl rfl (by exact news_ok _ [_,_] _) (by intro u hu;simp at hu;rcases hu with rfl | rfl <;> rfl) (by unfold maxLen;omega) (by omega) (by have h1:=hsz.out;simp;omega) ?_;rintro v8 w8 hown8 hg8 - hat8;obtain ⟨a8,c8,hv8⟩:=own_slice2 hown8;subst hv8;have P8:=HPU.out w8 _ hown8 hg8 hat8;have q1:=P8.2.1;have q2:=P8.2.2;have HP8:=Lib.hid P8.1;clear P8 hown8 hg8 hat8)
     go_roundg (j - (k+1))
     case rel=>exact ⟨k+1,_,_,by omega,rfl,by go_num,HP8.out⟩
     case measure=>omega
  ·have hlt':¬(k:Int)<(N:Int):=by omega
   have hke:k=N:=by omega
   subst hke
   obtain ⟨qa,qg,qc,hv,hfin⟩:=HR.out.at h20
   subst hv
   have HFI:=Lib.hid hfin
   obtain ⟨lx,cx,fx,_⟩:=HR.out.box.box
   have h1:=HK2.out.ext (hx13.trans hx3r)
   obtain ⟨lr,cr,fr,_⟩:=h1.box
   have G4:=Lib.hid (h1.set 0 (.slice qa k qc))
   have hrr:Ext wr wr:=Ext.refl _
   clear h1 hfin
   go_wp2_with fail
   try simp only [Exit.inBlock,Exit.then]
   refine bodyPost_ret (rgraph_results _ _ _ _ rfl (G4.out.cell0 0)) rfl ?_
   exact ⟨(hxw3.trans hx3r).setCell (by show _≤w.heap.size+1+1;omega) _,qa,k,qc,rfl,qg,Sx,G,by rw [←HNE.out];exact HFI.out _ (Only.set _ _ _ _),HNG.out,hG9,HFN.out.1,by rw [←HNE.out];exact HFN.out.2⟩
end Go.Proofs.YtlfdfkbmollaaaaGreatDoor
