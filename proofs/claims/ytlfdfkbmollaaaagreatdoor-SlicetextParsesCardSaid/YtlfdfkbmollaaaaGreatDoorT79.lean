/- Contracts and laws in plain Lean for RApp: group T79. -/
import Derived.Test.YtlfdfkbmollaaaaGreatDoorT78
import Derived.Test.YtlfdfkbmollaaaaGreatDoorT75
import Derived.Test.YtlfdfkbmollaaaaGreatDoorT01
set_option maxRecDepth 100000
namespace Go.Proofs.YtlfdfkbmollaaaaGreatDoor
open Go.RowKit Go.Shelf
attribute [local go_sem] Oper.semAt_some
theorem dig_nat:∀ d:Nat,d<10→((UInt8.ofNat (48+d)).toNat:Int)=48+(d:Int):=by decide
set_option maxHeartbeats 1000000 in
theorem rdec20_any (n:Nat):n≤1000000→∀ w,Calls Tryz.prog 120 #[.int .i64 n] w fun e w'=>e=.returned (.string (bts (Lib.decDigits n)))∧Ext w w':=by
 induction n using Nat.strongRecOn with
 | ind n ih =>
  intro hn w
  obtain ⟨d,hd⟩:∃ d:Nat,d=n % 10:=⟨_,rfl⟩
  obtain ⟨q,hq⟩:∃ q:Nat,q=n / 10:=⟨_,rfl⟩
  have hd10:d<10:=by omega
  have b0:decide ((n:Int)<0)=false:=decide_eq_false (by omega)
  have hmod:Int.tmod (n:Int) 10=(d:Int):=by rw [Int.tmod_eq_emod_of_nonneg (by omega)];omega
  have hdiv:Int.tdiv (n:Int) 10=(q:Int):=by rw [Int.tdiv_eq_ediv_of_nonneg (by omega)];omega
  have hw0:IntKind.i64.wrap ((48:Int)+(d:Int))=48+(d:Int):=IntWalk.i64_in _ (by omega)
  have hwq:IntKind.i64.wrap (q:Int)=(q:Int):=IntWalk.i64_in _ (by omega)
  have hw1:IntKind.u8.wrap ((48:Int)+(d:Int))=48+(d:Int):=by
   have:∀ d:Nat,d<10→IntKind.u8.wrap ((48:Int)+(d:Int))=48+(d:Int):=by decide
   exact this d hd10
  obtain ⟨c,hc⟩:∃ c,c=UInt8.ofNat (48+d):=⟨_,rfl⟩
  have hcv:(convert 101 9 (.slice (some ⟨w.heap.size,0,none⟩) 1 1)).run Tryz.prog (w.alloc (.cells #[.int .u8 (48+(d:Int))] 5))=.ok (.string (bts [c])) (w.alloc (.cells #[.int .u8 (48+(d:Int))] 5)):=
   run_convert_bytes_back _ _ _ _ ⟨w.heap.size,0,none⟩ 1 [c] Tryz.underlying101 Tryz.underlying5 Tryz.underlying9 fun j hj=>by
    obtain rfl:j=0:=by simp at hj;omega
    show (w.alloc _).cell? ⟨w.heap.size,0,none⟩=some (.int .u8 ((c.toNat:Nat):Int))
    rw [hc,dig_nat d hd10]
    exact World.cell?_alloc_mark w _ _ (0,0) 0
  have hx1:Ext w (w.alloc (.cells #[.int .u8 (48+(d:Int))] 5)):=(Ext.refl w).alloc' _
  have HIH:=Lib.hid (fun (h:10≤n) W=>(ih q (by omega) (by omega) W))
  have HQ:=Lib.hid (And.intro hd (And.intro hq hc))
  clear ih hd hq hc
  by_cases h10:n<10
  ·have b1:decide ((10:Int)≤(n:Int))=false:=decide_eq_false (by omega)
   have b1':decide (10≤n)=false:=decide_eq_false (by omega)
   go_enter Tryz.func120,Tryz.ntmps120
   go_wp2_with fail
   go_ret
   exact ⟨by
    rw [Lib.decDigits,dif_pos h10,HQ.out.2.2,show d=n by have:=HQ.out.1;omega];rfl,hx1⟩
  ·have b1:decide ((10:Int)≤(n:Int))=true:=decide_eq_true (by omega)
   have b1':decide (10≤n)=true:=decide_eq_true (by omega)
   have hih:=fun W=>HIH.out (by omega) W
   obtain ⟨x,hx⟩:∃ x,x=Lib.decDigits q:=⟨_,rfl⟩
   have hxl:x.length≤1000001:=by rw [hx];have:=decDigits_len q;have:=HQ.out.2.1;omega
   rw [←hx] at hih
   have HX:=Lib.hid hx
   have HI2:=Lib.hid hih
   have hs1:=bts_size x
   have hs2:=bts_size [c]
   have hcat:¬9223372036854775807<x.length+1:=by omega
   have h10':=Lib.hid h10
   clear hx hih h10
   go_enter Tryz.func120,Tryz.ntmps120
   go_wp2_with (go_at_call 120;refine (HI2.out _).mono ?_;rintro e w2 ⟨rfl,hx2⟩)
   go_ret
   exact ⟨by
    rw [Lib.decDigits,dif_neg h10'.out,←HQ.out.2.1,←HQ.out.1,←HX.out,←HQ.out.2.2]
    exact congrArg (fun z=>Ending.returned (Value.string z)) (bts_append x [c]),hx1.trans hx2⟩
set_option maxHeartbeats 1000000 in
theorem rname20_any (w : World) (T : TM) (hT : T.At w) (p : Nat) (x : Int) (hp : p < T.n) (hN : (T.name p).size ≤ 1000) (h0 : 0 ≤ x) (h1 : x ≤ 1000) :
    Calls Tryz.prog 74 #[T.val,.agg #[.int .i64 (p:Int),.int .i64 x]] w fun e w'=>e=.returned (.string (bts (evN T.toTr ((p:Int),x))))∧Ext w w':=by
 obtain ⟨d,hd⟩:∃ d,d=Lib.itoa x:=⟨_,rfl⟩
 have HDC:=Lib.hid (fun W=>(show Calls Tryz.prog 120 #[.int .i64 x] W (fun e w'=>e=.returned (.string (bts d))∧Ext W w') from by
  have h:=rdec20_any x.toNat (by omega) W
  rw [show ((x.toNat:Nat):Int)=x by omega] at h
  rw [hd];unfold Lib.itoa;rw [if_neg (by omega)];exact h))
 have hdl:d.length≤1001:=by have:=itoa_len x h0;rw [hd];omega
 have hTP:=hT.P
 have htn:=hTP.hn
 have hp':(p:Int)<(T.n:Int):=by omega
 have p0:∀ w',Ext w w'→w'.cell? ⟨T.b,T.off+p*3,none⟩=some (.string (T.name p)):=fun w' h=>hTP.p0 w' h p hp
 have pb:=hTP.pb (by omega)
 obtain ⟨nm,hnm⟩:∃ nm,nm=(T.name p).data.toList:=⟨_,rfl⟩
 have hnb:T.name p=bts nm:=by rw [hnm];simp [bts]
 have hnl:nm.length≤1000:=by rw [hnm];simpa using hN
 rw [hnb] at p0
 have HEV:=Lib.hid (show evN T.toTr ((p:Int),x)=nm++46 :: d from by unfold evN;rw [hd,hnm];simp only [Int.toNat_natCast])
 have hv:T.val=.agg #[.slice (some ⟨T.b,T.off,none⟩) T.n T.cap]:=by
  show Value.agg #[.slice T.a _ _]=_
  rw [hTP.pa (by omega)]
 rw [hv]
 have hz1:=bts_size nm
 have hz2:=bts_size d
 have hk1:¬9223372036854775807<nm.length+1:=by omega
 have hk2:¬9223372036854775807<nm.length+1+d.length:=by omega
 clear hd hnm hnb hTP hv hT
 go_enter Tryz.func74,Tryz.ntmps74
 go_upto_region 1 with fail
 refine boxed2 (w:=w) (G:=fun x=>Code.wp _ _ _ _ x) ?_
 intro w1 hx1 hs1 ⟨l0,c0,_,_⟩ ⟨l1,c1,_,_⟩
 have hx11:Ext w1 w1:=Ext.refl _
 have hg0:∀ d os,Ext w (Sort.grow (redrawn w1 d) os):=fun d os=>hx1.trans (below_regrown w1 d os)
 have hg1:∀ d os,Ext w1 (Sort.grow (redrawn w1 d) os):=fun d os=>below_regrown w1 d os
 clear hs1
 refine wp_region_quiet_below (by kernel_rfl) (by kernel_rfl) ?_
 repeat (go_big_quiet_step (exact Calls.regrown_of (HDC.out _)))
 refine wpQuiet_nil ?_
 intro _ hw'
 obtain ⟨⟨dq,osq⟩,hw''⟩:=hw'
 subst hw''
 have hxq:=hg0 dq osq
 clear hg0 hg1
 go_wp2_with fail
 go_ret
 exact ⟨by rw [HEV.out];exact congrArg (fun z=>Ending.returned (Value.string z)) (by rw [show (⟨#[46]⟩:ByteArray)=bts [46] from rfl,bts_append,bts_append];simp),hxq⟩
end Go.Proofs.YtlfdfkbmollaaaaGreatDoor

namespace Go.Proofs.YtlfdfkbmollaaaaGreatDoor
open Go.RowKit Go.Shelf
attribute [local go_sem] Oper.semAt_some
end Go.Proofs.YtlfdfkbmollaaaaGreatDoor

namespace Go.Proofs.YtlfdfkbmollaaaaGreatDoor
open Go.RowKit Go.Shelf
attribute [local go_sem] Oper.semAt_some
end Go.Proofs.YtlfdfkbmollaaaaGreatDoor

namespace Go.Proofs.YtlfdfkbmollaaaaGreatDoor
open Go.RowKit Go.Shelf
attribute [local go_sem] Oper.semAt_some
end Go.Proofs.YtlfdfkbmollaaaaGreatDoor
