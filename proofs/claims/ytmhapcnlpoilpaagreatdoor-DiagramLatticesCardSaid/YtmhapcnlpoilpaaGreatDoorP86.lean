/- Contracts and laws in plain Lean for RApp: group P86. -/
import Derived.Test.YtmhapcnlpoilpaaGreatDoorP71
import Derived.Test.YtmhapcnlpoilpaaGreatDoorP70
import Derived.Deep.LoopGhost
import Derived.Laws.IdiomStrings
set_option maxRecDepth 100000
namespace Go.Proofs.YtmhapcnlpoilpaaGreatDoor
open Go.RowKit Go.Shelf
attribute [local go_sem] Oper.semAt_some
theorem dig_nat:∀ d:Nat,d<10→((UInt8.ofNat (48+d)).toNat:Int)=48+(d:Int):=by decide
set_option maxHeartbeats 1000000 in
theorem rdec_any (n:Nat):n≤1000000→∀ w,Calls Tryz.prog 81 #[.int .i64 n] w fun e w'=>e=.returned (.string (bts (Lib.decDigits n)))∧Ext w w':=by
 induction n using Nat.strongRecOn with
 | ind n ih =>
  intro hn w
  obtain ⟨d,hd⟩:∃ d:Nat,d=n % 10:=⟨_,rfl⟩
  obtain ⟨q,hq⟩:∃ q:Nat,q=n / 10:=⟨_,rfl⟩
  have hd10:d<10:=by omega
  have hmod:Int.tmod (n:Int) 10=(d:Int):=by rw [Int.tmod_eq_emod_of_nonneg (by omega)];omega
  have hdiv:Int.tdiv (n:Int) 10=(q:Int):=by rw [Int.tdiv_eq_ediv_of_nonneg (by omega)];omega
  have hw0:IntKind.i64.wrap ((48:Int)+(d:Int))=48+(d:Int):=IntWalk.i64_in _ (by omega)
  have hwq:IntKind.i64.wrap (q:Int)=(q:Int):=IntWalk.i64_in _ (by omega)
  have hw1:IntKind.u8.wrap ((48:Int)+(d:Int))=48+(d:Int):=by
   have:∀ d:Nat,d<10→IntKind.u8.wrap ((48:Int)+(d:Int))=48+(d:Int):=by decide
   exact this d hd10
  obtain ⟨c,hc⟩:∃ c,c=UInt8.ofNat (48+d):=⟨_,rfl⟩
  have hcv:(convert 104 9 (.slice (some ⟨w.heap.size,0,none⟩) 1 1)).run Tryz.prog (w.alloc (.cells #[.int .u8 (48+(d:Int))] 5))=.ok (.string (bts [c])) (w.alloc (.cells #[.int .u8 (48+(d:Int))] 5)):=
   run_convert_bytes_back _ _ _ _ ⟨w.heap.size,0,none⟩ 1 [c] Tryz.underlying104 Tryz.underlying5 Tryz.underlying9 fun j hj=>by
    obtain rfl:j=0:=by simp at hj;omega
    show (w.alloc _).cell? ⟨w.heap.size,0,none⟩=some (.int .u8 ((c.toNat:Nat):Int))
    rw [hc,dig_nat d hd10]
    exact World.cell?_alloc_mark w _ _ (0,0) 0
  have hx1:Ext w (w.alloc (.cells #[.int .u8 (48+(d:Int))] 5)):=(Ext.refl w).alloc' _
  have HIH:=Lib.hid (fun (h:10≤n) W=>(ih q (by omega) (by omega) W))
  have HQ:=Lib.hid (And.intro hd (And.intro hq hc))
  clear ih hd hq hc
  by_cases h10:n<10
  ·have b1:decide ((10:Int)≤(n:Int))=false:=decide_eq_false (by omega)
   have b1':decide (10≤n)=false:=decide_eq_false (by omega)
   go_enter Tryz.func81,Tryz.ntmps81
   go_wp2_with fail
   go_ret
   exact ⟨by
    rw [Lib.decDigits,dif_pos h10,HQ.out.2.2,show d=n by have:=HQ.out.1;omega];rfl,hx1⟩
  ·have b1:decide ((10:Int)≤(n:Int))=true:=decide_eq_true (by omega)
   have b1':decide (10≤n)=true:=decide_eq_true (by omega)
   have hih:=fun W=>HIH.out (by omega) W
   obtain ⟨x,hx⟩:∃ x,x=Lib.decDigits q:=⟨_,rfl⟩
   have hxl:x.length≤1000001:=by rw [hx];have:=decDigits_len q;have:=HQ.out.2.1;omega
   rw [←hx] at hih
   have HX:=Lib.hid hx
   have HI2:=Lib.hid hih
   have hs1:=bts_size x
   have hs2:=bts_size [c]
   have hcat:¬9223372036854775807<x.length+1:=by omega
   have h10':=Lib.hid h10
   clear hx hih h10
   go_enter Tryz.func81,Tryz.ntmps81
   go_wp2_with (go_at_call 81;refine (HI2.out _).mono ?_;rintro e w2 ⟨rfl,hx2⟩)
   go_ret
   exact ⟨by
    rw [Lib.decDigits,dif_neg h10'.out,←HQ.out.2.1,←HQ.out.1,←HX.out,←HQ.out.2.2]
    exact congrArg (fun z=>Ending.returned (Value.string z)) (bts_append x [c]),hx1.trans hx2⟩
set_option maxHeartbeats 1000000 in
theorem rtext_any (w : World) (l : List UInt8) :
    Calls Tryz.prog 15 #[.string (bts (limS l)),.int .i64 (limE l),.string (bts l)] w fun e w'=>e=.returned (.bool true)∧Ext w w':=by
 have hsz:=bts_size l
 by_cases h:16384<l.length
 ·have d1:decide ((16384:Int)<(l.length:Int))=true:=decide_eq_true (by omega)
  have d1':decide (16384<l.length)=true:=decide_eq_true h
  have e1:limS l=[]:=if_pos h
  have e2:limE l=5:=if_pos h
  rw [e1,e2,show bts []=⟨#[]⟩ from rfl]
  clear h e1 e2
  go_enter Tryz.func15,Tryz.ntmps15
  go_wp2_with fail
  go_ret
  exact ⟨rfl,Ext.refl _⟩
 ·have d1:decide ((16384:Int)<(l.length:Int))=false:=decide_eq_false (by omega)
  have d1':decide (16384<l.length)=false:=decide_eq_false h
  have e1:limS l=l:=if_neg h
  have e2:limE l=0:=if_neg h
  rw [e1,e2]
  clear h e1 e2
  go_enter Tryz.func15,Tryz.ntmps15
  go_wp2_with fail
  go_ret
  exact ⟨rfl,Ext.refl _⟩
end Go.Proofs.YtmhapcnlpoilpaaGreatDoor
