/- Contracts and laws in plain Lean for RApp: group P67. -/
import Derived.Test.YtmhapcnlpoilpaaGreatDoorP65
import Derived.Test.YtmhapcnlpoilpaaGreatDoorP20
import Derived.Test.YtmhapcnlpoilpaaGreatDoorP01
import Derived.Deep.LoopGhost
import Derived.Test.YtmhapcnlpoilpaaGreatDoorP06
import Derived.Lib.SplitLaws
set_option maxRecDepth 100000
namespace Go.Proofs.YtmhapcnlpoilpaaGreatDoor
open Go.RowKit Go.Shelf
attribute [local go_sem] Oper.semAt_some
def sumN (v:Nat→Int):Nat→Int | 0=>0 | n+1=>sumN v n+v n
theorem sumN_le {v:Nat→Int} {c:Nat}:∀ {n:Nat},(∀ k,k<n→0≤v k∧v k≤c)→0≤sumN v n∧sumN v n≤(n*c:Nat)
 | 0,_ => by simp [sumN]
 | n+1,h => by
  have h1:=sumN_le (n:=n) fun k hk=>h k (by omega)
  have h2:=h n (by omega)
  rw [Nat.succ_mul];unfold sumN;omega
set_option maxHeartbeats 1000000 in
theorem dsize_any (w : World) (n cap : Nat) (a : Option Addr) (g o : Nat) (v : Nat → Int) (hA : NumAt w n a g o v) (hn : n ≤ 100) (hv : ∀ k, k < n → 0 ≤ v k ∧ v k ≤ 1000000) :
    Calls Tryz.prog 70 #[.slice a n cap] w fun e w'=>e=.returned (.int .i64 (sumN v n))∧Ext w w':=by
 have HA:=Lib.hid hA
 have HV:=Lib.hid hv
 clear hA hv
 go_enter Tryz.func70,Tryz.ntmps70
 go_wp2_with fail
 go_loopg [3,8] n (fun gg v3 v8 wr=>∃ k:Nat,k≤n∧gg=n - k∧v8=.int .i64 k∧v3=.int .i64 (sumN v k)∧Ext w wr)
 case atStart=>exact ⟨0,by omega,rfl,rfl,rfl,Ext.refl _⟩
 case round=>
  obtain ⟨k,hk,rfl,rfl,rfl,hxr⟩:=hrel
  by_cases hlt:k<n
  ·have hlt':(k:Int)<(n:Int):=by omega
   obtain rfl:=HA.out.pa (by omega)
   obtain ⟨x,hx⟩:∃ x,x=v k:=⟨_,rfl⟩
   obtain ⟨s,hs⟩:∃ s,s=sumN v k:=⟨_,rfl⟩
   have hsb:=sumN_le (v:=v) (c:=1000000) (n:=k) fun j hj=>HV.out j (by omega)
   have hxb:=HV.out k hlt
   rw [←hx] at hxb
   rw [←hs] at hsb ⊢
   have hc:wr.cell? ⟨g,o+k,none⟩=some (.int .i64 x):=by rw [hx];exact hxr.cell (HA.out.c k hlt)
   have hg:g<wr.heap.size:=Nat.lt_of_lt_of_le (HA.out.pb (by omega)) hxr.le
   have hk2:k*1000000≤100*1000000:=Nat.mul_le_mul_right _ (by omega)
   have hw:IntKind.i64.wrap (s+x)=s+x:=IntWalk.i64_in _ (by omega)
   have HX:=Lib.hid hx
   have HS:=Lib.hid hs
   clear hx hs
   go_wp2_with fail
   go_roundg (n - (k+1))
   case rel=>exact ⟨k+1,by omega,rfl,by go_num,by show _=Value.int .i64 (sumN v k+v k);rw [←HX.out,←HS.out],hxr⟩
   case measure=>omega
  ·have hlt':decide ((k:Int)<(n:Int))=false:=decide_eq_false (by omega)
   obtain rfl:k=n:=by omega
   go_wp2_with fail
   go_ret
   exact ⟨rfl,hxr⟩
theorem infoStr:(Tryz.prog.info? 9).map (fun i=>(i.zero,i.size,i.bytes))=some (some (.string ⟨#[]⟩),1,16):=by kernel_rfl
def strV (l:List (List UInt8)):List Value:=l.map fun s=>.string (bts s)
def itoaL (v:Nat→Int) (n:Nat):List (List UInt8):=(List.range n).map fun i=>Lib.itoa (v i)
theorem itoaL_succ (v:Nat→Int) (n:Nat):itoaL v (n+1)=itoaL v n++[Lib.itoa (v n)]:=by simp [itoaL,List.range_succ]
theorem itoaL_len (v:Nat→Int) (n:Nat):(itoaL v n).length=n:=by simp [itoaL]
theorem join_any (w : World) (base : Nat) (a : Option Addr) (k cap : Nat) (L : List (List UInt8)) (hL : L.length = k) (hq : Que w base 1 (.slice a k cap) k (strV L)) (c : UInt8) (hlen : (Lib.join L [c]).length ≤ 1000000000) (hk : k ≤ 1000000) :
    Calls Tryz.prog 67 #[.slice a k cap,.string ⟨#[c]⟩] w fun e w'=>e=.returned (.string (bts (Lib.join L [c])))∧Ext w w':=by
 rcases hq.val with ⟨ao,hv,h0,_⟩ | ⟨g,off,cap',hv,h1,h2,h3,h4,h5,h6⟩
 ·cases hv
  have h:L=[]:=List.length_eq_zero_iff.1 (by omega)
  subst h
  exact (Tryz.strings_Join_none _ _ _ w).mono fun e w' h=>⟨h.1,h.2▸Ext.refl _⟩
 ·cases hv
  have e1:(L.map bts).length=k:=by rw [List.length_map];exact hL
  have e2:(L.map bts).map (·.data.toList)=L:=by
   rw [List.map_map]
   conv=>rhs;rw [←List.map_id L]
   exact List.map_congr_left fun x _=>by simp [bts]
  have hj:=Tryz.strings_Join g off cap (L.map bts) ⟨#[c]⟩ w (fun j x hx=>by
   have hjl:j<L.length:=by
    have:=(List.getElem?_eq_some_iff.1 hx).1;simpa using this
   rw [h5 j (by omega)]
   rw [List.getElem?_map,List.getElem?_eq_getElem hjl] at hx
   simp only [Option.map_some,Option.some.injEq] at hx
   simp [strV,hjl,←hx]) h2 (by omega) (by omega) (by rw [e2];exact Nat.le_trans hlen (by omega))
  rw [e1,e2] at hj
  exact hj.mono fun e w' h=>⟨h.1,h.2⟩
theorem join_len (L:List (List UInt8)) (c:UInt8) (m:Nat) (h:∀ x,x∈L→x.length≤m):(Lib.join L [c]).length≤L.length*(m+1):=by
 cases L with
 | nil => simp [Lib.join_nil]
 | cons x r =>
  rw [Lib.join_cons,List.length_append]
  have h1:=h x (by simp)
  have h2:∀ r:List (List UInt8),(∀ y,y∈r→y.length≤m)→(Lib.joinTail [c] r).length≤r.length*(m+1):=by
   intro r
   induction r with
   | nil => intro _;simp [Lib.joinTail]
   | cons y r ih =>
    intro hy
    have a1:=ih fun z hz=>hy z (by simp [hz])
    have a2:=hy y (by simp)
    simp only [Lib.joinTail,List.map_cons,List.flatten_cons,List.length_append,List.length_cons,List.length_nil] at a1 ⊢
    rw [Nat.succ_mul];omega
  have h3:=h2 r fun y hy=>h y (by simp [hy])
  rw [List.length_cons,Nat.succ_mul];omega
def wriL (v:Nat→Int) (n:Nat):List UInt8:=40 :: (Lib.join (itoaL v n) [32]++[41])
structure WrI (w:World) (u:Nat→Int) (k:Nat) (v:Value) (wr:World):Prop where
 x:Ext w wr
 q:Que wr w.heap.size 1 v k (strV (itoaL u k))
theorem WrI.ext {w wr w':World} {u:Nat→Int} {k:Nat} {v:Value} (h:WrI w u k v wr) (x:Ext wr w'):WrI w u k v w':=⟨h.x.trans x,h.q.ext x⟩
theorem one_str (l:List UInt8):∀ u∈[Value.string (bts l)],u.oneCell'=true:=by
 intro u hu;simp at hu;subst hu;rfl
set_option maxHeartbeats 1000000 in
theorem written_any (w : World) (ht : Tb w) (n cap : Nat) (a : Option Addr) (g o : Nat) (v : Nat → Int) (hA : NumAt w n a g o v) (hn : n ≤ 100) (hv : ∀ k, k < n → 0 ≤ v k ∧ v k ≤ 1000000) :
    Calls Tryz.prog 65 #[.slice a n cap] w fun e w'=>e=.returned (.string (bts (wriL v n)))∧Ext w w':=by
 have HA:=Lib.hid hA
 have HV:=Lib.hid hv
 obtain ⟨j0,hj0,hy0,hy1,hy2⟩:=info_parts infoStr
 have HIT:=Lib.hid (fun W (x:Ext w W) k (hk:k<n)=>itoa_any (v k) (by have:=hv k hk;omega) (by have:=hv k hk;omega) W (ht.ext x))
 have HI0:=Lib.hid (show WrI w v 0 (.slice none 0 0) w from ⟨Ext.refl _,Que.nil _ _ _⟩)
 clear hA hv ht
 go_enter Tryz.func65,Tryz.ntmps65
 go_wp2_with fail
 go_loopg [3,8] n (fun gg v3 v8 wr=>∃ k:Nat,k≤n∧gg=n - k∧v8=.int .i64 k∧WrI w v k v3 wr)
 case atStart=>exact ⟨0,by omega,rfl,rfl,HI0.out⟩
 case round=>
  obtain ⟨k,hk,rfl,rfl,hI⟩:=hrel
  obtain ⟨a3,c3,rfl⟩:=hI.q.slice
  have hxr:=hI.x
  have HI:=Lib.hid hI
  clear hI HI0
  by_cases hlt:k<n
  ·have hlt':(k:Int)<(n:Int):=by omega
   obtain rfl:=HA.out.pa (by omega)
   obtain ⟨x,hx⟩:∃ x,x=v k:=⟨_,rfl⟩
   have hc:wr.cell? ⟨g,o+k,none⟩=some (.int .i64 x):=by rw [hx];exact hxr.cell (HA.out.c k hlt)
   have hg:g<wr.heap.size:=Nat.lt_of_lt_of_le (HA.out.pb (by omega)) hxr.le
   have hit:=HIT.out wr hxr k hlt
   rw [←hx] at hit
   obtain ⟨d,hd⟩:∃ d,d=Lib.itoa x:=⟨_,rfl⟩
   rw [←hd] at hit
   have HD:=Lib.hid (show Lib.itoa (v k)=d by rw [hd,hx])
   have HT:=Lib.hid hit
   clear hx hd hit
   go_upto_region 6 with (first | (go_at_call 66;refine HT.out.mono ?_;rintro e w5 ⟨rfl,hx5⟩;have HI5:=Lib.hid (HI.out.ext hx5)) | (at_builtin;refine wpList_append_que _ rfl _ _ 50 50 rfl (base:=w.heap.size) (e:=9) (size:=1) j0 (.string ⟨#[]⟩) 16 Tryz.underlying50 hj0 hy0 hy1 hy2 rfl rfl (v:=.slice a3 k c3) (n:=k) (xs:=strV (itoaL v k)) (HI5.out.ext (Ext.alloc w5 (.cells #[.string (bts d)] 9))).q (by rw [World.size_alloc];have:=HI5.out.x.le;omega) (.slice (some ⟨w5.heap.size,0,none⟩) 1 1) 1 [.string (bts d)] rfl (by exact Src.ofSlice _ Tryz.underlying50 ⟨w5.heap.size,0,none⟩ 1 1 _ rfl (news_ok w5 _ _) (one_str _)) (by unfold maxLen;omega) (by omega) ?_;rintro v9 w9 hq9 hg9 -;have H9:=Lib.hid (show WrI w v (k+1) v9 w9 from ⟨Below.grown ((HI5.out.x).trans (Ext.alloc w5 (.cells #[.string (bts d)] 9))) hg9 (by rw [World.size_alloc];have:=HI5.out.x.le;omega) (fun g e=>by have h1:=HI5.out.q.block g e;omega),by rw [itoaL_succ,HD.out];simpa [strV] using hq9⟩);clear hq9 hg9))
   go_wp2_with fail
   go_roundg (n - (k+1))
   case rel=>exact ⟨k+1,by omega,rfl,by go_num,H9.out⟩
   case measure=>omega
  ·have hlt':decide ((k:Int)<(n:Int))=false:=decide_eq_false (by omega)
   obtain rfl:k=n:=by omega
   have hjl:(Lib.join (itoaL v k) [32]).length≤1000000000:=by
    have h1:=join_len (itoaL v k) 32 1000001 (fun x hx=>by
     simp only [itoaL,List.mem_map,List.mem_range] at hx
     obtain ⟨i,hi,rfl⟩:=hx
     have h1:=itoa_len (v i) (HV.out i hi).1
     have h2:=HV.out i hi
     omega)
    rw [itoaL_len] at h1
    have h2:k*(1000001+1)≤100*(1000001+1):=Nat.mul_le_mul_right _ (by omega)
    omega
   have hj:=join_any wr w.heap.size a3 k c3 (itoaL v k) (itoaL_len v k) HI.out.q 32 hjl (by omega)
   obtain ⟨d,hd⟩:∃ d,d=Lib.join (itoaL v k) [32]:=⟨_,rfl⟩
   rw [←hd] at hj hjl
   have HD:=Lib.hid (show wriL v k=40 :: (d++[41]) by rw [hd];rfl)
   have HJ:=Lib.hid hj
   have hds:=bts_size d
   have hcat:¬9223372036854775807<1+d.length:=by omega
   have hcat2:¬9223372036854775807<d.length+1+1:=by omega
   have hcat3:¬9223372036854775807<1+d.length+1:=by omega
   clear hj hd hxr
   go_wp2_with (go_at_call 67;refine HJ.out.mono ?_;rintro e w5 ⟨rfl,hx5⟩)
   go_ret
   exact ⟨by rw [HD.out];exact congrArg (fun z=>Ending.returned (Value.string z)) ((congrArg (· ++ bts [41]) (bts_append [40] d)).trans (bts_append (40 :: d) [41])),HI.out.x.trans hx5⟩
end Go.Proofs.YtmhapcnlpoilpaaGreatDoor

namespace Go.Proofs.YtmhapcnlpoilpaaGreatDoor
open Go.RowKit Go.Shelf
structure StrRow (W:World) (b n:Nat) (f:Nat→List UInt8):Prop where
 c:∀ k,k<n→W.cell? ⟨b,k,none⟩=some (.string (bts (f k)))
 fr:∀ k,W.frozen? ⟨b,k,none⟩=false
 lt:b<W.heap.size
theorem StrRow.ext {W W':World} {b n:Nat} {f:Nat→List UInt8} (h:StrRow W b n f) (x:Ext W W'):StrRow W' b n f:=
 ⟨fun k hk=>x.cell (h.c k hk),fun k=>(x.frozen (p:=⟨b,k,none⟩) h.lt).trans (h.fr k),Nat.lt_of_lt_of_le h.lt x.le⟩
theorem StrRow.set {W:World} {b n:Nat} {f:Nat→List UInt8} (h:StrRow W b n f) {j:Nat} (hj:j<n) (s:List UInt8) {f':Nat→List UInt8} (hs:f' j=s) (hf:∀ k,k≠j→f' k=f k):StrRow (W.setCell ⟨b,j,none⟩ (.string (bts s))) b n f':=by
 refine ⟨fun k hk=>?_,fun k=>by rw [frozen_set];exact h.fr k,by simpa [World.setCell] using h.lt⟩
 rw [cell_set W b j k _ (h.c j hj)]
 by_cases e:k=j
 ·subst e;simp [hs]
 ·simp only [e,if_false];rw [h.c k hk,hf k e]
theorem StrRow.made {w:World} {base g n:Nat} (h:w.ownsRow base 9 1 (.slice (some ⟨g,0,none⟩) n n) n (madeCells (Value.string ⟨#[]⟩).cells (n*1)).toList):StrRow w g n fun _=>[]:=by
 obtain ⟨h1,⟨hv,_⟩ | ⟨g',cap,cur,hv,hg,hh,hc,hm,hs,ht⟩⟩:=h
 ·cases hv
 ·simp only [Value.slice.injEq,Option.some.injEq,Addr.mk.injEq] at hv
  obtain ⟨⟨rfl,_⟩,_,rfl⟩:=hv
  have hb:=Box.of hh
  have hz:(Value.string ⟨#[]⟩).cells=#[.string ⟨#[]⟩]:=rfl
  rw [hz,toList_madeCells_one] at ht
  refine ⟨fun k hk=>?_,fun k=>hb.frozen w (Ext.refl _) k,hb.lt w (Ext.refl _)⟩
  rw [hb.cell w (Ext.refl _)]
  have:cur[k]?=(List.replicate (n*1) (Value.string ⟨#[]⟩))[k]?:=by rw [←ht,List.getElem?_take_of_lt (by omega)];simp
  rw [this,List.getElem?_replicate,if_pos (by omega)];rfl
theorem StrRow.que {W:World} {b n base:Nat} {f:Nat→List UInt8} (h:StrRow W b n f) (hb:base≤b) (hn:n≤maxLen):Que W base 1 (.slice (some ⟨b,0,none⟩) n n) n (strV ((List.range n).map f)):=by
 refine ⟨by simp [strV],.inr ⟨b,0,n,rfl,hb,h.lt,Nat.le_refl _,hn,fun j hj=>?_,fun j hj=>?_⟩⟩
 ·have hj':j<n:=by omega
  rw [Nat.zero_add,h.c j hj']
  simp [strV,hj']
 ·have hj':j<n:=by omega
  rw [Nat.zero_add,h.c j hj']
  exact ⟨rfl,h.fr j⟩
end Go.Proofs.YtmhapcnlpoilpaaGreatDoor
