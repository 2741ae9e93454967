/- Contracts and laws in plain Lean for RApp: group P65. -/
import Derived.Test.YtmhapcnlpoilpaaGreatDoorP01
import Derived.Test.YtmhapcnlpoilpaaGreatDoorP63
import Derived.Lib.SmallJoins
import Derived.Great.Walk
set_option maxRecDepth 100000
namespace Go.Proofs.YtmhapcnlpoilpaaGreatDoor
open Go.RowKit Go.Shelf
attribute [local go_sem] Oper.semAt_some
def Tb (w : World) : Prop := Lib.TabIs Tryz.prog w "internal/strconv.uint64pow10" .u64 Lib.pow10Tab
theorem gPow : Tryz.prog.globalNamed "internal/strconv.uint64pow10" = some 3 := by kernel_rfl
theorem Tb.ext {w w':World} (h:Tb w) (x:Ext w w'):Tb w':=by
 exact Go.Joins.tab_stays gPow h x (Nat.le_refl _)
theorem ext_regrow (w:World) (k:Nat) (os:Array Obj):Ext w (Sort.grow (w.drewN k) os):=by
 refine ⟨rfl,rfl,rfl,?_,fun j hj=>?_⟩
 ·show w.heap.size≤(Array.size _);simp [World.drewN]
 ·show ((w.drewN k).heap++os)[j]?=_;rw [Array.getElem?_append_left (by simpa [World.drewN] using hj)];rfl
def bts (l:List UInt8):ByteArray:=⟨l.toArray⟩
theorem bts_size (l:List UInt8):(bts l).size=l.length:=by simp [bts,ByteArray.size]
theorem bts_append (a b:List UInt8):bts a++bts b=bts (a++b):=by
 apply ByteArray.ext
 simp [bts,ByteArray.data_append]
theorem decDigits_len (u:Nat):(Lib.decDigits u).length≤u+1:=by
 induction u using Nat.strongRecOn with
 | ind u ih =>
  rw [Lib.decDigits]
  by_cases h:u<10
  ·rw [dif_pos h];simp
  ·rw [dif_neg h];have:=ih (u / 10) (by omega);simp;omega
theorem itoa_len (n:Int) (h:0≤n):(Lib.itoa n).length≤n.toNat+1:=by
 unfold Lib.itoa;rw [if_neg (by omega)];exact decDigits_len _
theorem itoa_any (n : Int) (h0 : -9223372036854775808 ≤ n) (h1 : n ≤ 9223372036854775807) (w : World) (ht : Tb w) :
    Calls Tryz.prog 66 #[.int .i64 n] w fun e w'=>e=.returned (.string (bts (Lib.itoa n)))∧Ext w w':=
 (Tryz.strconv_Itoa n h0 h1 w ht).mono fun _ _ ⟨he,k,os,hw⟩=>⟨he,hw▸ext_regrow w k os⟩
def labL (k m:Int):List UInt8:=if k=2 then 115 :: Lib.itoa m else if k=3 then 114 :: Lib.itoa m else [111]
set_option maxHeartbeats 1000000 in
theorem label_any (w : World) (ht : Tb w) (k p m t : Int) (v : Value) (hm : 0 ≤ m ∧ m ≤ 199) :
    Calls Tryz.prog 85 #[.agg #[.int .i64 k,.int .i64 p,.int .i64 m,.int .i64 t,v]] w fun e w'=>e=.returned (.string (bts (labL k m)))∧Ext w w':=by
 obtain ⟨d,hd⟩:∃ d,d=Lib.itoa m:=⟨_,rfl⟩
 have HIT:=Lib.hid (fun W (x:Ext w W)=>itoa_any m (by omega) (by omega) W (ht.ext x))
 have hdl:d.length≤200:=by have:=itoa_len m hm.1;rw [hd];omega
 rw [←hd] at HIT
 have HLB:=Lib.hid (show labL k m=if k=2 then 115 :: d else if k=3 then 114 :: d else [111] from by rw [hd];rfl)
 have hds:=bts_size d
 have hcat:¬9223372036854775807<1+d.length:=by omega
 clear ht hd
 go_enter Tryz.func85,Tryz.ntmps85
 go_upto_region 1 with fail
 refine boxed1 (w:=w) (G:=fun x=>Code.wp _ _ _ _ x) ?_
 intro w1 hx1 hs1 ⟨l0,c0,_,_⟩
 have hx11:Ext w1 w1:=Ext.refl _
 clear hs1
 by_cases h2:k=2
 ·have d1:(k == 2)=true:=by simpa using h2
  have HA:=Lib.hid h2
  clear h2
  go_wp2_with (go_at_call 66;refine (HIT.out _ hx1).mono ?_;rintro e w2 ⟨rfl,hx2⟩)
  go_ret
  exact ⟨by rw [HLB.out,if_pos HA.out];exact congrArg (fun z=>Ending.returned (Value.string z)) (bts_append [115] d),hx1.trans hx2⟩
 ·have d1:(k == 2)=false:=by simpa using h2
  by_cases h3:k=3
  ·have d2:(k == 3)=true:=by simpa using h3
   have HA:=Lib.hid (And.intro h2 h3)
   clear h2 h3
   go_wp2_with (go_at_call 66;refine (HIT.out _ hx1).mono ?_;rintro e w2 ⟨rfl,hx2⟩)
   go_ret
   exact ⟨by rw [HLB.out,if_neg HA.out.1,if_pos HA.out.2];exact congrArg (fun z=>Ending.returned (Value.string z)) (bts_append [114] d),hx1.trans hx2⟩
  ·have d2:(k == 3)=false:=by simpa using h3
   have HA:=Lib.hid (And.intro h2 h3)
   clear h2 h3
   go_wp2_with fail
   go_ret
   exact ⟨by rw [HLB.out,if_neg HA.out.1,if_neg HA.out.2];rfl,hx1⟩
def padL (s:List UInt8) (c:UInt8) (n:Nat):List UInt8:=s++List.replicate (n - s.length) c
theorem repeatL_one1 (c:UInt8):∀ n,Lib.repeatL [c] n=List.replicate n c
 | 0 => rfl
 | n+1 => by rw [Lib.repeatL,repeatL_one1 c n];rfl
set_option maxHeartbeats 1000000 in
theorem pad_any (w : World) (s : List UInt8) (c : UInt8) (n : Nat) (hn : n ≤ 1000000) (hs : s.length ≤ 1000000) :
    Calls Tryz.prog 86 #[.string (bts s),.string ⟨#[c]⟩,.int .i64 n] w fun e w'=>e=.returned (.string (bts (padL s c n)))∧Ext w w':=by
 obtain ⟨r,hr⟩:∃ r,r=List.replicate (n - s.length) c:=⟨_,rfl⟩
 have HR:=Lib.hid (fun W=>(Tryz.strings_Repeat ⟨#[c]⟩ (n - s.length) W (by omega) (by show 1*_≤_;omega)).mono fun e w' (h:e=.returned (.string (bts (Lib.repeatL [c] (n - s.length))))∧Ext W w')=>(⟨by rw [h.1,repeatL_one1,hr],h.2⟩:e=.returned (.string (bts r))∧Ext W w'))
 have hsz:=bts_size s
 have hrz:=bts_size r
 have hcat:¬9223372036854775807<s.length+r.length:=by rw [hr,List.length_replicate];omega
 have HQ:=Lib.hid hr
 clear hr
 have hsi:IntKind.i64.wrap ((n:Int) - (s.length:Int))=(n:Int) - (s.length:Int):=IntWalk.i64_in _ (by omega)
 have hmx:max (0:Int) ((n:Int) - (s.length:Int))=((n - s.length:Nat):Int):=by omega
 go_enter Tryz.func86,Tryz.ntmps86
 go_wp2_with (go_at_call 139;refine (HR.out _).mono ?_;rintro e w2 ⟨rfl,hx2⟩)
 go_ret
 exact ⟨by unfold padL;rw [←HQ.out,bts_append];rfl,hx2⟩
def limV (s:List UInt8):Value:=if 16384<s.length then .tuple #[.string (bts []),.int .i64 5] else .tuple #[.string (bts s),.int .i64 0]
set_option maxHeartbeats 1000000 in
theorem limited_any (w : World) (s : List UInt8) :
    Calls Tryz.prog 37 #[.string (bts s)] w fun e w'=>e=.returned (limV s)∧Ext w w':=by
 have hsz:=bts_size s
 by_cases h:16384<s.length
 ·have d1:decide ((16384:Int)<(s.length:Int))=true:=decide_eq_true (by omega)
  have HL:=Lib.hid (show limV s=.tuple #[.string (bts []),.int .i64 5] from if_pos h)
  clear h
  go_enter Tryz.func37,Tryz.ntmps37
  go_wp2_with fail
  go_ret2
  exact ⟨by rw [HL.out];rfl,Ext.refl _⟩
 ·have d1:decide ((16384:Int)<(s.length:Int))=false:=decide_eq_false (by omega)
  have HL:=Lib.hid (show limV s=.tuple #[.string (bts s),.int .i64 0] from if_neg h)
  clear h
  go_enter Tryz.func37,Tryz.ntmps37
  go_wp2_with fail
  go_ret2
  exact ⟨by rw [HL.out];rfl,Ext.refl _⟩
def Bld (b:Nat) (l:List UInt8) (w:World):Prop:=Lib.IsBuilderF 106 5 b b (Lib.byteCells l) w
theorem Bld.lt {b:Nat} {l:List UInt8} {w:World} (h:Bld b l w):b<w.heap.size:=by
 rcases h with h | h <;> exact h.lt
theorem Bld.ext {b:Nat} {l:List UInt8} {w w':World} (h:Bld b l w) (x:Ext w w'):Bld b l w':=by
 rcases h with ⟨hB,v,hb,hown,hne⟩ | ⟨hB,v,hb,hown,hne⟩
 ·have hbl:b<w.heap.size:=(Array.getElem?_eq_some_iff.1 hb).1
  exact .inl ⟨hB,v,by rw [x.block b hbl];exact hb,hown.kept (row:=none) ⟨x.os,x.tape,x.output,x.size,fun k hk _=>x.block k hk⟩ (Classical.em _),hne⟩
 ·have hbl:b<w.heap.size:=(Array.getElem?_eq_some_iff.1 hb).1
  exact .inr ⟨hB,v,by rw [x.block b hbl];exact hb,hown.kept (row:=none) ⟨x.os,x.tape,x.output,x.size,fun k hk _=>x.block k hk⟩ (Classical.em _),hne⟩
def cat (xs:List (List UInt8)):List UInt8:=xs.flatten
theorem cat_append (a b:List (List UInt8)):cat (a++b)=cat a++cat b:=by simp [cat]
theorem cat_len (xs:Nat→List UInt8) (m:Nat):∀ n,(∀ j,j<n→(xs j).length≤m)→(cat ((List.range n).map xs)).length≤n*m
 | 0,_ => by simp [cat]
 | n+1,h => by
  have h1:=cat_len xs m n (fun j hj=>h j (by omega))
  have h2:=h n (by omega)
  rw [List.range_succ,List.map_append,cat_append,List.length_append,Nat.succ_mul]
  simp [cat] at h1 ⊢;omega
set_option maxHeartbeats 2000000 in
theorem write_any (w : World) (b : Nat) (l : List UInt8) (hB : Bld b l w) (g : Nat) (cs : Array Value) (ty : TypeId) (fz : Nat × Nat) (hg : w.heap[g]? = some (.cells cs ty fz)) (hty : ty ≠ 5) (hgb : g ≠ b) (n c : Nat) (xs : Nat → List UInt8)
    (hxs:∀ j,j<n→cs[j]?=some (.string (bts (xs j)))) (hn:n≤1000) (hx:∀ j,j<n→(xs j).length≤100000000) (hl:l.length≤10000000000000) :
    Calls Tryz.prog 64 #[.pointer (some ⟨b,0,none⟩),.slice (some ⟨g,0,none⟩) n c] w fun e w'=>e=.returned (.tuple #[])∧Bld b (l++cat ((List.range n).map xs)) w'∧Below b w w'∧Lib.OthersKept 5 (some b) w w':=by
 have HS:=Lib.hid (fun W l' s (h:Bld b l' W) (h1:l'.length≤20000000000000) (h2:s.length≤100000000) (h3:b≤W.heap.size)=>(Tryz.Builder_WriteString_k b b (Lib.byteCells l') (bts s) W h (by rw [Lib.byteCells_length,bts_size];omega) h3).mono
  fun e w' (h:_∧_∧_∧_)=>(⟨h.1,Or.inr (by rw [Lib.byteCells_append];exact h.2.1),h.2.2.1,h.2.2.2⟩:e=.returned (.tuple #[.int .i64 (bts s).size,.nilIface])∧Bld b (l'++s) w'∧Below b W w'∧Lib.OthersKept 5 (some b) W w'))
 have HG:=Lib.hid hg
 have HX:=Lib.hid hxs
 have HXL:=Lib.hid hx
 have HB:=Lib.hid hB
 have hblt:=hB.lt
 clear hg hxs hx hB
 go_enter Tryz.func64,Tryz.ntmps64
 go_wp2_with fail
 go_loopg [8] n (fun gg v8 wr=>∃ k:Nat,k≤n∧gg=n - k∧v8=.int .i64 k∧Bld b (l++cat ((List.range k).map xs)) wr∧Below b w wr∧Lib.OthersKept 5 (some b) w wr)
 case atStart=>exact ⟨0,by omega,rfl,rfl,by simpa [cat] using HB.out,Below.refl _ _,Lib.OthersKept.refl _ _ _⟩
 case round=>
  obtain ⟨k,hk,rfl,rfl,hb,hbe,ho⟩:=hrel
  have H1:=Lib.hid hb
  have H2:=Lib.hid hbe
  have H3:=Lib.hid ho
  clear hb hbe ho
  by_cases hlt:k<n
  ·have hlt':(k:Int)<(n:Int):=by omega
   have hgr:=H3.out g _ HG.out (by simpa using hgb) (by rintro c' f' e;cases e;exact hty rfl)
   have hgl:g<wr.heap.size:=(Array.getElem?_eq_some_iff.1 hgr).1
   have hc:wr.cell? ⟨g,k,none⟩=some (.string (bts (xs k))):=by
    simp [World.cell?,hgr,HX.out k hlt]
   clear hgr
   have hs:=HS.out wr _ (xs k) H1.out (by have:=cat_len xs 100000000 k (fun j hj=>HXL.out j (by omega));have:k*100000000≤1000*100000000:=Nat.mul_le_mul_right _ (by omega);rw [List.length_append];omega) (HXL.out k hlt) (Nat.le_of_lt H1.out.lt)
   have HSS:=Lib.hid hs
   clear hs
   go_wp2_with (go_at_call 107;refine HSS.out.mono ?_;rintro e w2 ⟨rfl,h1,h2,h3⟩;have K1:=Lib.hid h1;have K2:=Lib.hid h2;have K3:=Lib.hid h3;clear h1 h2 h3)
   go_roundg (n - (k+1))
   case rel=>exact ⟨k+1,by omega,rfl,by go_num,by rw [List.range_succ,List.map_append,cat_append,←List.append_assoc];simpa [cat] using K1.out,H2.out.trans K2.out,H3.out.trans K3.out⟩
   case measure=>omega
  ·have hlt':decide ((k:Int)<(n:Int))=false:=decide_eq_false (by omega)
   obtain rfl:k=n:=by omega
   go_wp2_with fail
   exact Go.Great.bodyPost_end0 rfl rfl ⟨rfl,H1.out,H2.out,H3.out⟩
end Go.Proofs.YtmhapcnlpoilpaaGreatDoor
