/- Contracts and laws in plain Lean for RApp: group T65. -/
import Derived.Test.YtlfdfkbmollaaaaGreatDoorT01
import Derived.Test.YtlfdfkbmollaaaaGreatDoorT63
import Derived.Lib.SmallJoins
import Derived.Great.Walk
namespace Go.Proofs.YtlfdfkbmollaaaaGreatDoor
open Go.RowKit Go.Shelf
attribute [local go_sem] Oper.semAt_some
def Tb (w : World) : Prop := Lib.TabIs Tryz.prog w "internal/strconv.uint64pow10" .u64 Lib.pow10Tab
theorem gPow : Tryz.prog.globalNamed "internal/strconv.uint64pow10" = some 2 := by kernel_rfl
theorem Tb.ext {w w':World} (h:Tb w) (x:Ext w w'):Tb w':=by
 exact Go.Joins.tab_stays gPow h x (Nat.le_refl _)
theorem ext_regrow (w:World) (k:Nat) (os:Array Obj):Ext w (Sort.grow (w.drewN k) os):=by
 refine ⟨rfl,rfl,rfl,?_,fun j hj=>?_⟩
 ·show w.heap.size≤(Array.size _);simp [World.drewN]
 ·show ((w.drewN k).heap++os)[j]?=_;rw [Array.getElem?_append_left (by simpa [World.drewN] using hj)];rfl
def bts (l:List UInt8):ByteArray:=⟨l.toArray⟩
theorem bts_size (l:List UInt8):(bts l).size=l.length:=by simp [bts,ByteArray.size]
theorem bts_append (a b:List UInt8):bts a++bts b=bts (a++b):=by
 apply ByteArray.ext
 simp [bts,ByteArray.data_append]
theorem decDigits_len (u:Nat):(Lib.decDigits u).length≤u+1:=by
 induction u using Nat.strongRecOn with
 | ind u ih =>
  rw [Lib.decDigits]
  by_cases h:u<10
  ·rw [dif_pos h];simp
  ·rw [dif_neg h];have:=ih (u / 10) (by omega);simp;omega
theorem itoa_len (n:Int) (h:0≤n):(Lib.itoa n).length≤n.toNat+1:=by
 unfold Lib.itoa;rw [if_neg (by omega)];exact decDigits_len _
theorem itoa_any (n : Int) (h0 : -9223372036854775808 ≤ n) (h1 : n ≤ 9223372036854775807) (w : World) (ht : Tb w) :
    Calls Tryz.prog 104 #[.int .i64 n] w fun e w'=>e=.returned (.string (bts (Lib.itoa n)))∧Ext w w':=
 (Tryz.strconv_Itoa n h0 h1 w ht).mono fun _ _ ⟨he,k,os,hw⟩=>⟨he,hw▸ext_regrow w k os⟩
def Bld (b:Nat) (l:List UInt8) (w:World):Prop:=Lib.IsBuilderF 103 5 b b (Lib.byteCells l) w
theorem Bld.lt {b:Nat} {l:List UInt8} {w:World} (h:Bld b l w):b<w.heap.size:=by
 rcases h with h | h <;> exact h.lt
theorem Bld.ext {b:Nat} {l:List UInt8} {w w':World} (h:Bld b l w) (x:Ext w w'):Bld b l w':=by
 rcases h with ⟨hB,v,hb,hown,hne⟩ | ⟨hB,v,hb,hown,hne⟩
 ·have hbl:b<w.heap.size:=(Array.getElem?_eq_some_iff.1 hb).1
  exact .inl ⟨hB,v,by rw [x.block b hbl];exact hb,hown.kept (row:=none) ⟨x.os,x.tape,x.output,x.size,fun k hk _=>x.block k hk⟩ (Classical.em _),hne⟩
 ·have hbl:b<w.heap.size:=(Array.getElem?_eq_some_iff.1 hb).1
  exact .inr ⟨hB,v,by rw [x.block b hbl];exact hb,hown.kept (row:=none) ⟨x.os,x.tape,x.output,x.size,fun k hk _=>x.block k hk⟩ (Classical.em _),hne⟩
end Go.Proofs.YtlfdfkbmollaaaaGreatDoor
