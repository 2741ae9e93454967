/- Contracts and laws in plain Lean for RApp: group T02. -/
import Derived.Test.YtlfdfkbmollaaaaGreatDoorT01
import Derived.Shelf.Abstract
namespace Go.Proofs.YtlfdfkbmollaaaaGreatDoor
open Go.RowKit Go.Shelf
def anyB (p:Nat→Bool):Nat→Bool
 | 0 => false
 | n+1 => anyB p n || p n
def NoneB (p:Nat→Bool) (k:Nat):Prop:=∀ i,i<k→p i=false
theorem NoneB.zero (p:Nat→Bool):NoneB p 0:=fun _ h=>absurd h (Nat.not_lt_zero _)
theorem NoneB.succ {p:Nat→Bool} {k:Nat} (h:NoneB p k) (hk:p k=false):NoneB p (k+1):=fun i hi=>by
 by_cases e:i=k
 ·rw [e];exact hk
 ·exact h i (by omega)
def idxFrom (p:Nat→Bool):Nat→Nat→Int
 | 0,_ => -1
 | f+1,i => if p i then i else idxFrom p f (i+1)
def idxI (p:Nat→Bool) (n:Nat):Int:=idxFrom p n 0
theorem idxFrom_none {p:Nat→Bool}:∀ (f i:Nat),(∀ j,i≤j→j<i+f→p j=false)→idxFrom p f i=-1
 | 0,_,_ => rfl
 | f+1,i,h => by
  rw [idxFrom,h i (Nat.le_refl _) (by omega)]
  simp only [Bool.false_eq_true,if_false]
  exact idxFrom_none f (i+1) (fun j h1 h2=>h j (by omega) (by omega))
theorem idxFrom_hit {p:Nat→Bool}:∀ (f i k:Nat),i≤k→k<i+f→p k=true→(∀ j,i≤j→j<k→p j=false)→idxFrom p f i=k
 | 0,_,_,h1,h2,_,_ => by omega
 | f+1,i,k,h1,h2,hp,h => by
  rw [idxFrom]
  by_cases e:i=k
  ·subst e;rw [hp];rfl
  ·rw [h i (Nat.le_refl _) (by omega)]
   simp only [Bool.false_eq_true,if_false]
   exact idxFrom_hit f (i+1) k (by omega) (by omega) hp (fun j h1 h2=>h j (by omega) h2)
theorem idxI_none {p:Nat→Bool} {n:Nat} (h:NoneB p n):idxI p n=-1:=idxFrom_none n 0 (fun j _ h2=>h j (by omega))
theorem idxI_hit {p:Nat→Bool} {n k:Nat} (hk:k<n) (hp:p k=true) (h:NoneB p k):idxI p n=k:=idxFrom_hit n 0 k (by omega) (by omega) hp (fun j _ h2=>h j h2)
theorem anyB_none {p:Nat→Bool} {n:Nat} (h:NoneB p n):anyB p n=false:=by
 induction n with
 | zero => rfl
 | succ n ih => simp [anyB,ih (fun i hi => h i (by omega)),h n (by omega)]
theorem anyB_hit {p:Nat→Bool} {n k:Nat} (hk:k<n) (hp:p k=true):anyB p n=true:=by
 induction n with
 | zero => omega
 | succ n ih =>
  by_cases e:k=n
  ·subst e;simp [anyB,hp]
  ·simp [anyB,ih (by omega)]
theorem noneB_or_first (p:Nat→Bool) (n:Nat):NoneB p n∨∃ k,k<n∧p k=true∧NoneB p k:=by
 induction n with
 | zero => exact .inl (NoneB.zero p)
 | succ n ih =>
  rcases ih with h | ⟨k,h1,h2,h3⟩
  ·cases e:p n with
   | true => exact .inr ⟨n,by omega,e,h⟩
   | false => exact .inl (h.succ e)
  ·exact .inr ⟨k,by omega,h2,h3⟩
theorem idxI_anyB (p:Nat→Bool) (n:Nat):decide (0≤idxI p n)=anyB p n:=by
 rcases noneB_or_first p n with h | ⟨k,h1,h2,h3⟩
 ·rw [idxI_none h,anyB_none h];rfl
 ·rw [idxI_hit h1 h2 h3,anyB_hit h1 h2];simp
theorem anyB_iff {p:Nat→Bool} {n:Nat}:anyB p n=true↔∃ i,i<n∧p i=true:=by
 constructor
 ·intro h
  rcases noneB_or_first p n with h' | ⟨k,h1,h2,_⟩
  ·rw [anyB_none h'] at h;cases h
  ·exact ⟨k,h1,h2⟩
 ·rintro ⟨i,h1,h2⟩;exact anyB_hit h1 h2
theorem anyB_false_iff {p:Nat→Bool} {n:Nat}:anyB p n=false↔∀ i,i<n→p i=false:=by
 constructor
 ·intro h i hi
  cases e:p i with
  | false => rfl
  | true => rw [anyB_hit hi e] at h;cases h
 ·exact anyB_none
theorem idx_Proc (w : World) (a : Option Addr) (b off n cap : Nat) (c0 c1 c2 : Nat → Value) (g : Nat) (lb : Array Value) (p : Nat → Bool)
    (hn:n≤140737488355328) (ha:0<n→a=some ⟨b,off,none⟩)
    (l0:∀ w',Ext w w'→∀ i,i<n→w'.cell? ⟨b,off+i*3,none⟩=some (c0 i))
    (l1:∀ w',Ext w w'→∀ i,i<n→w'.cell? ⟨b,off+i*3+1,none⟩=some (c1 i))
    (l2:∀ w',Ext w w'→∀ i,i<n→w'.cell? ⟨b,off+i*3+2,none⟩=some (c2 i))
    (eg:Enters Tryz.prog g)
    (hp:∀ i,i<n→∀ w',Ext w w'→Calls Tryz.prog g (#[.agg #[c0 i,c1 i,c2 i]]++lb) w' fun e w''=>e=.returned (.bool (p i))∧Ext w' w'') :
    Calls Tryz.prog 227 #[.slice a n cap,.func (.func g) #[] lb] w fun e w'=>e=.returned (.int .i64 (idxI p n))∧Ext w w':=by
 have HP:=Lib.hid hp
 clear hp
 go_enter Tryz.func227,Tryz.ntmps227
 go_wp2
 go_loopw [8] (fun v wr=>∃ k:Nat,k≤n∧v=.int .i64 k∧Ext w wr∧NoneB p k) (fun v _=>n - (intOf v).toNat)
 case atStart=>exact ⟨0,Nat.zero_le _,rfl,Ext.refl _,NoneB.zero _⟩
 case round=>
  obtain ⟨k,hk,rfl,hx,hN⟩:=hrel
  have HN:=Lib.hid hN
  clear hN
  by_cases hlt:k<n
  ·obtain rfl:=ha (by omega)
   have hc:=HP.out k hlt wr hx
   unfold Enters at eg
   cases hq:p k with
   | true =>
    rw [hq] at hc
    go_wp2_with (go_at_fn g;refine hc.mono ?_;rintro e w' ⟨rfl,hx'⟩)
    go_ret
    exact ⟨ret_int (idxI_hit hlt hq HN.out).symm,hx.trans hx'⟩
   | false =>
    rw [hq] at hc
    go_wp2_with (go_at_fn g;refine hc.mono ?_;rintro e w' ⟨rfl,hx'⟩)
    go_roundw
    case rel=>exact ⟨k+1,by omega,by go_num,hx.trans hx',HN.out.succ hq⟩
    case measure=>simp [intOf];omega
  ·have HN':=Lib.hid (show NoneB p n from fun i hi=>HN.out i (by omega))
   go_wp2
   go_ret
   exact ⟨ret_int (idxI_none HN'.out).symm,hx⟩
theorem has_Proc (w : World) (a : Option Addr) (b off n cap : Nat) (c0 c1 c2 : Nat → Value) (g : Nat) (lb : Array Value) (p : Nat → Bool)
    (hn:n≤140737488355328) (ha:0<n→a=some ⟨b,off,none⟩)
    (l0:∀ w',Ext w w'→∀ i,i<n→w'.cell? ⟨b,off+i*3,none⟩=some (c0 i))
    (l1:∀ w',Ext w w'→∀ i,i<n→w'.cell? ⟨b,off+i*3+1,none⟩=some (c1 i))
    (l2:∀ w',Ext w w'→∀ i,i<n→w'.cell? ⟨b,off+i*3+2,none⟩=some (c2 i))
    (eg:Enters Tryz.prog g)
    (hp:∀ i,i<n→∀ w',Ext w w'→Calls Tryz.prog g (#[.agg #[c0 i,c1 i,c2 i]]++lb) w' fun e w''=>e=.returned (.bool (p i))∧Ext w' w'') :
    Calls Tryz.prog 176 #[.slice a n cap,.func (.func g) #[] lb] w fun e w'=>e=.returned (.bool (anyB p n))∧Ext w w':=by
 have hc:=idx_Proc w a b off n cap c0 c1 c2 g lb p hn ha l0 l1 l2 eg hp
 have HI:=Lib.hid (idxI_anyB p n)
 clear hp l0 l1 l2 ha eg
 go_enter Tryz.func176,Tryz.ntmps176
 go_wp2_with (go_at_call 227;refine hc.mono ?_;rintro e w' ⟨rfl,hx'⟩)
 go_ret
 exact ⟨ret_bool HI.out,hx'⟩
theorem idx_Event (w : World) (a : Option Addr) (b off n cap : Nat) (c0 c1 c2 c3 c4 : Nat → Value) (g : Nat) (lb : Array Value) (p : Nat → Bool)
    (hn:n≤140737488355328) (ha:0<n→a=some ⟨b,off,none⟩)
    (l0:∀ w',Ext w w'→∀ i,i<n→w'.cell? ⟨b,off+i*5,none⟩=some (c0 i))
    (l1:∀ w',Ext w w'→∀ i,i<n→w'.cell? ⟨b,off+i*5+1,none⟩=some (c1 i))
    (l2:∀ w',Ext w w'→∀ i,i<n→w'.cell? ⟨b,off+i*5+2,none⟩=some (c2 i))
    (l3:∀ w',Ext w w'→∀ i,i<n→w'.cell? ⟨b,off+i*5+3,none⟩=some (c3 i))
    (l4:∀ w',Ext w w'→∀ i,i<n→w'.cell? ⟨b,off+i*5+4,none⟩=some (c4 i))
    (eg:Enters Tryz.prog g)
    (hp:∀ i,i<n→∀ w',Ext w w'→Calls Tryz.prog g (#[.agg #[c0 i,c1 i,c2 i,c3 i,c4 i]]++lb) w' fun e w''=>e=.returned (.bool (p i))∧Ext w' w'') :
    Calls Tryz.prog 82 #[.slice a n cap,.func (.func g) #[] lb] w fun e w'=>e=.returned (.int .i64 (idxI p n))∧Ext w w':=by
 have HP:=Lib.hid hp
 clear hp
 go_enter Tryz.func82,Tryz.ntmps82
 go_wp2
 go_loopw [8] (fun v wr=>∃ k:Nat,k≤n∧v=.int .i64 k∧Ext w wr∧NoneB p k) (fun v _=>n - (intOf v).toNat)
 case atStart=>exact ⟨0,Nat.zero_le _,rfl,Ext.refl _,NoneB.zero _⟩
 case round=>
  obtain ⟨k,hk,rfl,hx,hN⟩:=hrel
  have HN:=Lib.hid hN
  clear hN
  by_cases hlt:k<n
  ·obtain rfl:=ha (by omega)
   have hc:=HP.out k hlt wr hx
   unfold Enters at eg
   cases hq:p k with
   | true =>
    rw [hq] at hc
    go_wp2_with (go_at_fn g;refine hc.mono ?_;rintro e w' ⟨rfl,hx'⟩)
    go_ret
    exact ⟨ret_int (idxI_hit hlt hq HN.out).symm,hx.trans hx'⟩
   | false =>
    rw [hq] at hc
    go_wp2_with (go_at_fn g;refine hc.mono ?_;rintro e w' ⟨rfl,hx'⟩)
    go_roundw
    case rel=>exact ⟨k+1,by omega,by go_num,hx.trans hx',HN.out.succ hq⟩
    case measure=>simp [intOf];omega
  ·have HN':=Lib.hid (show NoneB p n from fun i hi=>HN.out i (by omega))
   go_wp2
   go_ret
   exact ⟨ret_int (idxI_none HN'.out).symm,hx⟩
theorem has_Event (w : World) (a : Option Addr) (b off n cap : Nat) (c0 c1 c2 c3 c4 : Nat → Value) (g : Nat) (lb : Array Value) (p : Nat → Bool)
    (hn:n≤140737488355328) (ha:0<n→a=some ⟨b,off,none⟩)
    (l0:∀ w',Ext w w'→∀ i,i<n→w'.cell? ⟨b,off+i*5,none⟩=some (c0 i))
    (l1:∀ w',Ext w w'→∀ i,i<n→w'.cell? ⟨b,off+i*5+1,none⟩=some (c1 i))
    (l2:∀ w',Ext w w'→∀ i,i<n→w'.cell? ⟨b,off+i*5+2,none⟩=some (c2 i))
    (l3:∀ w',Ext w w'→∀ i,i<n→w'.cell? ⟨b,off+i*5+3,none⟩=some (c3 i))
    (l4:∀ w',Ext w w'→∀ i,i<n→w'.cell? ⟨b,off+i*5+4,none⟩=some (c4 i))
    (eg:Enters Tryz.prog g)
    (hp:∀ i,i<n→∀ w',Ext w w'→Calls Tryz.prog g (#[.agg #[c0 i,c1 i,c2 i,c3 i,c4 i]]++lb) w' fun e w''=>e=.returned (.bool (p i))∧Ext w' w'') :
    Calls Tryz.prog 32 #[.slice a n cap,.func (.func g) #[] lb] w fun e w'=>e=.returned (.bool (anyB p n))∧Ext w w':=by
 have hc:=idx_Event w a b off n cap c0 c1 c2 c3 c4 g lb p hn ha l0 l1 l2 l3 l4 eg hp
 have HI:=Lib.hid (idxI_anyB p n)
 clear hp l0 l1 l2 l3 l4 ha eg
 go_enter Tryz.func32,Tryz.ntmps32
 go_wp2_with (go_at_call 82;refine hc.mono ?_;rintro e w' ⟨rfl,hx'⟩)
 go_ret
 exact ⟨ret_bool HI.out,hx'⟩
theorem idx_Var (w : World) (a : Option Addr) (b off n cap : Nat) (c0 c1 : Nat → Value) (g : Nat) (lb : Array Value) (p : Nat → Bool)
    (hn:n≤140737488355328) (ha:0<n→a=some ⟨b,off,none⟩)
    (l0:∀ w',Ext w w'→∀ i,i<n→w'.cell? ⟨b,off+i*2,none⟩=some (c0 i))
    (l1:∀ w',Ext w w'→∀ i,i<n→w'.cell? ⟨b,off+i*2+1,none⟩=some (c1 i))
    (eg:Enters Tryz.prog g)
    (hp:∀ i,i<n→∀ w',Ext w w'→Calls Tryz.prog g (#[.agg #[c0 i,c1 i]]++lb) w' fun e w''=>e=.returned (.bool (p i))∧Ext w' w'') :
    Calls Tryz.prog 228 #[.slice a n cap,.func (.func g) #[] lb] w fun e w'=>e=.returned (.int .i64 (idxI p n))∧Ext w w':=by
 have HP:=Lib.hid hp
 clear hp
 go_enter Tryz.func228,Tryz.ntmps228
 go_wp2
 go_loopw [8] (fun v wr=>∃ k:Nat,k≤n∧v=.int .i64 k∧Ext w wr∧NoneB p k) (fun v _=>n - (intOf v).toNat)
 case atStart=>exact ⟨0,Nat.zero_le _,rfl,Ext.refl _,NoneB.zero _⟩
 case round=>
  obtain ⟨k,hk,rfl,hx,hN⟩:=hrel
  have HN:=Lib.hid hN
  clear hN
  by_cases hlt:k<n
  ·obtain rfl:=ha (by omega)
   have hc:=HP.out k hlt wr hx
   unfold Enters at eg
   cases hq:p k with
   | true =>
    rw [hq] at hc
    go_wp2_with (go_at_fn g;refine hc.mono ?_;rintro e w' ⟨rfl,hx'⟩)
    go_ret
    exact ⟨ret_int (idxI_hit hlt hq HN.out).symm,hx.trans hx'⟩
   | false =>
    rw [hq] at hc
    go_wp2_with (go_at_fn g;refine hc.mono ?_;rintro e w' ⟨rfl,hx'⟩)
    go_roundw
    case rel=>exact ⟨k+1,by omega,by go_num,hx.trans hx',HN.out.succ hq⟩
    case measure=>simp [intOf];omega
  ·have HN':=Lib.hid (show NoneB p n from fun i hi=>HN.out i (by omega))
   go_wp2
   go_ret
   exact ⟨ret_int (idxI_none HN'.out).symm,hx⟩
theorem has_Var (w : World) (a : Option Addr) (b off n cap : Nat) (c0 c1 : Nat → Value) (g : Nat) (lb : Array Value) (p : Nat → Bool)
    (hn:n≤140737488355328) (ha:0<n→a=some ⟨b,off,none⟩)
    (l0:∀ w',Ext w w'→∀ i,i<n→w'.cell? ⟨b,off+i*2,none⟩=some (c0 i))
    (l1:∀ w',Ext w w'→∀ i,i<n→w'.cell? ⟨b,off+i*2+1,none⟩=some (c1 i))
    (eg:Enters Tryz.prog g)
    (hp:∀ i,i<n→∀ w',Ext w w'→Calls Tryz.prog g (#[.agg #[c0 i,c1 i]]++lb) w' fun e w''=>e=.returned (.bool (p i))∧Ext w' w'') :
    Calls Tryz.prog 178 #[.slice a n cap,.func (.func g) #[] lb] w fun e w'=>e=.returned (.bool (anyB p n))∧Ext w w':=by
 have hc:=idx_Var w a b off n cap c0 c1 g lb p hn ha l0 l1 eg hp
 have HI:=Lib.hid (idxI_anyB p n)
 clear hp l0 l1 ha eg
 go_enter Tryz.func178,Tryz.ntmps178
 go_wp2_with (go_at_call 228;refine hc.mono ?_;rintro e w' ⟨rfl,hx'⟩)
 go_ret
 exact ⟨ret_bool HI.out,hx'⟩
theorem idx_Assign (w : World) (a : Option Addr) (b off n cap : Nat) (c0 c1 : Nat → Value) (g : Nat) (lb : Array Value) (p : Nat → Bool)
    (hn:n≤140737488355328) (ha:0<n→a=some ⟨b,off,none⟩)
    (l0:∀ w',Ext w w'→∀ i,i<n→w'.cell? ⟨b,off+i*2,none⟩=some (c0 i))
    (l1:∀ w',Ext w w'→∀ i,i<n→w'.cell? ⟨b,off+i*2+1,none⟩=some (c1 i))
    (eg:Enters Tryz.prog g)
    (hp:∀ i,i<n→∀ w',Ext w w'→Calls Tryz.prog g (#[.agg #[c0 i,c1 i]]++lb) w' fun e w''=>e=.returned (.bool (p i))∧Ext w' w'') :
    Calls Tryz.prog 229 #[.slice a n cap,.func (.func g) #[] lb] w fun e w'=>e=.returned (.int .i64 (idxI p n))∧Ext w w':=by
 have HP:=Lib.hid hp
 clear hp
 go_enter Tryz.func229,Tryz.ntmps229
 go_wp2
 go_loopw [8] (fun v wr=>∃ k:Nat,k≤n∧v=.int .i64 k∧Ext w wr∧NoneB p k) (fun v _=>n - (intOf v).toNat)
 case atStart=>exact ⟨0,Nat.zero_le _,rfl,Ext.refl _,NoneB.zero _⟩
 case round=>
  obtain ⟨k,hk,rfl,hx,hN⟩:=hrel
  have HN:=Lib.hid hN
  clear hN
  by_cases hlt:k<n
  ·obtain rfl:=ha (by omega)
   have hc:=HP.out k hlt wr hx
   unfold Enters at eg
   cases hq:p k with
   | true =>
    rw [hq] at hc
    go_wp2_with (go_at_fn g;refine hc.mono ?_;rintro e w' ⟨rfl,hx'⟩)
    go_ret
    exact ⟨ret_int (idxI_hit hlt hq HN.out).symm,hx.trans hx'⟩
   | false =>
    rw [hq] at hc
    go_wp2_with (go_at_fn g;refine hc.mono ?_;rintro e w' ⟨rfl,hx'⟩)
    go_roundw
    case rel=>exact ⟨k+1,by omega,by go_num,hx.trans hx',HN.out.succ hq⟩
    case measure=>simp [intOf];omega
  ·have HN':=Lib.hid (show NoneB p n from fun i hi=>HN.out i (by omega))
   go_wp2
   go_ret
   exact ⟨ret_int (idxI_none HN'.out).symm,hx⟩
theorem has_Assign (w : World) (a : Option Addr) (b off n cap : Nat) (c0 c1 : Nat → Value) (g : Nat) (lb : Array Value) (p : Nat → Bool)
    (hn:n≤140737488355328) (ha:0<n→a=some ⟨b,off,none⟩)
    (l0:∀ w',Ext w w'→∀ i,i<n→w'.cell? ⟨b,off+i*2,none⟩=some (c0 i))
    (l1:∀ w',Ext w w'→∀ i,i<n→w'.cell? ⟨b,off+i*2+1,none⟩=some (c1 i))
    (eg:Enters Tryz.prog g)
    (hp:∀ i,i<n→∀ w',Ext w w'→Calls Tryz.prog g (#[.agg #[c0 i,c1 i]]++lb) w' fun e w''=>e=.returned (.bool (p i))∧Ext w' w'') :
    Calls Tryz.prog 182 #[.slice a n cap,.func (.func g) #[] lb] w fun e w'=>e=.returned (.bool (anyB p n))∧Ext w w':=by
 have hc:=idx_Assign w a b off n cap c0 c1 g lb p hn ha l0 l1 eg hp
 have HI:=Lib.hid (idxI_anyB p n)
 clear hp l0 l1 ha eg
 go_enter Tryz.func182,Tryz.ntmps182
 go_wp2_with (go_at_call 229;refine hc.mono ?_;rintro e w' ⟨rfl,hx'⟩)
 go_ret
 exact ⟨ret_bool HI.out,hx'⟩
theorem idx_Ints (w : World) (a : Option Addr) (b off n cap : Nat) (c0 : Nat → Value) (g : Nat) (lb : Array Value) (p : Nat → Bool)
    (hn:n≤140737488355328) (ha:0<n→a=some ⟨b,off,none⟩)
    (l0:∀ w',Ext w w'→∀ i,i<n→w'.cell? ⟨b,off+i,none⟩=some (c0 i))
    (eg:Enters Tryz.prog g)
    (hp:∀ i,i<n→∀ w',Ext w w'→Calls Tryz.prog g (#[c0 i]++lb) w' fun e w''=>e=.returned (.bool (p i))∧Ext w' w'') :
    Calls Tryz.prog 102 #[.slice a n cap,.func (.func g) #[] lb] w fun e w'=>e=.returned (.int .i64 (idxI p n))∧Ext w w':=by
 have HP:=Lib.hid hp
 clear hp
 go_enter Tryz.func102,Tryz.ntmps102
 go_wp2
 go_loopw [8] (fun v wr=>∃ k:Nat,k≤n∧v=.int .i64 k∧Ext w wr∧NoneB p k) (fun v _=>n - (intOf v).toNat)
 case atStart=>exact ⟨0,Nat.zero_le _,rfl,Ext.refl _,NoneB.zero _⟩
 case round=>
  obtain ⟨k,hk,rfl,hx,hN⟩:=hrel
  have HN:=Lib.hid hN
  clear hN
  by_cases hlt:k<n
  ·obtain rfl:=ha (by omega)
   have hc:=HP.out k hlt wr hx
   unfold Enters at eg
   cases hq:p k with
   | true =>
    rw [hq] at hc
    go_wp2_with (go_at_fn g;refine hc.mono ?_;rintro e w' ⟨rfl,hx'⟩)
    go_ret
    exact ⟨ret_int (idxI_hit hlt hq HN.out).symm,hx.trans hx'⟩
   | false =>
    rw [hq] at hc
    go_wp2_with (go_at_fn g;refine hc.mono ?_;rintro e w' ⟨rfl,hx'⟩)
    go_roundw
    case rel=>exact ⟨k+1,by omega,by go_num,hx.trans hx',HN.out.succ hq⟩
    case measure=>simp [intOf];omega
  ·have HN':=Lib.hid (show NoneB p n from fun i hi=>HN.out i (by omega))
   go_wp2
   go_ret
   exact ⟨ret_int (idxI_none HN'.out).symm,hx⟩
theorem has_Ints (w : World) (a : Option Addr) (b off n cap : Nat) (c0 : Nat → Value) (g : Nat) (lb : Array Value) (p : Nat → Bool)
    (hn:n≤140737488355328) (ha:0<n→a=some ⟨b,off,none⟩)
    (l0:∀ w',Ext w w'→∀ i,i<n→w'.cell? ⟨b,off+i,none⟩=some (c0 i))
    (eg:Enters Tryz.prog g)
    (hp:∀ i,i<n→∀ w',Ext w w'→Calls Tryz.prog g (#[c0 i]++lb) w' fun e w''=>e=.returned (.bool (p i))∧Ext w' w'') :
    Calls Tryz.prog 48 #[.slice a n cap,.func (.func g) #[] lb] w fun e w'=>e=.returned (.bool (anyB p n))∧Ext w w':=by
 have hc:=idx_Ints w a b off n cap c0 g lb p hn ha l0 eg hp
 have HI:=Lib.hid (idxI_anyB p n)
 clear hp l0 ha eg
 go_enter Tryz.func48,Tryz.ntmps48
 go_wp2_with (go_at_call 102;refine hc.mono ?_;rintro e w' ⟨rfl,hx'⟩)
 go_ret
 exact ⟨ret_bool HI.out,hx'⟩
end Go.Proofs.YtlfdfkbmollaaaaGreatDoor

namespace Go.Proofs.YtlfdfkbmollaaaaGreatDoor
open Go.RowKit
def strEq (s t:ByteArray):Bool:=s.toList == t.toList
set_option maxHeartbeats 400000 in
theorem processFault1 (w : World) (s nm : ByteArray) (v1 v2 : Value) (bx : Nat) (hc : w.cell? ⟨bx, 0, none⟩ = some (.string nm)) :
    Calls Tryz.prog 177 #[.agg #[.string s,v1,v2],.pointer (some ⟨bx,0,none⟩)] w fun e w'=>e=.returned (.bool (strEq s nm))∧Ext w w':=by
 have hlt:=cell_lt hc
 dsimp only at hlt
 go_enter Tryz.func177,Tryz.ntmps177
 go_wp2
 go_ret
 exact ⟨ret_bool (by simp [strEq]),Ext.alloc _ _⟩
set_option maxHeartbeats 400000 in
theorem processFault2 (w : World) (s nm : ByteArray) (v1 : Value) (bx : Nat) (hc : w.cell? ⟨bx, 0, none⟩ = some (.string nm)) :
    Calls Tryz.prog 179 #[.agg #[.string s,v1],.pointer (some ⟨bx,0,none⟩)] w fun e w'=>e=.returned (.bool (strEq s nm))∧Ext w w':=by
 have hlt:=cell_lt hc
 dsimp only at hlt
 go_enter Tryz.func179,Tryz.ntmps179
 go_wp2
 go_ret
 exact ⟨ret_bool (by simp [strEq]),Ext.alloc _ _⟩
set_option maxHeartbeats 400000 in
theorem eventFault1 (w : World) (v x : Int) (v1 : Value) (bx : Nat) (hc : w.cell? ⟨bx, 0, none⟩ = some (.int .i64 x)) :
    Calls Tryz.prog 183 #[.agg #[.int .i64 v,v1],.pointer (some ⟨bx,0,none⟩)] w fun e w'=>e=.returned (.bool (v == x))∧Ext w w':=by
 have hlt:=cell_lt hc
 dsimp only at hlt
 go_enter Tryz.func183,Tryz.ntmps183
 go_wp2
 go_ret
 exact ⟨rfl,Ext.alloc _ _⟩
set_option maxHeartbeats 400000 in
theorem sends1 (w : World) (kind peer msg m q : Int) (v3 v4 : Value) (bm bt : Nat) (hm : w.cell? ⟨bm, 0, none⟩ = some (.int .i64 m)) (ht : w.cell? ⟨bt, 0, none⟩ = some (.int .i64 q)) :
    Calls Tryz.prog 230 #[.agg #[.int .i64 kind,.int .i64 peer,.int .i64 msg,v3,v4],.pointer (some ⟨bm,0,none⟩),.pointer (some ⟨bt,0,none⟩)] w fun e w'=>e=.returned (.bool (decide (kind=2) && decide (msg=m) && decide (peer=q)))∧Ext w w':=by
 have hlt:=cell_lt hm
 have hlt':=cell_lt ht
 dsimp only at hlt hlt'
 go_enter Tryz.func230,Tryz.ntmps230
 go_wp2
 all_goals go_ret
 all_goals refine ⟨ret_bool ?_,Ext.alloc _ _⟩
 all_goals (rw [Bool.eq_iff_iff];simp;try omega)
end Go.Proofs.YtlfdfkbmollaaaaGreatDoor

namespace Go.Proofs.YtlfdfkbmollaaaaGreatDoor
open Go.RowKit
def letterB (c:Int):Bool:=(decide (97≤c) && decide (c≤122)) || (decide (65≤c) && decide (c≤90))
def digitB (c:Int):Bool:=decide (48≤c) && decide (c≤57)
def inB (x low high:Int):Bool:=decide (low≤x) && decide (x≤high)
set_option maxHeartbeats 400000 in
theorem letter_any (c : Int) (w : World) :
    Calls Tryz.prog 225 #[.int .u8 c] w fun e w'=>e=.returned (.bool (letterB c))∧w=w':=by
 go_enter Tryz.func225,Tryz.ntmps225
 go_wp2
 all_goals go_ret
 all_goals refine ⟨ret_bool ?_,rfl⟩
 all_goals (rw [Bool.eq_iff_iff];simp [letterB];try omega)
set_option maxHeartbeats 400000 in
theorem digit_any (c : Int) (w : World) :
    Calls Tryz.prog 226 #[.int .u8 c] w fun e w'=>e=.returned (.bool (digitB c))∧w=w':=by
 go_enter Tryz.func226,Tryz.ntmps226
 go_wp2
 all_goals go_ret
 all_goals refine ⟨ret_bool ?_,rfl⟩
 all_goals (rw [Bool.eq_iff_iff];simp [digitB];try omega)
set_option maxHeartbeats 400000 in
theorem in_any (x low high : Int) (w : World) :
    Calls Tryz.prog 129 #[.int .i64 x,.int .i64 low,.int .i64 high] w fun e w'=>e=.returned (.bool (inB x low high))∧w=w':=by
 go_enter Tryz.func129,Tryz.ntmps129
 go_wp2
 all_goals go_ret
 all_goals refine ⟨ret_bool ?_,rfl⟩
 all_goals (rw [Bool.eq_iff_iff];simp [inB];try omega)
def nameC (c:UInt8):Bool:=letterB c.toNat || digitB c.toNat || decide (c.toNat=95)
def nameB (s:ByteArray):Bool:=decide (1≤s.size) && decide (s.size≤16) && letterB (s.data.toList.headD 0).toNat && s.data.toList.all nameC
theorem take_all_snoc (s:ByteArray) (k:Nat) (h:k<s.size):(s.data.toList.take (k+1)).all nameC=((s.data.toList.take k).all nameC && nameC s[k]):=by
 rw [List.take_succ_eq_append_getElem (by simpa using h)];simp;rfl
theorem take_all_whole (s:ByteArray):(s.data.toList.take s.size).all nameC=s.data.toList.all nameC:=by
 rw [List.take_of_length_le (by simp)]
theorem all_false (s:ByteArray) (k:Nat) (h:k<s.size) (hc:nameC s[k]=false):s.data.toList.all nameC=false:=by
 rw [List.all_eq_false]
 exact ⟨s[k],by simp [ByteArray.getElem_eq_getElem_data],by simp [hc]⟩
theorem nameB_false_of_all (s:ByteArray) (h:s.data.toList.all nameC=false):nameB s=false:=by simp [nameB,h]
theorem head_get (s:ByteArray) (h:0<s.size):s.data.toList.headD 0=s[0]:=by
 obtain ⟨⟨l⟩⟩:=s
 cases l with
 | nil => exact absurd h (by decide)
 | cons x l => rfl
theorem nameB_true (s:ByteArray) (h0:0<s.size) (h1:s.size≤16) (h2:letterB s[0].toNat=true) (ha:s.data.toList.all nameC=true):nameB s=true:=by
 unfold nameB;rw [head_get s h0,h2,ha,decide_eq_true h1,decide_eq_true (show 1≤s.size from h0)];rfl
theorem nameB_head (s:ByteArray) (h0:0<s.size) (h2:letterB s[0].toNat=false):nameB s=false:=by
 unfold nameB;rw [head_get s h0,h2];simp
theorem nameC_no {c:UInt8} (h1:letterB c.toNat=false) (h2:¬digitB c.toNat=true) (h3:((c.toNat:Int) != 95)=true):nameC c=false:=by
 have:¬c.toNat=95:=by intro e;rw [e] at h3;simp at h3
 simp [nameC,h1,h2,this]
theorem nameC_yes {c:UInt8} (h3:((c.toNat:Int) != 95)=false):nameC c=true:=by
 have:c.toNat=95:=by simp at h3;omega
 simp [nameC,this]
theorem nameC_letter {c:UInt8} (h:letterB c.toNat=true):nameC c=true:=by simp [nameC,h]
theorem nameC_digit {c:UInt8} (h:digitB c.toNat=true):nameC c=true:=by simp [nameC,h]
theorem toList_size (s:ByteArray):s.toList.length=s.size:=by
 simp [ByteArray.toList_eq]
set_option maxRecDepth 10000 in
set_option maxHeartbeats 400000 in
theorem isName_any (s : ByteArray) (w : World) (hs : s.size ≤ 9223372036854775807) :
    Calls Tryz.prog 175 #[.string s] w fun e w'=>e=.returned (.bool (nameB s))∧w=w':=by
 by_cases h0:0<s.size
 ·have hl:=toList_size s
  have hne:s.toList.isEmpty=false:=by rw [List.isEmpty_eq_false_iff_exists_mem];cases h:s.toList with | nil=>(rw [h] at hl;simp at hl;omega) | cons x l=>exact ⟨x,by simp⟩
  have hne2:¬s.toList=[]:=by intro h;rw [h] at hne;simp at hne
  clear hl
  by_cases h1:s.size≤16
  ·cases h2:letterB s[0].toNat with
   | true =>
    have HA:=Lib.hid (take_all_whole s)
    go_enter Tryz.func175,Tryz.ntmps175
    go_wp2_with (go_at_call 225;refine (letter_any _ _).mono ?_;rintro e w' ⟨rfl,rfl⟩)
    go_loop [19] (fun i=>∃ k:Nat,k≤s.size∧i=.int .i64 k∧(s.data.toList.take k).all nameC=true) (fun i=>s.size - (intOf i).toNat)
    case atStart=>exact ⟨0,Nat.zero_le _,rfl,by simp⟩
    case round=>
     obtain ⟨k,hk,rfl,hall⟩:=hrel
     by_cases hlt:k<s.size
     ·have HT:=Lib.hid (take_all_snoc s k hlt)
      have HF:=Lib.hid (all_false s k hlt)
      have HL:=Lib.hid hall
      clear hall
      cases hA:letterB s[k].toNat with
      | true =>
       go_wp2_with (first | (go_at_call 225;refine (letter_any _ _).mono ?_;rintro e w' ⟨rfl,rfl⟩) | (go_at_call 226;refine (digit_any _ _).mono ?_;rintro e w' ⟨rfl,rfl⟩))
       go_round
       case rel=>exact ⟨k+1,by omega,by go_num,by rw [HT.out,HL.out,nameC_letter hA];rfl⟩
       case measure=>simp [intOf];omega
      | false =>
       go_wp2_with (first | (go_at_call 225;refine (letter_any _ _).mono ?_;rintro e w' ⟨rfl,rfl⟩) | (go_at_call 226;refine (digit_any _ _).mono ?_;rintro e w' ⟨rfl,rfl⟩))
       ·go_round
        case rel=>exact ⟨k+1,by omega,by go_num,by rw [HT.out,HL.out,nameC_digit ‹_›];rfl⟩
        case measure=>simp [intOf];omega
       ·go_ret
        exact ⟨ret_bool (nameB_false_of_all s (HF.out (nameC_no hA ‹_› ‹_›))).symm,rfl⟩
       ·go_round
        case rel=>exact ⟨k+1,by omega,by go_num,by rw [HT.out,HL.out,nameC_yes ‹_›];rfl⟩
        case measure=>simp [intOf];omega
     ·go_wp2
      go_ret
      have hkk:k=s.size:=by omega
      exact ⟨ret_bool (by rw [hkk,HA.out] at hall;exact (nameB_true s h0 h1 h2 hall).symm),rfl⟩
   | false =>
    go_enter Tryz.func175,Tryz.ntmps175
    go_wp2_with (go_at_call 225;refine (letter_any _ _).mono ?_;rintro e w' ⟨rfl,rfl⟩)
    go_ret
    exact ⟨ret_bool (nameB_head s h0 h2).symm,rfl⟩
  ·go_enter Tryz.func175,Tryz.ntmps175
   go_wp2
   go_ret
   exact ⟨ret_bool (by simp [nameB,h1]),rfl⟩
 ·have h00:s.size=0:=by omega
  have hl:=toList_size s
  have hne:s.toList=[]:=by rw [←List.length_eq_zero_iff];omega
  clear hl h00
  go_enter Tryz.func175,Tryz.ntmps175
  go_wp2
  go_ret
  exact ⟨ret_bool (by simp [nameB];omega),rfl⟩
end Go.Proofs.YtlfdfkbmollaaaaGreatDoor

namespace Go.Proofs.YtlfdfkbmollaaaaGreatDoor
open Go.RowKit Go.Shelf
def Tr.sendsB (T:Tr) (p:Nat) (m q:Int):Bool:=anyB (fun i=>decide (T.kind p i=2) && decide (T.msg p i=m) && decide (T.peer p i=q)) (T.en p)
theorem hasEv (w : World) (T : TM) (hT : T.At w) (p : Nat) (hp : p < T.n) (g : Nat) (lb : Array Value) (q : Nat → Bool) (eg : Enters Tryz.prog g)
    (hq:∀ i,i<T.en p→∀ w',Ext w w'→Calls Tryz.prog g (#[T.ev p i]++lb) w' fun e w''=>e=.returned (.bool (q i))∧Ext w' w'') :
    Calls Tryz.prog 32 #[.slice (T.ea p) (T.en p) (T.ec p),.func (.func g) #[] lb] w fun e w'=>e=.returned (.bool (anyB q (T.en p)))∧Ext w w':=
 has_Event w (T.ea p) (T.eb p) (T.eo p) (T.en p) (T.ec p) (fun i=>.int .i64 (T.kind p i)) (fun i=>.int .i64 (T.peer p i)) (fun i=>.int .i64 (T.msg p i)) (fun i=>.int .i64 (T.time p i)) (fun i=>.slice (T.aa p i) (T.an p i) (T.ac p i))
  g lb q (hT.E.he p hp) (hT.E.ea p hp) (fun w' hx i hi=>hT.E.e0 w' hx p i hp hi) (fun w' hx i hi=>hT.E.e1 w' hx p i hp hi) (fun w' hx i hi=>hT.E.e2 w' hx p i hp hi) (fun w' hx i hi=>hT.E.e3 w' hx p i hp hi) (fun w' hx i hi=>hT.E.e4 w' hx p i hp hi) eg hq
set_option maxRecDepth 100000 in
set_option maxHeartbeats 400000 in
theorem sends_any (w : World) (T : TM) (hT : T.At w) (p : Nat) (hp : p < T.n) (m q : Int) :
    Calls Tryz.prog 184 #[T.val,.int .i64 p,.int .i64 m,.int .i64 q] w fun e w'=>e=.returned (.bool (T.sendsB p m q))∧Ext w w':=by
 have hp':(p:Int)<(T.n:Int):=by omega
 have pa:=hT.P.pa (by omega)
 have pb:=hT.P.pb (by omega)
 have p2:=hT.P.p2
 have HT:=Lib.hid hT
 clear hT
 go_enter Tryz.func184,Tryz.ntmps184
 go_upto_region 1 with fail
 refine boxed3 (w:=w) (G:=fun x=>Code.wp _ _ _ _ x) ?_
 intro w2 hx2 hs2 ⟨l0,c0,_,_⟩ ⟨l1,c1,_,_⟩ ⟨l2,c2,_,_⟩
 have HS:=Lib.hid hs2
 clear hs2
 have hx:Ext w2 w2:=Ext.refl _
 go_wp2_with fail
 have hc:=hasEv w2 T (HT.out.ext hx2) p hp 230 #[.pointer (some ⟨w.heap.size+1,0,none⟩),.pointer (some ⟨w.heap.size+1+1,0,none⟩)] (fun i=>decide (T.kind p i=2) && decide (T.msg p i=m) && decide (T.peer p i=q)) (enters_of Tryz.func230 (by kernel_rfl) rfl)
  (fun i hi w' hx'=>by exact sends1 w' (T.kind p i) (T.peer p i) (T.msg p i) m q _ _ _ _ (c1 w' hx' 0) (c2 w' hx' 0))
 refine hc.mono ?_
 rintro e w' ⟨rfl,hx'⟩
 go_wp2
 go_ret
 exact ⟨rfl,hx2.trans hx'⟩
def FormedP (T:Tr) (p:Nat) (kind peer msg:Int):Prop:=(kind=1∧peer=0∧msg=0)∨((kind=2∨kind=3)∧0≤peer∧peer≤(T.n:Int) - 1∧peer≠p∧0≤msg∧msg≤199)
def BoolPost (p:Prop) (w:World) (e:Ending) (w':World):Prop:=∃ b,e=.returned (.bool b)∧(b=true↔p)∧Ext w w'
set_option maxHeartbeats 400000 in
theorem formed_any (w : World) (T : TM) (hT : T.At w) (p : Nat) (kind peer msg time : Int) (v : Value) :
    Calls Tryz.prog 181 #[T.val,.int .i64 p,.agg #[.int .i64 kind,.int .i64 peer,.int .i64 msg,.int .i64 time,v]] w (BoolPost (FormedP T.toTr p kind peer msg) w):=by
 have hn:=hT.P.hn
 clear hT
 go_enter Tryz.func181,Tryz.ntmps181
 go_wp2_with (go_at_call 129;refine (in_any _ _ _ _).mono ?_;rintro e w' ⟨rfl,rfl⟩)
 all_goals go_ret
 all_goals refine ⟨_,rfl,?_,((Ext.refl _).alloc' _).alloc' _⟩
 all_goals simp_all [FormedP,inB]
 all_goals omega
end Go.Proofs.YtlfdfkbmollaaaaGreatDoor
