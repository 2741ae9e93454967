/- Contracts and laws in plain Lean for RApp: group T07. -/
import Derived.Test.YtlfdfkbmollaaaaGreatDoorT01
import Derived.WalkSmall
import Derived.Test.YtlfdfkbmollaaaaGreatDoorT06
import Derived.Laws.Bits64b
import Derived.Deep.LoopGhost
import Derived.Lib.AppendZeros
import Derived.Lib.QuietBelow
import Derived.Test.YtlfdfkbmollaaaaGreatDoorT05
set_option maxRecDepth 100000
namespace Go.Proofs.YtlfdfkbmollaaaaGreatDoor
open Go.RowKit
structure BSet where
 N:Int
 m:Nat
 wd:Nat→Nat
structure SetM extends BSet where
 a:Option Addr
 b:Nat
 off:Nat
 cap:Nat
abbrev SetM.val (S:SetM):Value:=.agg #[.int .i64 S.N,.slice S.a S.m S.cap]
structure SetM.At (S:SetM) (w:World):Prop where
 hm:S.m≤140737488355328
 pa:0<S.m→S.a=some ⟨S.b,S.off,none⟩
 pb:0<S.m→∀ w',Ext w w'→S.b<w'.heap.size
 p0:∀ w',Ext w w'→∀ k,k<S.m→w'.cell? ⟨S.b,S.off+k,none⟩=some (.int .u64 (S.wd k))
 u:∀ k,k<S.m→S.wd k<18446744073709551616
theorem SetM.At.ext {S:SetM} {w w':World} (h:S.At w) (x:Ext w w'):S.At w':=
 ⟨h.hm,h.pa,fun h0 w' y=>h.pb h0 w' (x.trans y),fun w' y=>h.p0 w' (x.trans y),h.u⟩
theorem words_any (n : Int) (w : World) (h0 : 0 ≤ n) (h1 : n ≤ 1000000) :
    Calls Tryz.prog 114 #[.int .i64 n] w fun e w'=>e=.returned (.int .i64 ((n+63) / 64))∧w=w':=by
 go_enter Tryz.func114,Tryz.ntmps114
 go_wp2
 go_ret
 exact ⟨ret_int (by omega),rfl⟩
theorem inside_any (S : SetM) (i : Int) (w : World) :
    Calls Tryz.prog 115 #[S.val,.int .i64 i] w fun e w'=>e=.returned (.bool (decide (0≤i∧i<S.N)))∧Ext w w':=by
 by_cases h0:0≤i
 ·by_cases h1:i<S.N
  ·go_enter Tryz.func115,Tryz.ntmps115
   go_wp2
   go_ret
   exact ⟨ret_bool (by rw [decide_eq_true ⟨h0,h1⟩]),Ext.alloc _ _⟩
  ·go_enter Tryz.func115,Tryz.ntmps115
   go_wp2
   go_ret
   exact ⟨ret_bool (by simp;omega),Ext.alloc _ _⟩
 ·go_enter Tryz.func115,Tryz.ntmps115
  go_wp2
  go_ret
  exact ⟨ret_bool (by simp;intro;omega),Ext.alloc _ _⟩
structure SetM.Good (S:SetM) (n:Nat):Prop where
 hN:S.N=n
 n5:n≤512
 hm:S.m=(n+63) / 64
 top:n % 64≠0→S.wd (S.m - 1)<2 ^ (n % 64)
set_option maxHeartbeats 1000000 in
theorem bvalid_any (S : SetM) (n : Nat) (w : World) (hS : S.At w) (hG : S.Good n) :
    Calls Tryz.prog 211 #[S.val] w fun e w'=>e=.returned (.bool true)∧Ext w w':=by
 obtain ⟨hN,n5,hm,top⟩:=hG
 obtain ⟨⟨N,m,wd⟩,a,b,off,cap⟩:=S
 dsimp only at hN hm top
 subst hN hm
 have pa:=hS.pa
 have pb:=hS.pb
 have p0:=hS.p0
 have hu:=hS.u
 dsimp only at pa pb p0 hu
 have hW:=fun W=>words_any (n:Int) W (by omega) (by omega)
 have e1:((n:Int)+63) / 64=(((n+63) / 64:Nat):Int):=by omega
 simp only [e1] at hW
 have d1:decide ((n:Int)<0)=false:=decide_eq_false (by omega)
 have d2:decide ((512:Int)<(n:Int))=false:=decide_eq_false (by omega)
 have d2':decide (512<n)=false:=decide_eq_false (by omega)
 clear hS e1
 go_enter Tryz.func211,Tryz.ntmps211
 go_upto_region 1 with fail
 refine boxed1 (w:=w) (G:=fun x=>Code.wp _ _ _ _ x) ?_
 intro w1 hx1 hs1 ⟨l0,c0,_,_⟩
 have hx11:Ext w1 w1:=Ext.refl _
 clear hs1
 go_quiet ((exact Calls.quiet_of_same ((hW _).mono fun e w' h=>⟨h.1,h.2.symm⟩)))
 clear d1 d2 d2' hW
 by_cases hr:n % 64=0
 ·have d3:((n:Int) % 64 == 0)=true:=by simp;omega
  go_wp2_with fail
  go_ret
  exact ⟨rfl,hx1.drewN _⟩
 ·have d3:((n:Int) % 64 == 0)=false:=by simp;omega
  have top:=top hr
  have hm:0<(n+63) / 64:=by omega
  have pa:=pa hm
  have pb:=pb hm
  obtain ⟨x,hx⟩:∃ x,x=wd ((n+63) / 64 - 1):=⟨_,rfl⟩
  have pc:∀ w',Ext w w'→w'.cell? ⟨b,off+((n+63) / 64 - 1),none⟩=some (.int .u64 x):=fun w' h=>by rw [hx];exact p0 w' h _ (by omega)
  have hwm:=hu ((n+63) / 64 - 1) (by omega)
  rw [←hx] at hwm top
  have hz:((x:Int) / 2 ^ (n % 64))=0:=Int.ediv_eq_zero_of_lt (by omega) (by exact_mod_cast top)
  clear p0 hu hx
  subst pa
  go_wp2_with fail
  go_ret
  exact ⟨rfl,hx1.drewN _⟩
end Go.Proofs.YtlfdfkbmollaaaaGreatDoor

namespace Go.Proofs.YtlfdfkbmollaaaaGreatDoor
open Go.RowKit
theorem boxed1t' {w : World} {c : Array Value} {t : TypeId} {G : World → Prop}
    (h:∀ w2,Ext w w2→w2.heap.size=w.heap.size+1→Hold w2 w.heap.size c→G w2):G (w.alloc (.cells c t)):=
 h _ (Ext.alloc _ _) (by simp) (Hold.new _ _ _)
structure BitsOf (l:Nat→Nat) (k n m:Nat) (W:Nat→Nat):Prop where
 u:∀ j,j<m→W j<18446744073709551616
 b:∀ i,i / 64<m→(W (i / 64)).testBit (i % 64)=decide (∃ j,j<k∧l j=i)
theorem BitsOf.zero (l:Nat→Nat) (n m:Nat):BitsOf l 0 n m (fun _=>0):=⟨fun _ _=>by omega,fun i _=>by simp⟩
theorem BitsOf.step {l : Nat → Nat} {k n m : Nat} {W : Nat → Nat} (h : BitsOf l k n m W) (hk : l k / 64 < m) :
    BitsOf l (k+1) n m (fun j=>if j=l k / 64 then W j ||| 2 ^ (l k % 64) else W j):=by
 refine ⟨fun j hj=>?_,fun i hi=>?_⟩
 ·split
  ·exact Nat.or_lt_two_pow (n:=64) (h.u j hj) (Nat.pow_lt_pow_right (by omega) (Nat.mod_lt _ (by omega)))
  ·exact h.u j hj
 ·have hb:=h.b i hi
  by_cases he:i / 64=l k / 64
  ·rw [if_pos he,Nat.testBit_or,hb,Nat.testBit_two_pow]
   by_cases h2:l k % 64=i % 64
   ·have:l k=i:=by omega
    rw [decide_eq_true h2,Bool.or_true]
    exact (decide_eq_true ⟨k,by omega,this⟩).symm
   ·have h3:¬l k=i:=fun h=>h2 (by rw [h])
    simp only [h2,decide_false,Bool.or_false]
    refine decide_eq_decide.2 ⟨fun ⟨j,h1,h4⟩=>⟨j,by omega,h4⟩,fun ⟨j,h1,h4⟩=>?_⟩
    by_cases hj:j=k
    ·subst hj;exact absurd h4 h3
    ·exact ⟨j,by omega,h4⟩
  ·rw [if_neg he,hb]
   refine decide_eq_decide.2 ⟨fun ⟨j,h1,h4⟩=>⟨j,by omega,h4⟩,fun ⟨j,h1,h4⟩=>?_⟩
   by_cases hj:j=k
   ·subst hj;exact absurd (by rw [h4]) he
   ·exact ⟨j,by omega,h4⟩
theorem shl_one (x r:Nat) (hr:r=x % 64) (W:World):(Op.shift BinOp.shl IntKind.u64 1 IntKind.i64 ((x:Int).tmod 64)).run Tryz.prog W=.ok (.int .u64 ((2 ^ r:Nat):Int)) W:=by
 have h1:(x:Int).tmod 64=(r:Int):=by rw [hr,Int.tmod_eq_emod_of_nonneg (by omega)];omega
 rw [h1]
 have h2:¬((r:Int)<0):=by omega
 have h3:min r 64=r:=by omega
 have h4:(2:Nat) ^ r<2 ^ 64:=Nat.pow_lt_pow_right (by omega) (by omega)
 have h5:IntKind.u64.wrap (1*(2:Int) ^ r)=((2 ^ r:Nat):Int):=by
  rw [Int.one_mul]
  have:((2:Int) ^ r)=((2 ^ r:Nat):Int):=by simp
  rw [this]
  generalize 2 ^ r=z at h4
  show (z:Int) % _=_
  exact Int.emod_eq_of_lt (by omega) (by show (z:Int)<18446744073709551616;omega)
 unfold Op.shift
 rw [if_neg h2]
 show Result.ok (Value.int .u64 (IntKind.u64.wrap (1*2 ^ min (r:Int).toNat 64))) W=_
 rw [Int.toNat_natCast,h3,h5]
theorem infoU64:(Tryz.prog.info? 132).map (fun i=>(i.zero,i.size,i.bytes))=some (some (.int .u64 0),1,8):=by kernel_rfl
structure WdRow (w:World) (g m:Nat) (W:Nat→Nat):Prop where
 c:∀ k,k<m→w.cell? ⟨g,k,none⟩=some (.int .u64 (W k))
 fr:∀ o,w.frozen? ⟨g,o,none⟩=false
 lt:g<w.heap.size
theorem WdRow.ext {w w':World} {g m:Nat} {W:Nat→Nat} (h:WdRow w g m W) (x:Ext w w'):WdRow w' g m W:=
 ⟨fun k hk=>(World.cell?_of_block (w:=w) (a:=⟨g,k,none⟩) (x.block g h.lt)).trans (h.c k hk),fun o=>(World.frozen?_of_block (w:=w) (a:=⟨g,o,none⟩) (x.block g h.lt)).trans (h.fr o),Nat.lt_of_lt_of_le h.lt x.le⟩
theorem WdRow.made {w:World} {base g n:Nat} (h:w.ownsRow base 132 1 (.slice (some ⟨g,0,none⟩) n n) n (madeCells (Value.int .u64 0).cells (n*1)).toList):WdRow w g n (fun _=>0):=by
 obtain ⟨h1,⟨hv,_⟩ | ⟨g',cap,cur,hv,hg,hh,hc,hm,hs,ht⟩⟩:=h
 ·cases hv
 ·simp only [Value.slice.injEq,Option.some.injEq,Addr.mk.injEq] at hv
  obtain ⟨⟨rfl,_⟩,_,rfl⟩:=hv
  have hb:=Box.of hh
  have hz:(Value.int .u64 0).cells=#[.int .u64 0]:=rfl
  rw [hz,toList_madeCells_one] at ht
  refine ⟨fun k hk=>?_,fun o=>hb.frozen w (Ext.refl _) o,hb.lt w (Ext.refl _)⟩
  rw [hb.cell w (Ext.refl _)]
  have:cur[k]?=(List.replicate (n*1) (Value.int .u64 0))[k]?:=by rw [←ht,List.getElem?_take_of_lt (by omega)];simp
  rw [this,List.getElem?_replicate,if_pos (by omega)];rfl
theorem WdRow.set {w:World} {g m:Nat} {W:Nat→Nat} (h:WdRow w g m W) (q v:Nat) (hq:q<m):WdRow (w.setCell ⟨g,q,none⟩ (.int .u64 v)) g m (fun j=>if j=q then v else W j):=by
 refine ⟨fun k hk=>?_,fun o=>?_,by rw [World.size_setCell];exact h.lt⟩
 ·by_cases e:k=q
  ·subst e
   rw [if_pos rfl];exact World.cell?_setCell_same _ _ _ (h.c k hk)
  ·rw [if_neg e];refine Eq.trans ?_ (h.c k hk);apply World.cell?_setCell_other;intro h9;simp only [Addr.mk.injEq] at h9;exact e h9.2.1.symm
 ·rw [frozen_set];exact h.fr o
def OfPost (n len:Nat) (l:Nat→Nat) (w:World) (e:Ending) (w':World):Prop:=Ext w w'∧
 ∃ S:SetM,e=.returned (.tuple #[S.val,.int .i64 0])∧S.At w'∧S.Good n∧w.heap.size≤S.b∧∀ i,i<n→(S.wd (i / 64)).testBit (i % 64)=decide (∃ j,j<len∧l j=i)
structure OfI (l:Nat→Nat) (k n m:Nat) (W:Nat→Nat) (w:World) (g b:Nat) (wr:World):Prop where
 row:WdRow wr g m W
 bits:BitsOf l k n m W
 h0:Hold wr w.heap.size #[.int .i64 0,.slice none 0 0]
 h2:Hold wr b #[.int .i64 n,.slice (some ⟨g,0,none⟩) m m]
 bl:Ext w wr
theorem OfI.step {l : Nat → Nat} {k n m : Nat} {W : Nat → Nat} {w : World} {g b : Nat} {wr w5 : World} (h : OfI l k n m W w g b wr) (hgb : g < b) (hx : Ext wr w5) {q v : Nat} (hq : q < m) (hv : v = W q ||| 2 ^ (l k % 64)) (hqe : q = l k / 64) (hwg : w.heap.size < g := by omega) :
    OfI l (k+1) n m (fun j=>if j=l k / 64 then W j ||| 2 ^ (l k % 64) else W j) w g b (w5.drew.setCell ⟨g,q,none⟩ (.int .u64 v)):=by
 have hr:=(h.row.ext hx).set (w:=w5) q v hq
 have e:(fun j=>if j=q then v else W j)=(fun j=>if j=l k / 64 then W j ||| 2 ^ (l k % 64) else W j):=by
  funext j
  by_cases hj:j=q
  ·subst hj;rw [if_pos rfl,if_pos hqe,hv]
  ·rw [if_neg hj,if_neg (by omega)]
 rw [e] at hr
 refine ⟨⟨hr.c,hr.fr,hr.lt⟩,h.bits.step (by omega),?_,?_,?_⟩
 ·exact ((h.h0.ext hx).drew).other _ _ (by show _≠g;omega)
 ·exact ((h.h2.ext hx).drew).other _ _ (by show _≠g;omega)
 ·exact ((h.bl.trans hx).drew).setCell (by show _≤g;omega) _
theorem bits_top {l:Nat→Nat} {k n m:Nat} {W:Nat→Nat} (h:BitsOf l k n m W) (hm:m=(n+63) / 64) (hl:∀ j,j<k→l j<n) (hn:n % 64≠0):W (m - 1)<2 ^ (n % 64):=by
 refine Nat.lt_pow_two_of_testBit _ fun i hi=>?_
 by_cases h64:i<64
 ·have e:=h.b (64*(m - 1)+i) (by omega)
  rw [show (64*(m - 1)+i) / 64=m - 1 by omega,show (64*(m - 1)+i) % 64=i by omega] at e
  rw [e]
  refine decide_eq_false fun ⟨j,hj,he⟩=>?_
  have:=hl j hj;omega
 ·exact Nat.testBit_lt_two_pow (Nat.lt_of_lt_of_le (h.u (m - 1) (by omega)) (show 2 ^ 64≤2 ^ i from Nat.pow_le_pow_right (by omega) (by omega)))
theorem OfI.post {l : Nat → Nat} {k n m : Nat} {W : Nat → Nat} {w : World} {b : Nat} {wr w' : World} (h : OfI l k n m W w (w.heap.size + 1) b wr) (hm : m = (n + 63) / 64) (hn : n ≤ 512) (hl : ∀ j, j < k → l j < n) (ho : Only w.heap.size wr w') :
    OfPost n k l w (.returned (.tuple #[.agg #[.int .i64 n,.slice (some ⟨w.heap.size+1,0,none⟩) m m],.int .i64 0])) w':=by
 refine ⟨Below.trans h.bl (ho.below (Nat.le_refl _)),⟨⟨n,m,W⟩,some ⟨w.heap.size+1,0,none⟩,w.heap.size+1,0,m⟩,rfl,?_,⟨rfl,hn,hm,fun h0=>bits_top h.bits hm hl h0⟩,by show _≤w.heap.size+1;omega,fun i hi=>h.bits.b i (by omega)⟩
 have e:w'.heap[w.heap.size+1]?=wr.heap[w.heap.size+1]?:=ho.block _ (by omega)
 have hlt:w.heap.size+1<w'.heap.size:=by rw [ho.size];exact h.row.lt
 refine ⟨by show m≤_;omega,fun _=>rfl,fun _ w2 x=>Nat.lt_of_lt_of_le hlt x.le,fun w2 x j hj=>?_,h.bits.u⟩
 rw [Nat.zero_add,World.cell?_of_block (w:=w') (a:=⟨w.heap.size+1,j,none⟩) (x.block _ hlt),World.cell?_of_block (w:=wr) (a:=⟨w.heap.size+1,j,none⟩) e]
 exact h.row.c j hj
theorem of_results (tmps : Array Value) (W : World) (b : Nat) (x y z : Value) (t4 : tmps[4]? = some (.pointer (some ⟨b, 0, none⟩))) (t5 : tmps[5]? = some z) (c : W.cell? ⟨b, 0, none⟩ = some x) (c' : W.cell? ⟨b, 1, none⟩ = some y) :
    (results Tryz.f69 tmps).run Tryz.prog W=.ok (.tuple #[.agg #[x,y],z]) W:=by
 simp [results,go_sem,t4,t5,c,c']
set_option maxHeartbeats 1000000 in
theorem of_any (n : Nat) (hn : n ≤ 512) (a : Option Addr) (b off len cap : Nat) (l : Nat → Nat) (w : World) (hlen : len ≤ 1000000)
    (pa:0<len→a=some ⟨b,off,none⟩) (pb:0<len→∀ w',Ext w w'→b<w'.heap.size)
    (p0:∀ w',Ext w w'→∀ k,k<len→w'.cell? ⟨b,off+k,none⟩=some (.int .i64 (l k))) (hl:∀ k,k<len→l k<n) :
    Calls Tryz.prog 69 #[.int .i64 n,.slice a len cap] w (OfPost n len l w):=by
 have hW:=fun W=>words_any (n:Int) W (by omega) (by omega)
 have e1:((n:Int)+63) / 64=(((n+63) / 64:Nat):Int):=by omega
 simp only [e1] at hW
 obtain ⟨m,hm⟩:∃ m,m=(n+63) / 64:=⟨_,rfl⟩
 rw [←hm] at hW
 have d1:decide ((n:Int)<0)=false:=decide_eq_false (by omega)
 have d2:decide ((512:Int)<(n:Int))=false:=decide_eq_false (by omega)
 have d2':decide (512<n)=false:=decide_eq_false (by omega)
 have hm2:m≤8:=by omega
 have HM:=Lib.hid hm
 clear e1 hm
 go_enter Tryz.func69,Tryz.ntmps69
 go_upto_region 3 with fail
 refine boxed1t' (w:=w) (G:=fun x=>Code.wp _ _ _ _ x) ?_
 intro w1 hx1 hs1 k1
 clear d1 d2 d2'
 obtain ⟨i0,hi0,hz0,hz1,hz2⟩:=info_parts infoU64
 go_upto_region 4 with (first | (go_at_call 114;refine (hW _).mono ?_;rintro e w2 ⟨rfl,rfl⟩) | (at_make;refine wpList_make_full _ rfl _ _ 122 rfl w1.heap.size 132 i0 (.int .u64 0) 1 Tryz.underlying122 hi0 hz0 hz1 .i64 .i64 _ _ m rfl rfl rfl rfl (by rw [hz2];omega) (by unfold maxLen;omega) (Nat.le_refl _) ?_;intro w3 hown3 hg3))
 have hx3:Ext w1 w3:=(Below.refl _ _).grown hg3 (Nat.le_refl _) (by simp)
 rw [hs1] at hown3
 refine boxed1t' (w:=w3) (G:=fun x=>Code.wp _ _ _ _ x) ?_
 intro w4 hx4 hs4 k4
 have hx34:=hx3.trans hx4
 have HI0:=Lib.hid (OfI.mk (l:=l) (k:=0) (n:=n) (m:=m) (W:=fun _=>0) (w:=w) (g:=w.heap.size+1) (b:=w3.heap.size) (wr:=w4) ((WdRow.made hown3).ext hx4) (BitsOf.zero l n m) (k1.ext hx34) k4 (hx1.trans hx34))
 have HS3:=Lib.hid (show w.heap.size+1<w3.heap.size from (WdRow.made hown3).lt)
 clear hown3 hg3 hx3 hx4 hs4 k4 hx34 k1 hs1
 generalize w3.heap.size=b3 at HI0 HS3 ⊢
 go_wp2_with fail
 go_loopg [23] len (fun gg v wr=>∃ (k:Nat) (W:Nat→Nat),k≤len∧gg=len - k∧v=.int .i64 k∧OfI l k n m W w (w.heap.size+1) b3 wr)
 case atStart=>exact ⟨0,_,by omega,rfl,rfl,HI0.out⟩
 case round=>
  obtain ⟨k,W,hk,rfl,rfl,hI⟩:=hrel
  obtain ⟨hrow,hbits,h0,h2,hxr⟩:=hI
  have hrr:Ext wr wr:=Ext.refl _
  obtain ⟨l0,c0,f0,_⟩:=h0.box
  obtain ⟨l2,c2,f2,_⟩:=h2.box
  by_cases hlt:k<len
  ·obtain rfl:=pa (by omega)
   have pb:=pb (by omega)
   have hlk:=hl k hlt
   have pk:∀ w',Ext w w'→w'.cell? ⟨b,off+k,none⟩=some (.int .i64 (l k)):=fun w' h=>p0 w' h k hlt
   obtain ⟨x,hx⟩:∃ x,x=l k:=⟨_,rfl⟩
   rw [←hx] at hlk pk
   have hI:Calls Tryz.prog 115 #[.agg #[.int .i64 n,.slice (some ⟨w.heap.size+1,0,none⟩) m m],.int .i64 x] wr fun e w'=>e=.returned (.bool true)∧Ext wr w':=
    (inside_any ⟨⟨n,m,W⟩,some ⟨w.heap.size+1,0,none⟩,w.heap.size+1,0,m⟩ x wr).mono fun e w' ⟨h1,h2⟩=>⟨by rw [h1,decide_eq_true ⟨by omega,by show (x:Int)<n;omega⟩],h2⟩
   have HX:=Lib.hid hx
   have hlt':(k:Int)<(len:Int):=by omega
   have HR:=Lib.hid hrow
   have HBT:=Lib.hid hbits
   have HH0:=Lib.hid h0
   have HH2:=Lib.hid h2
   clear hx hrow hbits h0 h2 p0 hl hW
   go_upto_region 9 with (go_at_call 115;refine hI.mono ?_;rintro e w5 ⟨rfl,hx5⟩)
   clear hI
   obtain ⟨q,hqe⟩:∃ q,q=x / 64:=⟨_,rfl⟩
   obtain ⟨r,hre⟩:∃ r,r=x % 64:=⟨_,rfl⟩
   have hq:q<m:=by have:=HM.out;omega
   have hq':(q:Int)<(m:Int):=by omega
   have hr':(r:Int)<64:=by omega
   have hR5:=HR.out.ext hx5
   have r5:=hR5.c _ hq
   have rl:=hR5.lt
   have rf:=hR5.fr
   have hu:=HBT.out.u _ hq
   obtain ⟨y,hy⟩:∃ y,y=W q:=⟨_,rfl⟩
   rw [←hy] at r5 hu
   have hx6:=hxr.trans hx5
   have hw1:IntKind.i64.wrap ((x:Int) / 64)=(q:Int):=by rw [IntWalk.i64_in _ (by omega)];omega
   have hw2:IntKind.i64.wrap ((x:Int) % 64)=(r:Int):=by rw [IntWalk.i64_in _ (by omega)];omega
   have hsh:=shl_one x r hre
   have hpl:(2:Nat) ^ r<18446744073709551616:=(show (2:Nat) ^ r<2 ^ 64 from Nat.pow_lt_pow_right (by omega) (by omega))
   obtain ⟨pw,hpw⟩:∃ pw,pw=2 ^ r:=⟨_,rfl⟩
   rw [←hpw] at hsh hpl
   have hor:bits BinOp.or IntKind.u64 (y:Int) (pw:Int)=((y ||| pw:Nat):Int):=bits_or_u64_nat y pw hu hpl
   obtain ⟨o,ho⟩:∃ o,o=y ||| pw:=⟨_,rfl⟩
   rw [←ho] at hor
   have HE:=Lib.hid (And.intro hqe (And.intro hre (And.intro hy (And.intro hpw ho))))
   have HOI:=Lib.hid (OfI.step ⟨HR.out,HBT.out,HH0.out,HH2.out,hxr⟩ HS3.out hx5 (v:=o) hq (by rw [ho,hpw,hy,hre,HX.out]) (by rw [hqe,HX.out]))
   have HR5:=Lib.hid hR5
   clear hqe hre hy hR5 hpw ho
   refine wp_region_reads 11 (by kernel_rfl) (by kernel_rfl) ?_
   simp only [List.take_succ_cons,List.take_zero]
   repeat still_step
   refine wpStill_nil ?_
   refine wpAny_ready (rs:=[11]) (by kernel_rfl) (by simp) ?_
   refine AllReady.cons rfl (fun K hK=>?_) AllReady.nil
   go_simp
   refine hK _ _ ?_;clear hK K
   refine wpAny_done (by kernel_rfl) ?_ _
   go_wp2_with fail
   go_roundg (len - (k+1))
   case rel=>exact ⟨k+1,_,by omega,rfl,by go_num,HOI.out⟩
   case measure=>omega
  ·have hke:k=len:=by omega
   subst hke
   have HP:=Lib.hid (fun (w':World) (ho:Only w.heap.size wr w')=>OfI.post ⟨hrow,hbits,h0,h2,hxr⟩ HM.out hn hl ho)
   have g4:=(h0.set 0 (.int .i64 n)).set 1 (.slice (some ⟨w.heap.size+1,0,none⟩) m m)
   have G4:=Lib.hid g4
   clear hrow hbits h0 h2 g4
   go_wp2_with fail
   try simp only [Exit.inBlock,Exit.then]
   refine bodyPost_ret (of_results _ _ _ _ _ _ rfl rfl (G4.out.cell0 0) (G4.out.cell0 1)) rfl ?_
   exact HP.out _ ((Only.set _ _ _ _).trans (Only.set _ _ _ _))
end Go.Proofs.YtlfdfkbmollaaaaGreatDoor

namespace Go.Proofs.YtlfdfkbmollaaaaGreatDoor
open Go.RowKit Go.Shelf
noncomputable def Tr.bk (T:Tr) (x:NN):List NN:=(if 0<x.2 then [(x.1,x.2 - 1)] else [])++(if T.kind x.1 x.2=3 then [T.sndN x] else [])
def BackPost (w:World) (l:List (Int × Int)) (e:Ending) (w':World):Prop:=∃ v,e=.returned v∧EvOwn w' w.heap.size v l∧Ext w w'
end Go.Proofs.YtlfdfkbmollaaaaGreatDoor

namespace Go.Proofs.YtlfdfkbmollaaaaGreatDoor
inductive Tr.Past (T:Tr) (x:NN):NN→Prop
 | self:Tr.Past T x x
 | step {y z:NN}:Tr.Past T x y→T.Dir z y→Tr.Past T x z
theorem Tr.mem_bk {T:Tr} {y z:NN}:z∈T.bk y↔T.Dir z y:=by
 unfold Tr.bk Tr.Dir
 rw [List.mem_append]
 constructor
 ·rintro (h | h)
  ·split at h
   ·simp at h;subst h;left;exact ⟨rfl,by show y.2=y.2 - 1+1;omega⟩
   ·cases h
  ·split at h
   ·next hk=>simp at h;exact .inr ⟨hk,h⟩
   ·cases h
 ·rintro (⟨h1,h2⟩ | ⟨h1,h2⟩)
  ·left;rw [if_pos (by omega)];simp;exact Prod.ext h1.symm (by show z.2=y.2 - 1;omega)
  ·right;rw [if_pos h1];simp [h2]
theorem Tr.bk_len (T:Tr) (y:NN):(T.bk y).length≤2:=by
 unfold Tr.bk;rw [List.length_append];split <;> split <;> simp
theorem Tr.Past.V {T:Tr} {x y:NN} (hx:T.V x) (h:T.Past x y):T.V y:=by
 induction h with
 | self => exact hx
 | step _ d ih => exact Tr.Dir.V ih d
noncomputable def Tr.bkTo (T:Tr) (p hi:Nat):Nat→List NN
 | 0 => []
 | d+1 => T.bkTo p hi d++T.bk (p,hi - d)
theorem Tr.bkTo_len (T:Tr) (p hi:Nat):∀ d,(T.bkTo p hi d).length≤2*d
 | 0 => by simp [Tr.bkTo]
 | d+1 => by
  have h1:=Tr.bkTo_len T p hi d
  have h2:=T.bk_len (p,hi - d)
  rw [Tr.bkTo,List.length_append];omega
theorem Tr.bkTo_mem {T:Tr} {p hi:Nat} {z:NN}:∀ {d},z∈T.bkTo p hi d↔∃ e,e<d∧z∈T.bk (p,hi - e)
 | 0 => by simp [Tr.bkTo]
 | d+1 => by
  rw [Tr.bkTo,List.mem_append,Tr.bkTo_mem (d:=d)]
  constructor
  ·rintro (⟨e,h1,h2⟩ | h)
   ·exact ⟨e,by omega,h2⟩
   ·exact ⟨d,by omega,h⟩
  ·rintro ⟨e,h1,h2⟩
   by_cases he:e=d
   ·subst he;exact .inr h2
   ·exact .inl ⟨e,by omega,h2⟩
def updC (c:Nat→Nat) (p v:Nat):Nat→Nat:=fun k=>if k=p then v else c k
theorem tot_add {f g:Nat→Nat} {p d:Nat}:∀ {n:Nat},p<n→(∀ k,k≠p→f k=g k)→f p=g p+d→tot f n=tot g n+d
 | 0,h,_,_ => by omega
 | n+1,h,ho,hp => by
  unfold tot
  by_cases e:p=n
  ·subst e
   rw [tot_congr (f:=f) (g:=g) fun k hk=>ho k (by omega),hp];omega
  ·rw [tot_add (f:=f) (g:=g) (n:=n) (by omega) ho hp,ho n (fun h=>e h.symm)];omega
end Go.Proofs.YtlfdfkbmollaaaaGreatDoor

namespace Go.Proofs.YtlfdfkbmollaaaaGreatDoor
open Go.RowKit Go.Shelf
structure CRow (w:World) (g n:Nat) (c:Nat→Nat):Prop where
 c:∀ k,k<n→w.cell? ⟨g,k,none⟩=some (.int .i64 (c k))
 fr:∀ o,w.frozen? ⟨g,o,none⟩=false
 lt:g<w.heap.size
theorem CRow.block {w w':World} {g n:Nat} {c:Nat→Nat} (h:CRow w g n c) (hs:w.heap.size≤w'.heap.size) (x:w'.heap[g]?=w.heap[g]?):CRow w' g n c:=
 ⟨fun k hk=>(World.cell?_of_block (w:=w) (a:=⟨g,k,none⟩) x).trans (h.c k hk),fun o=>(World.frozen?_of_block (w:=w) (a:=⟨g,o,none⟩) x).trans (h.fr o),Nat.lt_of_lt_of_le h.lt hs⟩
theorem CRow.ext {w w':World} {g n:Nat} {c:Nat→Nat} (h:CRow w g n c) (x:Ext w w'):CRow w' g n c:=h.block x.le (x.block g h.lt)
theorem CRow.made {w:World} {base g n:Nat} (h:w.ownsRow base 3 1 (.slice (some ⟨g,0,none⟩) n n) n (madeCells (Value.int .i64 0).cells (n*1)).toList):CRow w g n (fun _=>0):=by
 obtain ⟨h1,⟨hv,_⟩ | ⟨g',cap,cur,hv,hg,hh,hc,hm,hs,ht⟩⟩:=h
 ·cases hv
 ·simp only [Value.slice.injEq,Option.some.injEq,Addr.mk.injEq] at hv
  obtain ⟨⟨rfl,_⟩,_,rfl⟩:=hv
  have hb:=Box.of hh
  have hz:(Value.int .i64 0).cells=#[.int .i64 0]:=rfl
  rw [hz,toList_madeCells_one] at ht
  refine ⟨fun k hk=>?_,fun o=>hb.frozen w (Ext.refl _) o,hb.lt w (Ext.refl _)⟩
  rw [hb.cell w (Ext.refl _)]
  have:cur[k]?=(List.replicate (n*1) (Value.int .i64 0))[k]?:=by rw [←ht,List.getElem?_take_of_lt (by omega)];simp
  rw [this,List.getElem?_replicate,if_pos (by omega)];rfl
theorem CRow.set {w:World} {g n:Nat} {c:Nat→Nat} (h:CRow w g n c) (q v:Nat) (hq:q<n):CRow (w.setCell ⟨g,q,none⟩ (.int .i64 v)) g n (updC c q v):=by
 refine ⟨fun k hk=>?_,fun o=>?_,by rw [World.size_setCell];exact h.lt⟩
 ·unfold updC
  by_cases e:k=q
  ·subst e
   rw [if_pos rfl];exact World.cell?_setCell_same _ _ _ (h.c k hk)
  ·rw [if_neg e];refine Eq.trans ?_ (h.c k hk);apply World.cell?_setCell_other;intro h9;simp only [Addr.mk.injEq] at h9;exact e h9.2.1.symm
 ·rw [frozen_set];exact h.fr o
theorem evCells_one (l:List (Int × Int)):∀ u∈evCells l,u.oneCell'=true:=by
 intro u hu
 simp only [evCells,List.mem_flatMap] at hu
 obtain ⟨x,_,hx⟩:=hu
 simp at hx
 rcases hx with rfl | rfl <;> rfl
theorem Hold.at {w w':World} {b:Nat} {c:Array Value} (h:Hold w b c) (e:w'.heap[b]?=w.heap[b]?):Hold w' b c:=by
 obtain ⟨t,h⟩:=h;exact ⟨t,e.trans h⟩
def setRow (S:Nat→SetM):Nat→List Value
 | 0 => []
 | n+1 => setRow S n++[.int .i64 (S n).N,.slice (S n).a (S n).m (S n).cap]
theorem setRow_len (S:Nat→SetM):∀ n,(setRow S n).length=n*2
 | 0 => rfl
 | n+1 => by rw [setRow,List.length_append,setRow_len S n];simp;omega
theorem setRow_get (S:Nat→SetM):∀ (n k:Nat),k<n→(setRow S n)[k*2]?=some (.int .i64 (S k).N)∧(setRow S n)[k*2+1]?=some (.slice (S k).a (S k).m (S k).cap)
 | 0,_,h => by omega
 | n+1,k,h => by
  rw [setRow]
  have hl:=setRow_len S n
  by_cases e:k<n
  ·have:=setRow_get S n k e
   rw [List.getElem?_append_left (by omega),List.getElem?_append_left (by omega)];exact this
  ·obtain rfl:k=n:=by omega
   rw [List.getElem?_append_right (by omega),List.getElem?_append_right (by omega),hl,show k*2 - k*2=0 by omega,show k*2+1 - k*2=1 by omega]
   exact ⟨rfl,rfl⟩
theorem setRow_congr {S S':Nat→SetM}:∀ {n:Nat},(∀ k,k<n→S k=S' k)→setRow S n=setRow S' n
 | 0,_ => rfl
 | n+1,h => by rw [setRow,setRow,setRow_congr (n:=n) fun k hk => h k (by omega),h n (by omega)]
theorem SetM.At.same {S:SetM} {w w':World} (h:S.At w) (hs:w.heap.size≤w'.heap.size) (e:0<S.m→w'.heap[S.b]?=w.heap[S.b]?):S.At w':=by
 refine ⟨h.hm,h.pa,fun h0 w2 x=>Nat.lt_of_lt_of_le (h.pb h0 w (Ext.refl _)) (Nat.le_trans hs x.le),fun w2 x k hk=>?_,h.u⟩
 have hb:=h.pb (by omega) w (Ext.refl _)
 have e1:w2.heap[S.b]?=w.heap[S.b]?:=(x.block _ (by omega)).trans (e (by omega))
 rw [World.cell?_of_block (w:=w) (a:=⟨S.b,S.off+k,none⟩) e1];exact h.p0 w (Ext.refl _) k hk
def updS (S:Nat→SetM) (n:Nat) (s:SetM):Nat→SetM:=fun k=>if k=n then s else S k
structure RelI (w7:World) (bx N n:Nat) (v:Value) (S:Nat→SetM) (bit:Nat→Nat→Prop) (wr:World):Prop where
 bl:Ext w7 wr
 hb:w7.heap.size≤bx
 box:Hold wr bx #[v]
 own:wr.ownsRow (bx+1) 124 2 v n (setRow S n)
 set:∀ k,k<n→(S k).At wr∧(S k).Good N∧(0<(S k).m→bx<(S k).b∧v.ownBlock≠some (S k).b)
 bit:∀ k i,k<n→i<N→(((S k).wd (i / 64)).testBit (i % 64)=true↔bit k i)
theorem RelI.ext {w7:World} {bx N n:Nat} {v:Value} {S:Nat→SetM} {bit:Nat→Nat→Prop} {wr w':World} (h:RelI w7 bx N n v S bit wr) (x:Ext wr w'):RelI w7 bx N n v S bit w':=
 ⟨h.bl.trans x,h.hb,h.box.ext x,h.own.kept (row:=none) ⟨x.os,x.tape,x.output,x.size,fun k hk _=>x.block k hk⟩ (by cases v.ownBlock <;> simp),fun k hk=>⟨(h.set k hk).1.ext x,(h.set k hk).2⟩,h.bit⟩
theorem RelI.push {w7 : World} {bx N n : Nat} {v v' : Value} {S : Nat → SetM} {bit : Nat → Nat → Prop} {wr w4 w6 : World} {s : SetM} {c : Array Value} {t : TypeId} (h : RelI w7 bx N n v S bit wr) (x4 : Ext wr w4)
    (hs:s.At w4) (hG:s.Good N) (hsb:wr.heap.size≤s.b) (hbit:∀ i,i<N→((s.wd (i / 64)).testBit (i % 64)=true↔bit n i))
    (ho:w6.ownsRow (bx+1) 124 2 v' (n+1) (setRow S n++[.int .i64 s.N,.slice s.a s.m s.cap])) (hg:(w4.alloc (.cells c t)).grownBy w6 v.ownBlock)
    (hat:v'.ownBlock=v.ownBlock∨v'.ownBlock=some (w4.alloc (.cells c t)).heap.size) :
    RelI w7 bx N (n+1) v' (updS S n s) bit (w6.setCell ⟨bx,0,none⟩ v')∧w6.cell? ⟨bx,0,none⟩=some v∧w6.frozen? ⟨bx,0,none⟩=false:=by
 have h4:=h.ext x4
 have hvb:=h4.own.lt
 have hbx:=h4.box.lt
 have hfar:∀ z,z<w4.heap.size→v.ownBlock≠some z→w6.heap[z]?=w4.heap[z]?:=fun z hz hne=>by
  rw [hg.block z (by rw [World.size_alloc];omega) (fun e=>hne e.symm),Below.heap_alloc _ _ _ hz]
 have hbx6:w6.heap[bx]?=w4.heap[bx]?:=hfar bx hbx (fun e=>by have:=(hvb bx e).1;omega)
 have hsz6:w4.heap.size<w6.heap.size:=by have:=hg.size;rw [World.size_alloc] at this;omega
 have hset:∀ z,z≠bx→(w6.setCell ⟨bx,0,none⟩ v').heap[z]?=w6.heap[z]?:=fun z hz=>Below.heap_setCell _ _ _ _ hz
 have hold6:Hold w6 bx #[v]:=h4.box.at hbx6
 have hne':∀ z,z<w4.heap.size→v.ownBlock≠some z→v'.ownBlock≠some z:=fun z hz hne e=>by
  rcases hat with h1 | h1
  ·exact hne (h1▸e)
  ·rw [h1,World.size_alloc] at e;simp at e;omega
 refine ⟨⟨?_,h.hb,hold6.set 0 v',?_,fun k hk=>?_,fun k i hk hi=>?_⟩,hold6.cell0 0,hold6.box.frozen w6 (Ext.refl _) 0⟩
 ·have b1 : Below w7.heap.size w4 w6 := by
    refine (((Below.refl _ w4).alloc h4.bl.le _).grown hg (by rw [World.size_alloc];have:=h4.bl.le;omega) fun k e=>?_)
    have:=(hvb k e).1;have:=h.hb;omega
  exact Below.trans h4.bl (b1.setCell (by show _≤bx;exact h.hb) _)
 ·have e : setRow (updS S n s) (n + 1) = setRow S n ++ [.int .i64 s.N, .slice s.a s.m s.cap] := by
    rw [setRow,setRow_congr (S':=S) fun k hk=>by unfold updS;rw [if_neg (by omega)]]
    unfold updS;rw [if_pos rfl]
  rw [e]
  have hb':∀ k,v'.ownBlock=some k→bx≠k:=fun k e=>by have:=(ho.lt k e).1;omega
  exact ho.kept (row:=some bx) ⟨rfl,rfl,rfl,by rw [World.size_setCell];exact Nat.le_refl _,fun k _ hne=>hset k (fun e=>hne (by rw [e]))⟩ (by
   cases hv:v'.ownBlock with
   | none => exact .inl rfl
   | some k => right;intro e;cases e;exact hb' _ hv rfl)
 ·unfold updS
  by_cases e:k=n
  ·rw [if_pos e]
   refine ⟨hs.same (by rw [World.size_setCell];omega) fun h0=>?_,hG,fun h0=>⟨?_,?_⟩⟩
   ·have hb:=hs.pb h0 w4 (Ext.refl _)
    have hbxr:=h.box.lt
    rw [hset _ (by omega)]
    exact hfar _ hb (fun e=>by have:=(h.own.lt _ e).2;omega)
   ·have:=h.box.lt;omega
   ·exact hne' _ (hs.pb h0 w4 (Ext.refl _)) (fun e=>by have:=(h.own.lt _ e).2;omega)
  ·rw [if_neg e]
   obtain ⟨a1,a2,a3⟩:=h4.set k (by omega)
   refine ⟨a1.same (by rw [World.size_setCell];omega) fun h0=>?_,a2,fun h0=>⟨(a3 h0).1,?_⟩⟩
   ·have hb:=a1.pb h0 w4 (Ext.refl _)
    rw [hset _ (by have:=(a3 h0).1;omega)]
    exact hfar _ hb (a3 h0).2
   ·exact hne' _ (a1.pb h0 w4 (Ext.refl _)) (a3 h0).2
 ·unfold updS
  by_cases e:k=n
  ·rw [if_pos e,e];exact hbit i hi
  ·rw [if_neg e];exact h.bit k i (by omega) hi
structure RelAt (a:Option Addr) (g N cap:Nat) (S:Nat→SetM) (bit:Nat→Nat→Prop) (w:World):Prop where
 pa:0<N→a=some ⟨g,0,none⟩
 pb:0<N→∀ w',Ext w w'→g<w'.heap.size
 c0:∀ w',Ext w w'→∀ k,k<N→w'.cell? ⟨g,k*2,none⟩=some (.int .i64 (S k).N)
 c1:∀ w',Ext w w'→∀ k,k<N→w'.cell? ⟨g,k*2+1,none⟩=some (.slice (S k).a (S k).m (S k).cap)
 set:∀ k,k<N→(S k).At w∧(S k).Good N
 bit:∀ k i,k<N→i<N→(((S k).wd (i / 64)).testBit (i % 64)=true↔bit k i)
theorem RelI.at {w7:World} {bx N z:Nat} {v:Value} {S:Nat→SetM} {bit:Nat→Nat→Prop} {wr:World} (h:RelI w7 bx N N v S bit wr) (hz:z<w7.heap.size):∃ a g cap,v=.slice a N cap∧∀ w',Only z wr w'→RelAt a g N cap S bit w':=by
 obtain ⟨h1,⟨hv,hn⟩ | ⟨g,cap,cur,hv,hg,hh,hc,hm,hs,ht⟩⟩:=h.own
 ·subst hn
  exact ⟨none,0,0,hv,fun w' _=>⟨fun h=>by omega,fun h=>by omega,fun _ _ k h=>by omega,fun _ _ k h=>by omega,fun k h=>by omega,fun k i h=>by omega⟩⟩
 ·have hget:∀ j,j<N*2→cur[j]?=(setRow S N)[j]?:=fun j hj=>by rw [←ht,List.getElem?_take_of_lt hj];simp
  have hbx:=h.hb
  refine ⟨_,g,cap,hv,fun w' ho=>?_⟩
  have hb:=Box.of (w:=w') ((ho.block g (by omega)).trans hh)
  refine ⟨fun _=>rfl,fun _=>hb.lt,fun w2 x k hk=>?_,fun w2 x k hk=>?_,fun k hk=>⟨(h.set k hk).1.same (Nat.le_of_eq ho.size.symm) fun h0=>ho.block _ (by have:=((h.set k hk).2.2 h0).1;omega),(h.set k hk).2.1⟩,h.bit⟩
  ·rw [hb.cell w2 x,hget _ (by omega)];exact (setRow_get S N k hk).1
  ·rw [hb.cell w2 x,hget _ (by omega)];exact (setRow_get S N k hk).2
theorem infoSet:(Tryz.prog.info? 124).map (fun i=>(i.zero,i.size,i.bytes))=some (some (.agg #[.int .i64 0,.slice none 0 0]),2,32):=by kernel_rfl
theorem own_slice2 {w:World} {base:Nat} {t:TypeId} {v:Value} {n:Nat} {xs:List Value} (h:w.ownsRow base t 2 v (n+1) xs):∃ a c,v=.slice a (n+1) c:=by
 obtain ⟨_,⟨hv,hn⟩ | ⟨g,cap,cur,hv,_⟩⟩:=h
 ·omega
 ·exact ⟨_,_,hv⟩
theorem drewd {w:World} {n:Nat} {G:World→Prop} (h:∀ w',Ext w w'→G w'):G (w.drewN n):=h _ ((Ext.refl _).drewN _)
structure IntAt (w:World) (a:Option Addr) (b off n:Nat) (l:Nat→Int):Prop where
 hn:n≤140737488355328
 pa:0<n→a=some ⟨b,off,none⟩
 pb:0<n→∀ w',Ext w w'→b<w'.heap.size
 p0:∀ w',Ext w w'→∀ k,k<n→w'.cell? ⟨b,off+k,none⟩=some (.int .i64 (l k))
theorem MM.At.row {M:MM} {w:World} (h:M.At w) {k:Nat} (hk:k<M.n):IntAt w (M.ra k) (M.rb k) (M.ro k) (M.rn k) (M.val k):=
 ⟨h.hr k hk,h.ra k hk,h.rb k hk,fun w' x i hi=>h.r0 w' x k i hk hi⟩
set_option maxHeartbeats 1000000 in
theorem sameInts_any (w : World) (a1 a2 : Option Addr) (b1 b2 o1 o2 n1 n2 c1 c2 : Nat) (l1 l2 : Nat → Int) (h1 : IntAt w a1 b1 o1 n1 l1) (h2 : IntAt w a2 b2 o2 n2 l2) (b : Bool) (hb : b = true ↔ n1 = n2 ∧ ∀ k, k < n1 → l1 k = l2 k) :
    Calls Tryz.prog 38 #[.slice a1 n1 c1,.slice a2 n2 c2] w fun e w'=>e=.returned (.bool b)∧Ext w w':=by
 have hn1:=h1.hn
 have hn2:=h2.hn
 have H1:=Lib.hid h1
 have H2:=Lib.hid h2
 have HB:=Lib.hid hb
 have hww:Ext w w:=Ext.refl _
 clear h1 h2 hb
 by_cases hn:n1=n2
 ·subst hn
  go_enter Tryz.func38,Tryz.ntmps38
  go_wp2_with fail
  go_loopg [5] n1 (fun gg v wr=>∃ k:Nat,k≤n1∧gg=n1 - k∧v=.int .i64 k∧Ext w wr∧∀ j,j<k→l1 j=l2 j)
  case atStart=>exact ⟨0,by omega,rfl,rfl,hww,fun j hj=>by omega⟩
  case round=>
   obtain ⟨k,hk,rfl,rfl,hxr,hall⟩:=hrel
   have HA:=Lib.hid hall
   clear hall
   by_cases hlt:k<n1
   ·have hlt':(k:Int)<(n1:Int):=by omega
    obtain rfl:=H1.out.pa (by omega)
    obtain rfl:=H2.out.pa (by omega)
    have pb1:=H1.out.pb (by omega)
    have pb2:=H2.out.pb (by omega)
    obtain ⟨x,hx⟩:∃ x,x=l1 k:=⟨_,rfl⟩
    obtain ⟨y,hy⟩:∃ y,y=l2 k:=⟨_,rfl⟩
    have p1:∀ w',Ext w w'→w'.cell? ⟨b1,o1+k,none⟩=some (.int .i64 x):=fun w' h=>by rw [hx];exact H1.out.p0 w' h k hlt
    have p2:∀ w',Ext w w'→w'.cell? ⟨b2,o2+k,none⟩=some (.int .i64 y):=fun w' h=>by rw [hy];exact H2.out.p0 w' h k hlt
    have HX:=Lib.hid (And.intro hx hy)
    clear hx hy
    by_cases hxy:x=y
    ·subst hxy
     go_upto_region 6 with fail
     go_quiet (fail)
     go_wp2_with fail
     go_roundg (n1 - (k+1))
     case rel=>exact ⟨k+1,by omega,rfl,by go_num,hxr.drewN _,fun j hj=>by
      by_cases e:j=k
      ·subst e;exact HX.out.1.symm.trans HX.out.2
      ·exact HA.out j (by omega)⟩
     case measure=>omega
    ·have hxb:(x == y)=false:=by simpa using hxy
     obtain rfl:b=false:=Bool.eq_false_iff.2 fun h=>hxy (by rw [HX.out.1,HX.out.2];exact (HB.out.1 h).2 k hlt)
     go_upto_region 6 with fail
     go_quiet (fail)
     go_wp2_with fail
     go_ret
     exact ⟨rfl,hxr.drewN _⟩
   ·obtain rfl:b=true:=HB.out.2 ⟨by first | rfl | trivial,fun j hj=>HA.out j (by omega)⟩
    have hke:k=n1:=by omega
    subst hke
    go_wp2_with fail
    go_ret
    exact ⟨rfl,hxr⟩
 ·obtain rfl:b=false:=Bool.eq_false_iff.2 fun h=>hn (HB.out.1 h).1
  have hnb:((n1:Int) == (n2:Int))=false:=by simp;omega
  go_enter Tryz.func38,Tryz.ntmps38
  go_wp2_with fail
  go_ret
  exact ⟨rfl,hww⟩
def Mx.Alike (M K:Mx):Prop:=M.n=K.n∧∀ k,k<M.n→M.rn k=K.rn k∧∀ i,i<M.rn k→M.val k i=K.val k i
set_option maxHeartbeats 1000000 in
theorem sameLists_any (w : World) (M K : MM) (hM : M.At w) (hK : K.At w) (b : Bool) (hb : b = true ↔ M.toMx.Alike K.toMx) :
    Calls Tryz.prog 39 #[.slice M.a M.n M.cap,.slice K.a K.n K.cap] w fun e w'=>e=.returned (.bool b)∧Ext w w':=by
 have hn1:=hM.hn
 have hn2:=hK.hn
 have H1:=Lib.hid hM
 have H2:=Lib.hid hK
 have HB:=Lib.hid hb
 have hww:Ext w w:=Ext.refl _
 obtain ⟨a1,ha1⟩:∃ a,a=M.a:=⟨_,rfl⟩
 obtain ⟨a2,ha2⟩:∃ a,a=K.a:=⟨_,rfl⟩
 rw [←ha1,←ha2]
 have HA1:=Lib.hid ha1
 have HA2:=Lib.hid ha2
 clear hM hK hb ha1 ha2
 by_cases hn:M.n=K.n
 ·go_enter Tryz.func39,Tryz.ntmps39
  rw [←hn]
  have HN:=Lib.hid hn
  clear hn
  go_wp2_with fail
  go_loopg [5] M.n (fun gg v wr=>∃ k:Nat,k≤M.n∧gg=M.n - k∧v=.int .i64 k∧Ext w wr∧∀ j,j<k→M.rn j=K.rn j∧∀ i,i<M.rn j→M.val j i=K.val j i)
  case atStart=>exact ⟨0,by omega,rfl,rfl,hww,fun j hj=>by omega⟩
  case round=>
   obtain ⟨k,hk,rfl,rfl,hxr,hall⟩:=hrel
   have HA:=Lib.hid hall
   clear hall
   by_cases hlt:k<M.n
   ·have hlt':(k:Int)<(M.n:Int):=by omega
    have hltK:k<K.n:=by have:=HN.out;omega
    obtain rfl:a1=some ⟨M.b,M.off,none⟩:=by rw [HA1.out];exact H1.out.pa (by omega)
    obtain rfl:a2=some ⟨K.b,K.off,none⟩:=by rw [HA2.out];exact H2.out.pa (by omega)
    have pb1:=H1.out.pb (by omega)
    have pb2:=H2.out.pb (by omega)
    have p1:∀ w',Ext w w'→w'.cell? ⟨M.b,M.off+k,none⟩=some (.slice (M.ra k) (M.rn k) (M.rc k)):=fun w' h=>H1.out.p0 w' h k hlt
    have p2:∀ w',Ext w w'→w'.cell? ⟨K.b,K.off+k,none⟩=some (.slice (K.ra k) (K.rn k) (K.rc k)):=fun w' h=>H2.out.p0 w' h k hltK
    obtain ⟨c,hc⟩:∃ c:Bool,c=true↔(M.rn k=K.rn k∧∀ i,i<M.rn k→M.val k i=K.val k i):=by
     by_cases h:M.rn k=K.rn k∧∀ i,i<M.rn k→M.val k i=K.val k i
     ·exact ⟨true,fun _=>h,fun _=>rfl⟩
     ·exact ⟨false,fun h'=>by (cases h'),fun h'=>absurd h' h⟩
    have hSI:=fun W (x:Ext w W)=>sameInts_any W (M.ra k) (K.ra k) (M.rb k) (K.rb k) (M.ro k) (K.ro k) (M.rn k) (K.rn k) (M.rc k) (K.rc k) (M.val k) (K.val k) ((H1.out.ext x).row hlt) ((H2.out.ext x).row hltK) c hc
    have HHs:=Lib.hid hSI
    have HC:=Lib.hid hc
    have hg5:∀ d os,Ext w (Sort.grow (redrawn wr d) os):=fun d os=>hxr.trans (below_regrown wr d os)
    clear hSI hc
    cases c with
    | true =>
     have HC2:=Lib.hid (HC.out.1 rfl)
     clear HC
     go_upto_region 6 with fail
     refine wp_region_quiet_below (by kernel_rfl) (by kernel_rfl) ?_
     repeat (go_big_quiet_step (exact Calls.regrown_of (HHs.out _ (hg5 _ _))))
     refine wpQuiet_nil ?_
     intro _ hw'
     obtain ⟨⟨dq,osq⟩,hw''⟩:=hw'
     subst hw''
     have hx9:=below_regrown wr dq osq
     generalize Sort.grow (redrawn wr dq) osq=w9 at hx9 ⊢
     have hx59:Ext w w9:=hxr.trans hx9
     go_wp2_with fail
     go_roundg (M.n - (k+1))
     case rel=>exact ⟨k+1,by omega,rfl,by go_num,hx59,fun j hj=>by
      by_cases e:j=k
      ·subst e;exact HC2.out
      ·exact HA.out j (by omega)⟩
     case measure=>omega
    | false =>
     obtain rfl:b=false:=Bool.eq_false_iff.2 fun h=>by
      have:=HC.out.2 ((HB.out.1 h).2 k hlt);cases this
     clear HC
     go_upto_region 6 with fail
     refine wp_region_quiet_below (by kernel_rfl) (by kernel_rfl) ?_
     repeat (go_big_quiet_step (exact Calls.regrown_of (HHs.out _ (hg5 _ _))))
     refine wpQuiet_nil ?_
     intro _ hw'
     obtain ⟨⟨dq,osq⟩,hw''⟩:=hw'
     subst hw''
     have hx9:=below_regrown wr dq osq
     generalize Sort.grow (redrawn wr dq) osq=w9 at hx9 ⊢
     have hx59:Ext w w9:=hxr.trans hx9
     go_wp2_with fail
     go_ret
     exact ⟨rfl,hx59⟩
   ·obtain rfl:b=true:=HB.out.2 ⟨HN.out,fun j hj=>HA.out j (by omega)⟩
    have hke:k=M.n:=by omega
    subst hke
    go_wp2_with fail
    go_ret
    exact ⟨rfl,hxr⟩
 ·obtain rfl:b=false:=Bool.eq_false_iff.2 fun h=>hn (HB.out.1 h).1
  have hnb:((M.n:Int) == (K.n:Int))=false:=by simp;omega
  go_enter Tryz.func39,Tryz.ntmps39
  go_wp2_with fail
  go_ret
  exact ⟨rfl,hww⟩
end Go.Proofs.YtlfdfkbmollaaaaGreatDoor

namespace Go.Proofs.YtlfdfkbmollaaaaGreatDoor
end Go.Proofs.YtlfdfkbmollaaaaGreatDoor
