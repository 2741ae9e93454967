/- Contracts and laws in plain Lean for SPos: group Ue. -/
import Derived.Test.YtnknkkmdbnaglaaGreatUd
import Derived.Deep.LoopGhost
import Derived.Test.YtnknkkmdbnaglaaGreatKa
import Derived.WalkSmall
import Derived.Laws.Bits64b
namespace Go.Proofs.YtnknkkmdbnaglaaGreat
open Go.RowKit Go.Shelf
theorem Ltr.of_from {T:Tr}:∀ (l:List T.Id) (L:Ltr) (m:Nat),((l.foldl (Ltr.step T) L).ti m=L.ti m∧(l.foldl (Ltr.step T) L).tp m=L.tp m)∨∃ x,x∈l∧T.kind x.1.1 x.1.2=3∧(T.msg x.1.1 x.1.2).toNat=m∧(l.foldl (Ltr.step T) L).tp m=x.1.1∧(l.foldl (Ltr.step T) L).ti m=x.1.2+1
 | [],_,_ => .inl ⟨rfl,rfl⟩
 | a :: l,L,m => by
  rw [List.foldl_cons]
  rcases Ltr.of_from l (Ltr.step T L a) m with ⟨h1,h2⟩ | ⟨x,hx,h⟩
  ·rw [h1,h2]
   by_cases k2:T.kind a.1.1 a.1.2=2
   ·left;unfold Ltr.step;rw [if_pos k2];exact ⟨rfl,rfl⟩
   ·by_cases k3:T.kind a.1.1 a.1.2=3
    ·by_cases hm:(T.msg a.1.1 a.1.2).toNat=m
     ·right;refine ⟨a,List.mem_cons_self,k3,hm,?_⟩
      unfold Ltr.step;rw [if_neg k2,if_pos k3];simp [upd,hm]
     ·left;unfold Ltr.step;rw [if_neg k2,if_pos k3];simp [upd,Ne.symm hm]
    ·left;unfold Ltr.step;rw [if_neg k2,if_neg k3];exact ⟨rfl,rfl⟩
  ·exact .inr ⟨x,List.mem_cons_of_mem _ hx,h⟩
theorem Tr.Valid.letter {T:Tr} (h:T.Valid) (y:T.Id) (hy:T.kind y.1.1 y.1.2=3):(Ltr.of T T.evs).tp (T.msg y.1.1 y.1.2).toNat=y.1.1∧(Ltr.of T T.evs).ti (T.msg y.1.1 y.1.2).toNat=y.1.2+1:=by
 have hf:=h.formed y
 have hp:=Ltr.of_ti h.formed T.evs Ltr.zero (T.msg y.1.1 y.1.2).toNat (.inr ⟨y,evs_all y,hy,by rcases hf with h | h <;> omega⟩)
 rcases Ltr.of_from T.evs Ltr.zero (T.msg y.1.1 y.1.2).toNat with ⟨h1,_⟩ | ⟨x,_,k3,hm,h1,h2⟩
 ·rw [h1] at hp;exact absurd hp (by simp [Ltr.zero])
 ·have hfx:=h.formed x
  have:x=y:=h.uniq3 k3 hy (by rcases hf with h | h <;> rcases hfx with h' | h' <;> omega)
  subst this;exact ⟨h1,h2⟩
def Tr.Dir (T:Tr) (x y:NN):Prop:=(y.1=x.1∧y.2=x.2+1)∨(T.kind y.1 y.2=3∧x=T.sndN y)
theorem Tr.sndN_V {T:Tr} {y:NN} (hy:T.V y):T.V (T.sndN y):=by
 have:=T.sndN_eq ⟨y,hy⟩
 simp only at this
 rw [this];exact (T.snd ⟨y,hy⟩).2
theorem Tr.Valid.sndN {T:Tr} (h:T.Valid) {y:NN} (hy:T.V y) (k3:T.kind y.1 y.2=3):T.kind (T.sndN y).1 (T.sndN y).2=2∧T.msg (T.sndN y).1 (T.sndN y).2=T.msg y.1 y.2:=by
 have:=T.sndN_eq ⟨y,hy⟩
 simp only at this
 rw [this];exact (h.snd ⟨y,hy⟩ k3).2
theorem Tr.Dir.V {T:Tr} {x y:NN} (hy:T.V y) (h:T.Dir x y):T.V x:=by
 rcases h with ⟨h1,h2⟩ | ⟨_,h⟩
 ·obtain ⟨a,b⟩:=hy;rw [h1] at a b;exact ⟨a,by omega⟩
 ·rw [h];exact Tr.sndN_V hy
theorem Tr.Valid.dir_succ {T:Tr} (h:T.Valid) {x y:NN} (hy:T.V y) (hd:T.Dir x y):y∈T.succ (Ltr.of T T.evs) x:=by
 unfold Tr.succ
 rcases hd with ⟨h1,h2⟩ | ⟨k3,he⟩
 ·have hlt:x.2+1<T.en x.1:=by rw [←h1,←h2];exact hy.2
  rw [if_pos hlt]
  exact List.mem_append_left _ (List.mem_singleton.2 (Prod.ext h1 h2))
 ·subst he
  obtain ⟨k2,hm⟩:=h.sndN hy k3
  have hl:=h.letter ⟨y,hy⟩ k3
  simp only at hl
  rw [hm]
  refine List.mem_append_right _ ?_
  rw [if_pos ⟨k2,by rw [hl.2];omega⟩,hl.1,hl.2]
  refine List.mem_singleton.2 (Prod.ext ?_ ?_)
  ·simp
  ·simp
theorem Tr.Valid.ind {T:Tr} (h:T.Valid) {P:NN→Prop} (step:∀ y,T.V y→(∀ x,T.V x→T.Dir x y→P x)→P y):∀ y,T.V y→P y:=by
 refine fun y0 hy0=>Classical.byContradiction fun hn0=>?_
 have key:∀ n,∃ (z:NN) (S:List NN),(z :: S).Nodup∧S.length=n∧¬P z∧(∀ u,u∈z :: S→T.V u)∧∀ u,u∈S→Path (T.succ (Ltr.of T T.evs)) z u:=by
  intro n
  induction n with
  | zero => exact ⟨y0,[],by simp,rfl,hn0,by simpa using hy0,by simp⟩
  | succ n ih =>
   obtain ⟨z,S,hnd,hl,hz,hv,hp⟩:=ih
   have hvz:=hv z List.mem_cons_self
   obtain ⟨x,hx,hd,hnx⟩:∃ x,T.V x∧T.Dir x z∧¬P x:=Classical.byContradiction fun hc=>hz (step z hvz fun x hx hd=>Classical.byContradiction fun hnx=>hc ⟨x,hx,hd,hnx⟩)
   have hs:=h.dir_succ hvz hd
   have hpx:∀ u,u∈z :: S→Path (T.succ (Ltr.of T T.evs)) x u:=by
    intro u hu
    rcases List.mem_cons.1 hu with e | hu
    ·subst e;exact Path.one hs
    ·obtain ⟨k,hk⟩:=hp u hu;exact ⟨k+1,z,hs,hk⟩
   refine ⟨x,z :: S,?_,by simp [hl],hnx,?_,hpx⟩
   ·refine List.nodup_cons.2 ⟨fun hm=>h.acy ⟨⟨x,hx⟩,hpx x hm⟩,hnd⟩
   ·intro u hu
    rcases List.mem_cons.1 hu with e | hu
    ·subst e;exact hx
    ·exact hv u hu
 obtain ⟨z,S,hnd,hl,_,hv,_⟩:=key T.evs.length
 have:=evs_count hnd hv
 simp at this;omega
def tot (f:Nat→Nat):Nat→Nat | 0=>0 | n+1=>tot f n+f n
theorem tot_le {f g:Nat→Nat}:∀ {n:Nat},(∀ k,k<n→f k≤g k)→tot f n≤tot g n
 | 0,_ => Nat.le_refl _
 | n+1,h => Nat.add_le_add (tot_le fun k hk => h k (by omega)) (h n (by omega))
theorem tot_congr {f g:Nat→Nat}:∀ {n:Nat},(∀ k,k<n→f k=g k)→tot f n=tot g n
 | 0,_ => rfl
 | n+1,h => by unfold tot;rw [tot_congr fun k hk => h k (by omega),h n (by omega)]
theorem tot_small {f:Nat→Nat} {c:Nat}:∀ {n:Nat},(∀ k,k<n→f k≤c)→tot f n≤n*c
 | 0,_ => by simp [tot]
 | n+1,h => by unfold tot;rw [Nat.succ_mul];exact Nat.add_le_add (tot_small fun k hk => h k (by omega)) (h n (by omega))
end Go.Proofs.YtnknkkmdbnaglaaGreat

namespace Go.Proofs.YtnknkkmdbnaglaaGreat
open Go.RowKit
theorem Tr.evsTo_mem {T:Tr} {k i:Nat} {x:T.Id} (h:x∈T.evsTo k i):x.1.1<k∨(x.1.1=k∧x.1.2<i):=by
 unfold Tr.evsTo at h
 rcases List.mem_append.1 h with h | h
 ·obtain ⟨p,hp,h⟩:=List.mem_flatMap.1 h
  obtain ⟨j,hj,h⟩:=List.mem_filterMap.1 h
  unfold Tr.mk? at h
  split at h
  ·cases h;exact .inl (List.mem_range.1 hp)
  ·cases h
 ·obtain ⟨j,hj,h⟩:=List.mem_filterMap.1 h
  unfold Tr.mk? at h
  split at h
  ·cases h;exact .inr ⟨rfl,List.mem_range.1 hj⟩
  ·cases h
theorem Tr.evsTo_tot (T:Tr):∀ (k i:Nat),k<T.n→i≤T.en k→(T.evsTo k i).length=tot T.en k+i
 | 0,0,_,_ => rfl
 | k+1,0,hk,_ => by rw [←Tr.evsTo_next,Tr.evsTo_tot T k (T.en k) (by omega) (Nat.le_refl _)];rfl
 | k,i+1,hk,hi => by rw [Tr.evsTo_succ _ _ _ hk hi,List.length_append,Tr.evsTo_tot T k i hk (by omega)];rfl
theorem Tr.evs_tot (T:Tr):T.evs.length=tot T.en T.n:=by
 unfold Tr.evs
 cases h:T.n with
 | zero => rfl
 | succ n => rw [←Tr.evsTo_next,Tr.evsTo_tot T n (T.en n) (by omega) (Nat.le_refl _)];rfl
end Go.Proofs.YtnknkkmdbnaglaaGreat

namespace Go.Proofs.YtnknkkmdbnaglaaGreat
open Go.RowKit Go.Shelf
theorem infoInts:(Tryz.prog.info? 28).map (fun i=>(i.zero,i.size,i.bytes))=some (some (.slice none 0 0),1,24):=by kernel_rfl
structure EvRow (w:World) (g n:Nat) (f:Nat→Int × Int):Prop where
 c0:∀ k,k<n→w.cell? ⟨g,k*2,none⟩=some (.int .i64 (f k).1)
 c1:∀ k,k<n→w.cell? ⟨g,k*2+1,none⟩=some (.int .i64 (f k).2)
 fr:∀ o,w.frozen? ⟨g,o,none⟩=false
structure Only (b:Nat) (w w':World):Prop where
 os:w'.os=w.os
 tape:w'.tape=w.tape
 output:w'.output=w.output
 size:w'.heap.size=w.heap.size
 block:∀ g,g≠b→w'.heap[g]?=w.heap[g]?
theorem Only.set (b:Nat) (w:World) (i:Nat) (v:Value):Only b w (w.setCell ⟨b,i,none⟩ v):=⟨rfl,rfl,rfl,World.size_setCell _ _ _,fun _ h=>Below.heap_setCell _ _ _ _ h⟩
theorem Only.trans {b:Nat} {w w' w'':World} (h:Only b w w') (k:Only b w' w''):Only b w w'':=
 ⟨k.os.trans h.os,k.tape.trans h.tape,k.output.trans h.output,k.size.trans h.size,fun g hg=>(k.block g hg).trans (h.block g hg)⟩
theorem Only.below {b B:Nat} {w w':World} (h:Only b w w') (hb:B≤b):Below B w w':=⟨h.os,h.tape,h.output,Nat.le_of_eq h.size.symm,fun g hg=>h.block g (by omega)⟩
theorem EvOwn.row {w:World} {base:Nat} {v:Value} {l:List (Int × Int)} (h:EvOwn w base v l) (h0:0<l.length):∃ g cap,v=.slice (some ⟨g,0,none⟩) l.length cap∧base≤g∧EvRow w g l.length (fun k=>l.getD k (0,0)):=by
 obtain ⟨h1,⟨hv,hn⟩ | ⟨g,cap,cur,hv,hg,hh,hc,hm,hs,ht⟩⟩:=h
 ·omega
 ·have hb:=Box.of hh
  have hget:∀ j,j<l.length*2→cur[j]?=(evCells l)[j]?:=by
   intro j hj
   rw [←ht,List.getElem?_take_of_lt hj];simp
  refine ⟨g,cap,hv,hg,fun k hk=>?_,fun k hk=>?_,fun o=>hb.frozen w (Ext.refl _) o⟩
  ·rw [hb.cell w (Ext.refl _),hget _ (by omega),evCells_get0 l k hk,List.getD_eq_getElem?_getD,List.getElem?_eq_getElem hk];rfl
  ·rw [hb.cell w (Ext.refl _),hget _ (by omega),evCells_get1 l k hk,List.getD_eq_getElem?_getD,List.getElem?_eq_getElem hk];rfl
theorem evOwn_one {w:World} {base g:Nat} {x y:Int} (h:w.heap[g]?=some (.cells #[.int .i64 x,.int .i64 y] 110 (0,0))) (hb:base≤g):EvOwn w base (.slice (some ⟨g,0,none⟩) 1 1) [(x,y)]:=
 ⟨rfl,.inr ⟨g,1,_,rfl,hb,h,Nat.le_refl _,by unfold maxLen;omega,rfl,rfl⟩⟩
theorem setd2 {w:World} {p q:Addr} {v u:Value} {G:World→Prop} (h:∀ w5,w5=(w.setCell p v).setCell q u→G w5):G ((w.setCell p v).setCell q u):=h _ rfl
end Go.Proofs.YtnknkkmdbnaglaaGreat

namespace Go.Proofs.YtnknkkmdbnaglaaGreat
open Go.RowKit
structure BSet where
 N:Int
 m:Nat
 wd:Nat→Nat
structure SetM extends BSet where
 a:Option Addr
 b:Nat
 off:Nat
 cap:Nat
abbrev SetM.val (S:SetM):Value:=.agg #[.int .i64 S.N,.slice S.a S.m S.cap]
structure SetM.At (S:SetM) (w:World):Prop where
 hm:S.m≤140737488355328
 pa:0<S.m→S.a=some ⟨S.b,S.off,none⟩
 pb:0<S.m→∀ w',Ext w w'→S.b<w'.heap.size
 p0:∀ w',Ext w w'→∀ k,k<S.m→w'.cell? ⟨S.b,S.off+k,none⟩=some (.int .u64 (S.wd k))
 u:∀ k,k<S.m→S.wd k<18446744073709551616
theorem SetM.At.ext {S:SetM} {w w':World} (h:S.At w) (x:Ext w w'):S.At w':=
 ⟨h.hm,h.pa,fun h0 w' y=>h.pb h0 w' (x.trans y),fun w' y=>h.p0 w' (x.trans y),h.u⟩
theorem words_any (n : Int) (w : World) (h0 : 0 ≤ n) (h1 : n ≤ 1000000) :
    Calls Tryz.prog 251 #[.int .i64 n] w fun e w'=>e=.returned (.int .i64 ((n+63) / 64))∧w=w':=by
 go_enter Tryz.func251,Tryz.ntmps251
 go_wp2
 go_ret
 exact ⟨ret_int (by omega),rfl⟩
theorem inside_any (S : SetM) (i : Int) (w : World) :
    Calls Tryz.prog 213 #[S.val,.int .i64 i] w fun e w'=>e=.returned (.bool (decide (0≤i∧i<S.N)))∧Ext w w':=by
 by_cases h0:0≤i
 ·by_cases h1:i<S.N
  ·go_enter Tryz.func213,Tryz.ntmps213
   go_wp2
   go_ret
   exact ⟨ret_bool (by rw [decide_eq_true ⟨h0,h1⟩]),Ext.alloc _ _⟩
  ·go_enter Tryz.func213,Tryz.ntmps213
   go_wp2
   go_ret
   exact ⟨ret_bool (by simp;omega),Ext.alloc _ _⟩
 ·go_enter Tryz.func213,Tryz.ntmps213
  go_wp2
  go_ret
  exact ⟨ret_bool (by simp;intro;omega),Ext.alloc _ _⟩
theorem bit_eq (x k:Nat) (hx:x<18446744073709551616):(bits BinOp.and IntKind.u64 ((x:Int) / 2 ^ k) 1 == 1)=x.testBit k:=by
 have h1:((x:Int) / 2 ^ k)=((x / 2 ^ k:Nat):Int):=by simp
 have h2:x / 2 ^ k≤x:=Nat.div_le_self _ _
 rw [h1,Nat.testBit_eq_decide_div_mod_eq]
 generalize x / 2 ^ k=q at h2
 rw [and_one_u64 _ (by omega) (by omega)]
 by_cases h:q % 2=1
 ·have:((q:Int) % 2)=1:=by omega
  rw [this,decide_eq_true h];rfl
 ·have:((q:Int) % 2)=0:=by omega
  rw [this,decide_eq_false h];rfl
set_option maxHeartbeats 1000000 in
theorem has_any (S : SetM) (i : Nat) (w : World) (hS : S.At w) (h : i / 64 < S.m) (hi : i < 1000000) :
    Calls Tryz.prog 214 #[S.val,.int .i64 i] w fun e w'=>e=.returned (.bool ((S.wd (i / 64)).testBit (i % 64)))∧Ext w w':=by
 have pa:=hS.pa (by omega)
 have pb:=hS.pb (by omega)
 have p0:=hS.p0
 have hm:=hS.hm
 have hu:=hS.u _ h
 have h':((i / 64:Nat):Int)<(S.m:Int):=by omega
 clear hS
 go_enter Tryz.func214,Tryz.ntmps214
 go_upto_region 1 with fail
 refine boxed1 (w:=w) (G:=fun x=>Code.wp _ _ _ _ x) ?_
 intro w1 hx1 hs1 ⟨l0,c0,_,_⟩
 have hx11:Ext w1 w1:=Ext.refl _
 clear hs1
 go_wp2
 go_ret
 exact ⟨ret_bool (bit_eq _ _ hu),hx1⟩
structure SetM.Good (S:SetM) (n:Nat):Prop where
 hN:S.N=n
 n5:n≤512
 hm:S.m=(n+63) / 64
 top:n % 64≠0→S.wd (S.m - 1)<2 ^ (n % 64)
set_option maxHeartbeats 1000000 in
theorem bvalid_any (S : SetM) (n : Nat) (w : World) (hS : S.At w) (hG : S.Good n) :
    Calls Tryz.prog 212 #[S.val] w fun e w'=>e=.returned (.bool true)∧Ext w w':=by
 obtain ⟨hN,n5,hm,top⟩:=hG
 obtain ⟨⟨N,m,wd⟩,a,b,off,cap⟩:=S
 dsimp only at hN hm top
 subst hN hm
 have pa:=hS.pa
 have pb:=hS.pb
 have p0:=hS.p0
 have hu:=hS.u
 dsimp only at pa pb p0 hu
 have hW:=fun W=>words_any (n:Int) W (by omega) (by omega)
 have e1:((n:Int)+63) / 64=(((n+63) / 64:Nat):Int):=by omega
 simp only [e1] at hW
 have d1:decide ((n:Int)<0)=false:=decide_eq_false (by omega)
 have d2:decide ((512:Int)<(n:Int))=false:=decide_eq_false (by omega)
 have d2':decide (512<n)=false:=decide_eq_false (by omega)
 clear hS e1
 go_enter Tryz.func212,Tryz.ntmps212
 go_upto_region 1 with fail
 refine boxed1 (w:=w) (G:=fun x=>Code.wp _ _ _ _ x) ?_
 intro w1 hx1 hs1 ⟨l0,c0,_,_⟩
 have hx11:Ext w1 w1:=Ext.refl _
 clear hs1
 go_quiet ((exact Calls.quiet_of_same ((hW _).mono fun e w' h=>⟨h.1,h.2.symm⟩)))
 clear d1 d2 d2' hW
 by_cases hr:n % 64=0
 ·have d3:((n:Int) % 64 == 0)=true:=by simp;omega
  go_wp2_with fail
  go_ret
  exact ⟨rfl,hx1.drewN _⟩
 ·have d3:((n:Int) % 64 == 0)=false:=by simp;omega
  have top:=top hr
  have hm:0<(n+63) / 64:=by omega
  have pa:=pa hm
  have pb:=pb hm
  obtain ⟨x,hx⟩:∃ x,x=wd ((n+63) / 64 - 1):=⟨_,rfl⟩
  have pc:∀ w',Ext w w'→w'.cell? ⟨b,off+((n+63) / 64 - 1),none⟩=some (.int .u64 x):=fun w' h=>by rw [hx];exact p0 w' h _ (by omega)
  have hwm:=hu ((n+63) / 64 - 1) (by omega)
  rw [←hx] at hwm top
  have hz:((x:Int) / 2 ^ (n % 64))=0:=Int.ediv_eq_zero_of_lt (by omega) (by exact_mod_cast top)
  clear p0 hu hx
  subst pa
  go_wp2_with fail
  go_ret
  exact ⟨rfl,hx1.drewN _⟩
set_option maxHeartbeats 1000000 in
theorem bhas_any (S : SetM) (n i : Nat) (w : World) (hS : S.At w) (hG : S.Good n) (hi : i < n) :
    Calls Tryz.prog 159 #[S.val,.int .i64 i] w fun e w'=>e=.returned (.bool ((S.wd (i / 64)).testBit (i % 64)))∧Ext w w':=by
 have hN:=hG.hN
 have hn:=hG.n5
 have hV:=fun W (hx:Ext w W)=>bvalid_any S n W (hS.ext hx) hG
 have hI:=fun W=>inside_any S i W
 have hH:=fun W (hx:Ext w W)=>has_any S i W (hS.ext hx) (by rw [hG.hm];omega) (by omega)
 have e1:decide (0≤(i:Int)∧(i:Int)<S.N)=true:=decide_eq_true ⟨by omega,by omega⟩
 simp only [e1] at hI
 clear e1 hS hG hN
 generalize (S.wd (i / 64)).testBit (i % 64)=bb at hH ⊢
 go_enter Tryz.func159,Tryz.ntmps159
 go_upto_region 1 with fail
 refine boxed1 (w:=w) (G:=fun x=>Code.wp _ _ _ _ x) ?_
 intro w1 hx1 hs1 ⟨l0,c0,_,_⟩
 have hx11:Ext w1 w1:=Ext.refl _
 clear hs1
 go_wp2_with (first | (go_at_call 212;refine (hV _ hx1).mono ?_;rintro e w2 ⟨rfl,hx2⟩;have hx12:=hx1.trans hx2) | (go_at_call 213;refine (hI _).mono ?_;rintro e w3 ⟨rfl,hx3⟩;have hx13:=hx12.trans hx3;have hx23:=hx2.trans hx3) | (go_at_call 214;refine (hH _ hx13).mono ?_;rintro e w4 ⟨rfl,hx4⟩;have hx14:=hx13.trans hx4))
 go_ret
 exact ⟨rfl,hx14⟩
end Go.Proofs.YtnknkkmdbnaglaaGreat

namespace Go.Proofs.YtnknkkmdbnaglaaGreat
open Go.RowKit
theorem boxed1t' {w : World} {c : Array Value} {t : TypeId} {G : World → Prop}
    (h:∀ w2,Ext w w2→w2.heap.size=w.heap.size+1→Hold w2 w.heap.size c→G w2):G (w.alloc (.cells c t)):=
 h _ (Ext.alloc _ _) (by simp) (Hold.new _ _ _)
structure BitsOf (l:Nat→Nat) (k n m:Nat) (W:Nat→Nat):Prop where
 u:∀ j,j<m→W j<18446744073709551616
 b:∀ i,i / 64<m→(W (i / 64)).testBit (i % 64)=decide (∃ j,j<k∧l j=i)
theorem BitsOf.zero (l:Nat→Nat) (n m:Nat):BitsOf l 0 n m (fun _=>0):=⟨fun _ _=>by omega,fun i _=>by simp⟩
theorem BitsOf.step {l : Nat → Nat} {k n m : Nat} {W : Nat → Nat} (h : BitsOf l k n m W) (hk : l k / 64 < m) :
    BitsOf l (k+1) n m (fun j=>if j=l k / 64 then W j ||| 2 ^ (l k % 64) else W j):=by
 refine ⟨fun j hj=>?_,fun i hi=>?_⟩
 ·split
  ·exact Nat.or_lt_two_pow (n:=64) (h.u j hj) (Nat.pow_lt_pow_right (by omega) (Nat.mod_lt _ (by omega)))
  ·exact h.u j hj
 ·have hb:=h.b i hi
  by_cases he:i / 64=l k / 64
  ·rw [if_pos he,Nat.testBit_or,hb,Nat.testBit_two_pow]
   by_cases h2:l k % 64=i % 64
   ·have:l k=i:=by omega
    rw [decide_eq_true h2,Bool.or_true]
    exact (decide_eq_true ⟨k,by omega,this⟩).symm
   ·have h3:¬l k=i:=fun h=>h2 (by rw [h])
    simp only [h2,decide_false,Bool.or_false]
    refine decide_eq_decide.2 ⟨fun ⟨j,h1,h4⟩=>⟨j,by omega,h4⟩,fun ⟨j,h1,h4⟩=>?_⟩
    by_cases hj:j=k
    ·subst hj;exact absurd h4 h3
    ·exact ⟨j,by omega,h4⟩
  ·rw [if_neg he,hb]
   refine decide_eq_decide.2 ⟨fun ⟨j,h1,h4⟩=>⟨j,by omega,h4⟩,fun ⟨j,h1,h4⟩=>?_⟩
   by_cases hj:j=k
   ·subst hj;exact absurd (by rw [h4]) he
   ·exact ⟨j,by omega,h4⟩
theorem shl_one (x r:Nat) (hr:r=x % 64) (W:World):(Op.shift BinOp.shl IntKind.u64 1 IntKind.i64 ((x:Int).tmod 64)).run Tryz.prog W=.ok (.int .u64 ((2 ^ r:Nat):Int)) W:=by
 have h1:(x:Int).tmod 64=(r:Int):=by rw [hr,Int.tmod_eq_emod_of_nonneg (by omega)];omega
 rw [h1]
 have h2:¬((r:Int)<0):=by omega
 have h3:min r 64=r:=by omega
 have h4:(2:Nat) ^ r<2 ^ 64:=Nat.pow_lt_pow_right (by omega) (by omega)
 have h5:IntKind.u64.wrap (1*(2:Int) ^ r)=((2 ^ r:Nat):Int):=by
  rw [Int.one_mul]
  have:((2:Int) ^ r)=((2 ^ r:Nat):Int):=by simp
  rw [this]
  generalize 2 ^ r=z at h4
  show (z:Int) % _=_
  exact Int.emod_eq_of_lt (by omega) (by show (z:Int)<18446744073709551616;omega)
 unfold Op.shift
 rw [if_neg h2]
 show Result.ok (Value.int .u64 (IntKind.u64.wrap (1*2 ^ min (r:Int).toNat 64))) W=_
 rw [Int.toNat_natCast,h3,h5]
theorem infoU64:(Tryz.prog.info? 275).map (fun i=>(i.zero,i.size,i.bytes))=some (some (.int .u64 0),1,8):=by kernel_rfl
structure WdRow (w:World) (g m:Nat) (W:Nat→Nat):Prop where
 c:∀ k,k<m→w.cell? ⟨g,k,none⟩=some (.int .u64 (W k))
 fr:∀ o,w.frozen? ⟨g,o,none⟩=false
 lt:g<w.heap.size
theorem WdRow.ext {w w':World} {g m:Nat} {W:Nat→Nat} (h:WdRow w g m W) (x:Ext w w'):WdRow w' g m W:=
 ⟨fun k hk=>(World.cell?_of_block (w:=w) (a:=⟨g,k,none⟩) (x.block g h.lt)).trans (h.c k hk),fun o=>(World.frozen?_of_block (w:=w) (a:=⟨g,o,none⟩) (x.block g h.lt)).trans (h.fr o),Nat.lt_of_lt_of_le h.lt x.le⟩
theorem WdRow.made {w:World} {base g n:Nat} (h:w.ownsRow base 275 1 (.slice (some ⟨g,0,none⟩) n n) n (madeCells (Value.int .u64 0).cells (n*1)).toList):WdRow w g n (fun _=>0):=by
 obtain ⟨h1,⟨hv,_⟩ | ⟨g',cap,cur,hv,hg,hh,hc,hm,hs,ht⟩⟩:=h
 ·cases hv
 ·simp only [Value.slice.injEq,Option.some.injEq,Addr.mk.injEq] at hv
  obtain ⟨⟨rfl,_⟩,_,rfl⟩:=hv
  have hb:=Box.of hh
  have hz:(Value.int .u64 0).cells=#[.int .u64 0]:=rfl
  rw [hz,toList_madeCells_one] at ht
  refine ⟨fun k hk=>?_,fun o=>hb.frozen w (Ext.refl _) o,hb.lt w (Ext.refl _)⟩
  rw [hb.cell w (Ext.refl _)]
  have:cur[k]?=(List.replicate (n*1) (Value.int .u64 0))[k]?:=by rw [←ht,List.getElem?_take_of_lt (by omega)];simp
  rw [this,List.getElem?_replicate,if_pos (by omega)];rfl
theorem WdRow.set {w:World} {g m:Nat} {W:Nat→Nat} (h:WdRow w g m W) (q v:Nat) (hq:q<m):WdRow (w.setCell ⟨g,q,none⟩ (.int .u64 v)) g m (fun j=>if j=q then v else W j):=by
 refine ⟨fun k hk=>?_,fun o=>?_,by rw [World.size_setCell];exact h.lt⟩
 ·by_cases e:k=q
  ·subst e
   rw [if_pos rfl];exact World.cell?_setCell_same _ _ _ (h.c k hk)
  ·rw [if_neg e];refine Eq.trans ?_ (h.c k hk);apply World.cell?_setCell_other;intro h9;simp only [Addr.mk.injEq] at h9;exact e h9.2.1.symm
 ·rw [frozen_set];exact h.fr o
def OfPost (n len:Nat) (l:Nat→Nat) (w:World) (e:Ending) (w':World):Prop:=Ext w w'∧
 ∃ S:SetM,e=.returned (.tuple #[S.val,.int .i64 0])∧S.At w'∧S.Good n∧w.heap.size≤S.b∧∀ i,i<n→(S.wd (i / 64)).testBit (i % 64)=decide (∃ j,j<len∧l j=i)
structure OfI (l:Nat→Nat) (k n m:Nat) (W:Nat→Nat) (w:World) (g b:Nat) (wr:World):Prop where
 row:WdRow wr g m W
 bits:BitsOf l k n m W
 h0:Hold wr w.heap.size #[.int .i64 0,.slice none 0 0]
 h2:Hold wr b #[.int .i64 n,.slice (some ⟨g,0,none⟩) m m]
 bl:Ext w wr
theorem OfI.step {l : Nat → Nat} {k n m : Nat} {W : Nat → Nat} {w : World} {g b : Nat} {wr w5 : World} (h : OfI l k n m W w g b wr) (hgb : g < b) (hx : Ext wr w5) {q v : Nat} (hq : q < m) (hv : v = W q ||| 2 ^ (l k % 64)) (hqe : q = l k / 64) (hwg : w.heap.size < g := by omega) :
    OfI l (k+1) n m (fun j=>if j=l k / 64 then W j ||| 2 ^ (l k % 64) else W j) w g b (w5.drew.setCell ⟨g,q,none⟩ (.int .u64 v)):=by
 have hr:=(h.row.ext hx).set (w:=w5) q v hq
 have e:(fun j=>if j=q then v else W j)=(fun j=>if j=l k / 64 then W j ||| 2 ^ (l k % 64) else W j):=by
  funext j
  by_cases hj:j=q
  ·subst hj;rw [if_pos rfl,if_pos hqe,hv]
  ·rw [if_neg hj,if_neg (by omega)]
 rw [e] at hr
 refine ⟨⟨hr.c,hr.fr,hr.lt⟩,h.bits.step (by omega),?_,?_,?_⟩
 ·exact ((h.h0.ext hx).drew).other _ _ (by show _≠g;omega)
 ·exact ((h.h2.ext hx).drew).other _ _ (by show _≠g;omega)
 ·exact ((h.bl.trans hx).drew).setCell (by show _≤g;omega) _
theorem bits_top {l:Nat→Nat} {k n m:Nat} {W:Nat→Nat} (h:BitsOf l k n m W) (hm:m=(n+63) / 64) (hl:∀ j,j<k→l j<n) (hn:n % 64≠0):W (m - 1)<2 ^ (n % 64):=by
 refine Nat.lt_pow_two_of_testBit _ fun i hi=>?_
 by_cases h64:i<64
 ·have e:=h.b (64*(m - 1)+i) (by omega)
  rw [show (64*(m - 1)+i) / 64=m - 1 by omega,show (64*(m - 1)+i) % 64=i by omega] at e
  rw [e]
  refine decide_eq_false fun ⟨j,hj,he⟩=>?_
  have:=hl j hj;omega
 ·exact Nat.testBit_lt_two_pow (Nat.lt_of_lt_of_le (h.u (m - 1) (by omega)) (show 2 ^ 64≤2 ^ i from Nat.pow_le_pow_right (by omega) (by omega)))
theorem OfI.post {l : Nat → Nat} {k n m : Nat} {W : Nat → Nat} {w : World} {b : Nat} {wr w' : World} (h : OfI l k n m W w (w.heap.size + 1) b wr) (hm : m = (n + 63) / 64) (hn : n ≤ 512) (hl : ∀ j, j < k → l j < n) (ho : Only w.heap.size wr w') :
    OfPost n k l w (.returned (.tuple #[.agg #[.int .i64 n,.slice (some ⟨w.heap.size+1,0,none⟩) m m],.int .i64 0])) w':=by
 refine ⟨Below.trans h.bl (ho.below (Nat.le_refl _)),⟨⟨n,m,W⟩,some ⟨w.heap.size+1,0,none⟩,w.heap.size+1,0,m⟩,rfl,?_,⟨rfl,hn,hm,fun h0=>bits_top h.bits hm hl h0⟩,by show _≤w.heap.size+1;omega,fun i hi=>h.bits.b i (by omega)⟩
 have e:w'.heap[w.heap.size+1]?=wr.heap[w.heap.size+1]?:=ho.block _ (by omega)
 have hlt:w.heap.size+1<w'.heap.size:=by rw [ho.size];exact h.row.lt
 refine ⟨by show m≤_;omega,fun _=>rfl,fun _ w2 x=>Nat.lt_of_lt_of_le hlt x.le,fun w2 x j hj=>?_,h.bits.u⟩
 rw [Nat.zero_add,World.cell?_of_block (w:=w') (a:=⟨w.heap.size+1,j,none⟩) (x.block _ hlt),World.cell?_of_block (w:=wr) (a:=⟨w.heap.size+1,j,none⟩) e]
 exact h.row.c j hj
theorem of_results (tmps : Array Value) (W : World) (b : Nat) (x y z : Value) (t4 : tmps[4]? = some (.pointer (some ⟨b, 0, none⟩))) (t5 : tmps[5]? = some z) (c : W.cell? ⟨b, 0, none⟩ = some x) (c' : W.cell? ⟨b, 1, none⟩ = some y) :
    (results Tryz.f210 tmps).run Tryz.prog W=.ok (.tuple #[.agg #[x,y],z]) W:=by
 simp [results,go_sem,t4,t5,c,c']
set_option maxRecDepth 100000 in
set_option maxHeartbeats 1000000 in
theorem of_any (n : Nat) (hn : n ≤ 512) (a : Option Addr) (b off len cap : Nat) (l : Nat → Nat) (w : World) (hlen : len ≤ 1000000)
    (pa:0<len→a=some ⟨b,off,none⟩) (pb:0<len→∀ w',Ext w w'→b<w'.heap.size)
    (p0:∀ w',Ext w w'→∀ k,k<len→w'.cell? ⟨b,off+k,none⟩=some (.int .i64 (l k))) (hl:∀ k,k<len→l k<n) :
    Calls Tryz.prog 210 #[.int .i64 n,.slice a len cap] w (OfPost n len l w):=by
 have hW:=fun W=>words_any (n:Int) W (by omega) (by omega)
 have e1:((n:Int)+63) / 64=(((n+63) / 64:Nat):Int):=by omega
 simp only [e1] at hW
 obtain ⟨m,hm⟩:∃ m,m=(n+63) / 64:=⟨_,rfl⟩
 rw [←hm] at hW
 have d1:decide ((n:Int)<0)=false:=decide_eq_false (by omega)
 have d2:decide ((512:Int)<(n:Int))=false:=decide_eq_false (by omega)
 have d2':decide (512<n)=false:=decide_eq_false (by omega)
 have hm2:m≤8:=by omega
 have HM:=Lib.hid hm
 clear e1 hm
 go_enter Tryz.func210,Tryz.ntmps210
 go_upto_region 3 with fail
 refine boxed1t' (w:=w) (G:=fun x=>Code.wp _ _ _ _ x) ?_
 intro w1 hx1 hs1 k1
 clear d1 d2 d2'
 obtain ⟨i0,hi0,hz0,hz1,hz2⟩:=info_parts infoU64
 go_upto_region 4 with (first | (go_at_call 251;refine (hW _).mono ?_;rintro e w2 ⟨rfl,rfl⟩) | (at_make;refine wpList_make_full _ rfl _ _ 206 rfl w1.heap.size 275 i0 (.int .u64 0) 1 Tryz.underlying206 hi0 hz0 hz1 .i64 .i64 _ _ m rfl rfl rfl rfl (by rw [hz2];omega) (by unfold maxLen;omega) (Nat.le_refl _) ?_;intro w3 hown3 hg3))
 have hx3:Ext w1 w3:=(Below.refl _ _).grown hg3 (Nat.le_refl _) (by simp)
 rw [hs1] at hown3
 refine boxed1t' (w:=w3) (G:=fun x=>Code.wp _ _ _ _ x) ?_
 intro w4 hx4 hs4 k4
 have hx34:=hx3.trans hx4
 have HI0:=Lib.hid (OfI.mk (l:=l) (k:=0) (n:=n) (m:=m) (W:=fun _=>0) (w:=w) (g:=w.heap.size+1) (b:=w3.heap.size) (wr:=w4) ((WdRow.made hown3).ext hx4) (BitsOf.zero l n m) (k1.ext hx34) k4 (hx1.trans hx34))
 have HS3:=Lib.hid (show w.heap.size+1<w3.heap.size from (WdRow.made hown3).lt)
 clear hown3 hg3 hx3 hx4 hs4 k4 hx34 k1 hs1
 generalize w3.heap.size=b3 at HI0 HS3 ⊢
 go_wp2_with fail
 go_loopg [23] len (fun gg v wr=>∃ (k:Nat) (W:Nat→Nat),k≤len∧gg=len - k∧v=.int .i64 k∧OfI l k n m W w (w.heap.size+1) b3 wr)
 case atStart=>exact ⟨0,_,by omega,rfl,rfl,HI0.out⟩
 case round=>
  obtain ⟨k,W,hk,rfl,rfl,hI⟩:=hrel
  obtain ⟨hrow,hbits,h0,h2,hxr⟩:=hI
  have hrr:Ext wr wr:=Ext.refl _
  obtain ⟨l0,c0,f0,_⟩:=h0.box
  obtain ⟨l2,c2,f2,_⟩:=h2.box
  by_cases hlt:k<len
  ·obtain rfl:=pa (by omega)
   have pb:=pb (by omega)
   have hlk:=hl k hlt
   have pk:∀ w',Ext w w'→w'.cell? ⟨b,off+k,none⟩=some (.int .i64 (l k)):=fun w' h=>p0 w' h k hlt
   obtain ⟨x,hx⟩:∃ x,x=l k:=⟨_,rfl⟩
   rw [←hx] at hlk pk
   have hI:Calls Tryz.prog 213 #[.agg #[.int .i64 n,.slice (some ⟨w.heap.size+1,0,none⟩) m m],.int .i64 x] wr fun e w'=>e=.returned (.bool true)∧Ext wr w':=
    (inside_any ⟨⟨n,m,W⟩,some ⟨w.heap.size+1,0,none⟩,w.heap.size+1,0,m⟩ x wr).mono fun e w' ⟨h1,h2⟩=>⟨by rw [h1,decide_eq_true ⟨by omega,by show (x:Int)<n;omega⟩],h2⟩
   have HX:=Lib.hid hx
   have hlt':(k:Int)<(len:Int):=by omega
   have HR:=Lib.hid hrow
   have HBT:=Lib.hid hbits
   have HH0:=Lib.hid h0
   have HH2:=Lib.hid h2
   clear hx hrow hbits h0 h2 p0 hl hW
   go_upto_region 9 with (go_at_call 213;refine hI.mono ?_;rintro e w5 ⟨rfl,hx5⟩)
   clear hI
   obtain ⟨q,hqe⟩:∃ q,q=x / 64:=⟨_,rfl⟩
   obtain ⟨r,hre⟩:∃ r,r=x % 64:=⟨_,rfl⟩
   have hq:q<m:=by have:=HM.out;omega
   have hq':(q:Int)<(m:Int):=by omega
   have hr':(r:Int)<64:=by omega
   have hR5:=HR.out.ext hx5
   have r5:=hR5.c _ hq
   have rl:=hR5.lt
   have rf:=hR5.fr
   have hu:=HBT.out.u _ hq
   obtain ⟨y,hy⟩:∃ y,y=W q:=⟨_,rfl⟩
   rw [←hy] at r5 hu
   have hx6:=hxr.trans hx5
   have hw1:IntKind.i64.wrap ((x:Int) / 64)=(q:Int):=by rw [IntWalk.i64_in _ (by omega)];omega
   have hw2:IntKind.i64.wrap ((x:Int) % 64)=(r:Int):=by rw [IntWalk.i64_in _ (by omega)];omega
   have hsh:=shl_one x r hre
   have hpl:(2:Nat) ^ r<18446744073709551616:=(show (2:Nat) ^ r<2 ^ 64 from Nat.pow_lt_pow_right (by omega) (by omega))
   obtain ⟨pw,hpw⟩:∃ pw,pw=2 ^ r:=⟨_,rfl⟩
   rw [←hpw] at hsh hpl
   have hor:bits BinOp.or IntKind.u64 (y:Int) (pw:Int)=((y ||| pw:Nat):Int):=bits_or_u64_nat y pw hu hpl
   obtain ⟨o,ho⟩:∃ o,o=y ||| pw:=⟨_,rfl⟩
   rw [←ho] at hor
   have HE:=Lib.hid (And.intro hqe (And.intro hre (And.intro hy (And.intro hpw ho))))
   have HOI:=Lib.hid (OfI.step ⟨HR.out,HBT.out,HH0.out,HH2.out,hxr⟩ HS3.out hx5 (v:=o) hq (by rw [ho,hpw,hy,hre,HX.out]) (by rw [hqe,HX.out]))
   have HR5:=Lib.hid hR5
   clear hqe hre hy hR5 hpw ho
   refine wp_region_reads 11 (by kernel_rfl) (by kernel_rfl) ?_
   simp only [List.take_succ_cons,List.take_zero]
   repeat still_step
   refine wpStill_nil ?_
   refine wpAny_ready (rs:=[11]) (by kernel_rfl) (by simp) ?_
   refine AllReady.cons rfl (fun K hK=>?_) AllReady.nil
   go_simp
   refine hK _ _ ?_;clear hK K
   refine wpAny_done (by kernel_rfl) ?_ _
   go_wp2_with fail
   go_roundg (len - (k+1))
   case rel=>exact ⟨k+1,_,by omega,rfl,by go_num,HOI.out⟩
   case measure=>omega
  ·have hke:k=len:=by omega
   subst hke
   have HP:=Lib.hid (fun (w':World) (ho:Only w.heap.size wr w')=>OfI.post ⟨hrow,hbits,h0,h2,hxr⟩ HM.out hn hl ho)
   have g4:=(h0.set 0 (.int .i64 n)).set 1 (.slice (some ⟨w.heap.size+1,0,none⟩) m m)
   have G4:=Lib.hid g4
   clear hrow hbits h0 h2 g4
   go_wp2_with fail
   try simp only [Exit.inBlock,Exit.then]
   refine bodyPost_ret (of_results _ _ _ _ _ _ rfl rfl (G4.out.cell0 0) (G4.out.cell0 1)) rfl ?_
   exact HP.out _ ((Only.set _ _ _ _).trans (Only.set _ _ _ _))
end Go.Proofs.YtnknkkmdbnaglaaGreat
