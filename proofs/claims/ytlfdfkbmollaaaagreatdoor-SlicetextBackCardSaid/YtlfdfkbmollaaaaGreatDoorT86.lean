/- Contracts and laws in plain Lean for RApp: group T86. -/
import Derived.Shelf.Strings.Count
import Derived.Shelf.LaysM
import Derived.Test.YtlfdfkbmollaaaaGreatDoorProg
import Derived.Test.YtlfdfkbmollaaaaGreatDoorT76
import Derived.Lib.SplitLaws
import Derived.Lib.ItoaNum
import Derived.Test.YtlfdfkbmollaaaaGreatDoorT77
import Derived.Test.YtlfdfkbmollaaaaGreatDoorT78
import Derived.Test.YtlfdfkbmollaaaaGreatDoorT83
import Derived.Test.YtlfdfkbmollaaaaGreatDoorT84
import Derived.Test.YtlfdfkbmollaaaaGreatDoorT80
namespace Go.Proofs.YtlfdfkbmollaaaaGreatDoor
open Go.Shelf
def Tryz.lays138_ren:Go.Shelf.Ren:=⟨fun | 138=>16 | 195=>56 | 218=>57 | 143=>58 | 219=>106 | 217=>148 | 225=>149 | 224=>150 | 267=>151 | 266=>196 | 314=>197 | n=>n,fun | 9=>9 | 3=>3 | 4=>4 | 5=>5 | 0=>0 | 46=>208 | 146=>255 | 51=>254 | n=>n,fun | 1=>0 | n=>n⟩
theorem Tryz.lays138:Go.Proofs.Lays.n138 Tryz.prog Tryz.lays138_ren:={
 mixed:=by kernel_rfl
 f138:=Tryz.func16.trans (congrArg some (by kernel_rfl))
 f143:=Tryz.func58.trans (congrArg some (by kernel_rfl))
 f195:=Tryz.func56.trans (congrArg some (by kernel_rfl))
 f217:=Tryz.func148.trans (congrArg some (by kernel_rfl))
 f218:=Tryz.func57.trans (congrArg some (by kernel_rfl))
 f219:=Tryz.func106.trans (congrArg some (by kernel_rfl))
 f224:=Tryz.func150.trans (congrArg some (by kernel_rfl))
 f225:=Tryz.func149.trans (congrArg some (by kernel_rfl))
 f266:=Tryz.func196.trans (congrArg some (by kernel_rfl))
 f267:=Tryz.func151.trans (congrArg some (by kernel_rfl))
 f314:=Tryz.func197.trans (congrArg some (by kernel_rfl))
 t0:=Tryz.underlying0
 a0:=Tryz.isAgg0
 z0:=Tryz.sizeOf0
 v0:=Tryz.zeroValue0
 t3:=Tryz.underlying3
 a3:=Tryz.isAgg3
 z3:=Tryz.sizeOf3
 v3:=Tryz.zeroValue3
 t4:=Tryz.underlying4
 a4:=Tryz.isAgg4
 z4:=Tryz.sizeOf4
 v4:=Tryz.zeroValue4
 t5:=Tryz.underlying5
 a5:=Tryz.isAgg5
 z5:=Tryz.sizeOf5
 v5:=Tryz.zeroValue5
 t9:=Tryz.underlying9
 a9:=Tryz.isAgg9
 z9:=Tryz.sizeOf9
 v9:=Tryz.zeroValue9
 t46:=Tryz.underlying208
 a46:=Tryz.isAgg208
 z46:=Tryz.sizeOf208
 v46:=Tryz.zeroValue208
 t51:=Tryz.underlying254
 a51:=Tryz.isAgg254
 z51:=Tryz.sizeOf254
 v51:=Tryz.zeroValue254
 t146:=Tryz.underlying255
 a146:=Tryz.isAgg255
 z146:=Tryz.sizeOf255
 v146:=Tryz.zeroValue255
 g1:=by kernel_rfl }
open Go.RowKit Go.Lib in
theorem Tryz.strings_Count_one (s : ByteArray) (c : UInt8) (w : World) :
    Calls Tryz.prog 16 #[.string s,.string ⟨#[c]⟩] w fun e w'=>e=.returned (.int .i64 (Lib.countByte s.data.toList c))∧w'=w:=Any.strings_Count_one Tryz.lays138 s c w
end Go.Proofs.YtlfdfkbmollaaaaGreatDoor

namespace Go.Proofs.YtlfdfkbmollaaaaGreatDoor
def splitC (c:UInt8):List UInt8→List (List UInt8)
 | [] => [[]]
 | b :: l => if b=c then [] :: splitC c l else match splitC c l with | [] => [[b]] | x :: xs => (b :: x) :: xs
theorem index_at {c:UInt8}:∀ {a:List UInt8} (b:List UInt8),c∉a→Lib.index (a++c :: b) [c]=a.length
 | [],b,_ => by
  show Lib.index (c :: b) [c]=0
  unfold Lib.index
  simp [List.isPrefixOf]
 | x :: a,b,h => by
  have hx:¬c=x:=fun e=>h (by rw [e];simp)
  have ih:=index_at (a:=a) b fun e=>h (List.mem_cons_of_mem _ e)
  have hp:([c]:List UInt8).isPrefixOf (x :: (a++c :: b))=false:=by simp [List.isPrefixOf,hx]
  show Lib.index (x :: (a++c :: b)) [c]=_
  unfold Lib.index
  rw [hp,ih]
  have:((a.length:Int) == -1)=false:=by rw [beq_eq_false_iff_ne];omega
  simp [this]
theorem index_no {c:UInt8}:∀ {a:List UInt8},c∉a→Lib.index a [c]=-1
 | [],_ => rfl
 | x :: a,h => by
  have hx:¬c=x:=fun e=>h (by rw [e];simp)
  have ih:=index_no (a:=a) fun e=>h (List.mem_cons_of_mem _ e)
  have hp:([c]:List UInt8).isPrefixOf (x :: a)=false:=by simp [List.isPrefixOf,hx]
  unfold Lib.index
  rw [hp,ih]
  simp
theorem cut_at {c:UInt8} {a:List UInt8} (b:List UInt8) (h:c∉a):Lib.cut (a++c :: b) [c]=(a,b,true):=by
 unfold Lib.cut
 rw [index_at b h,if_pos (by omega)]
 simp
theorem cut_no {c:UInt8} {a:List UInt8} (h:c∉a):Lib.cut a [c]=(a,[],false):=by
 unfold Lib.cut
 rw [index_no h,if_neg (by decide)]
theorem mem_cut {c:UInt8}:∀ (s:List UInt8),c∉s∨∃ a b,c∉a∧s=a++c :: b
 | [] => .inl (by simp)
 | x :: s => by
  by_cases hx:x=c
  ·exact .inr ⟨[],s,by simp,by simp [hx]⟩
  ·rcases mem_cut (c:=c) s with h | ⟨a,b,h,e⟩
   ·exact .inl (by simp [Ne.symm hx,h])
   ·exact .inr ⟨x :: a,b,by simp [Ne.symm hx,h],by rw [e];rfl⟩
theorem cut_yes {c:UInt8} {s:List UInt8} (h:(Lib.cut s [c]).2.2=true):c∉(Lib.cut s [c]).1∧s=(Lib.cut s [c]).1++c :: (Lib.cut s [c]).2.1:=by
 rcases mem_cut (c:=c) s with h1 | ⟨a,b,h1,rfl⟩
 ·rw [cut_no h1] at h;cases h
 ·rw [cut_at b h1];exact ⟨h1,rfl⟩
theorem splitC_no {c:UInt8}:∀ {a:List UInt8},c∉a→splitC c a=[a]
 | [],_ => rfl
 | x :: a,h => by
  have hx:¬x=c:=fun e=>h (by rw [e];simp)
  rw [splitC,if_neg hx,splitC_no (a:=a) fun e=>h (List.mem_cons_of_mem _ e)]
theorem splitC_at {c:UInt8}:∀ {a:List UInt8} (b:List UInt8),c∉a→splitC c (a++c :: b)=a :: splitC c b
 | [],b,_ => by simp [splitC]
 | x :: a,b,h => by
  have hx:¬x=c:=fun e=>h (by rw [e];simp)
  rw [List.cons_append,splitC,if_neg hx,splitC_at (a:=a) b fun e=>h (List.mem_cons_of_mem _ e)]
theorem splitK_eq {c:UInt8}:∀ (k:Nat) (s:List UInt8),s.count c=k→Lib.splitK [c] 0 k s=splitC c s
 | 0,s,h => by
  rw [Lib.splitK,splitC_no (List.count_eq_zero.1 h)]
 | k+1,s,h => by
  rcases mem_cut (c:=c) s with h1 | ⟨a,b,h1,rfl⟩
  ·rw [List.count_eq_zero.2 h1] at h;omega
  ·have ha:a.count c=0:=List.count_eq_zero.2 h1
   rw [List.count_append,List.count_cons_self,ha] at h
   rw [Lib.splitK,index_at b h1,if_neg (by rw [Bool.not_eq_true,beq_eq_false_iff_ne];omega),splitC_at b h1]
   congr 1
   ·simp
   ·rw [←splitK_eq k b (by omega)]
    congr 1
    simp
theorem split_eq (c:UInt8) (s:List UInt8):Lib.split s [c]=splitC c s:=by
 unfold Lib.split
 rw [Lib.count_one]
 exact splitK_eq _ _ rfl
def joinW (c:UInt8):List (List UInt8)→List UInt8
 | [] => []
 | [w] => w
 | w :: ws => w++c :: joinW c ws
theorem joinW_cons {c:UInt8} {w:List UInt8} {ws:List (List UInt8)} (h:ws≠[]):joinW c (w :: ws)=w++c :: joinW c ws:=by
 cases ws with
 | nil => exact absurd rfl h
 | cons x xs => rfl
theorem splitC_ne {c:UInt8} (s:List UInt8):splitC c s≠[]:=by
 rcases mem_cut (c:=c) s with h1 | ⟨a,b,h1,rfl⟩
 ·rw [splitC_no h1];simp
 ·rw [splitC_at b h1];simp
theorem join_splitC {c:UInt8}:∀ (s:List UInt8),joinW c (splitC c s)=s
 | [] => rfl
 | b :: l => by
  rw [splitC]
  have ih:=join_splitC (c:=c) l
  split
  ·next e=>rw [joinW_cons (splitC_ne l),ih,e];rfl
  ·have hne:=splitC_ne (c:=c) l
   generalize splitC c l=L at hne ih
   match L,hne with
   | [x],_ => rw [←ih];rfl
   | x :: y :: xs,_ => rw [←ih];rfl
theorem splitC_mem {c:UInt8}:∀ (s:List UInt8),∀ w∈splitC c s,c∉w
 | [] => by simp [splitC]
 | b :: l => by
  have ih:=splitC_mem (c:=c) l
  rw [splitC]
  split
  ·intro w hw
   rcases List.mem_cons.1 hw with rfl | hw
   ·simp
   ·exact ih w hw
  ·next hb=>
   have hne:=splitC_ne (c:=c) l
   generalize splitC c l=L at hne ih
   match L,hne with
   | x :: xs,_ =>
    intro w hw
    rcases List.mem_cons.1 hw with rfl | hw
    ·intro h
     rcases List.mem_cons.1 h with h | h
     ·exact hb h.symm
     ·exact ih x (by simp) h
    ·exact ih w (by simp [hw])
/-! decimal numbers -/
theorem decF_app:∀ (l:List UInt8) (a:Nat) (c:UInt8),decF a (l++[c])=decF a l*10+(c.toNat - 48)
 | [],_,_ => rfl
 | x :: l,a,c => show decF (a*10+(x.toNat - 48)) (l++[c])=decF (a*10+(x.toNat - 48)) l*10+(c.toNat - 48) from decF_app l _ c
theorem dig_of {d:Nat} (h:d<10):(UInt8.ofNat (48+d)).toNat=48+d:=by
 rw [UInt8.toNat_ofNat']
 exact Nat.mod_eq_of_lt (by omega)
theorem digB_of {d:Nat} (h:d<10):[UInt8.ofNat (48+d)].all digB=true:=by
 rw [List.all_cons,List.all_nil,Bool.and_true]
 unfold digB
 rw [dig_of h]
 exact decide_eq_true (by omega)
theorem decF_of {d:Nat} (h:d<10):decF 0 [UInt8.ofNat (48+d)]=d:=by
 unfold decF decF
 rw [dig_of h];omega
theorem decDigits_dec (u:Nat):(Lib.decDigits u).all digB=true∧decF 0 (Lib.decDigits u)=u∧Lib.decDigits u≠[]:=by
 induction u using Nat.strongRecOn with
 | _ u ih =>
  by_cases h:u<10
  ·rw [Lib.decDigits,dif_pos h]
   exact ⟨digB_of h,decF_of h,List.cons_ne_nil _ _⟩
  ·obtain ⟨h1,h2,h3⟩:=ih (u / 10) (by omega)
   have hd:u % 10<10:=Nat.mod_lt _ (by decide)
   rw [Lib.decDigits,dif_neg h]
   generalize Lib.decDigits (u / 10)=D at h1 h2 h3
   refine ⟨?_,?_,fun e=>h3 (List.append_eq_nil_iff.1 e).1⟩
   ·rw [List.all_append,h1,Bool.true_and]
    exact digB_of hd
   ·rw [decF_app,h2,dig_of hd];omega
theorem decDigits_head (u:Nat):(Lib.decDigits u).head?=some 48→u=0:=by
 induction u using Nat.strongRecOn with
 | _ u ih =>
  by_cases h:u<10
  ·rw [Lib.decDigits,dif_pos h]
   intro e
   rw [List.head?_cons] at e
   injection e with e
   have:=congrArg UInt8.toNat e
   rw [dig_of h,show (48:UInt8).toNat=48 from rfl] at this
   omega
  ·obtain ⟨_,_,h3⟩:=decDigits_dec (u / 10)
   rw [Lib.decDigits,dif_neg h]
   intro e
   have:(Lib.decDigits (u / 10)).head?=some 48:=by
    cases hd:Lib.decDigits (u / 10) with
    | nil => exact absurd hd h3
    | cons x xs => rw [hd] at e;simpa using e
   have:=ih (u / 10) (by omega) this
   omega
theorem decDigits_zero:Lib.decDigits 0=[48]:=by rw [Lib.decDigits,dif_pos (by decide)];rfl
theorem itoa_nat (u:Nat):Lib.itoa (u:Int)=Lib.decDigits u:=by
 unfold Lib.itoa
 rw [if_neg (by omega)];rfl
theorem decI_itoa {u:Nat} (h:u≤1125899906842624):decI (Lib.itoa (u:Int))=((u:Int),0):=by
 obtain ⟨h1,h2,h3⟩:=decDigits_dec u
 rw [itoa_nat]
 unfold decI
 rw [if_neg,if_neg (by rw [h2];omega),h2]
 rintro (e | ⟨e,e2⟩ | e)
 ·exact h3 e
 ·have:=decDigits_head u e
  subst this
  exact e2 decDigits_zero
 ·rw [h1] at e;cases e
theorem dec_unique:∀ (n:Nat) (s:List UInt8),s.length=n→s≠[]→s.all digB=true→(s.head?=some 48→s=[48])→s=Lib.decDigits (decF 0 s):=by
 intro n
 induction n with
 | zero => intro s h h0;exact absurd (List.length_eq_zero_iff.1 h) h0
 | succ n ih =>
  intro s hl h0 hd hz
  obtain ⟨t,c,rfl⟩:∃ t c,s=t++[c]:=⟨s.dropLast,s.getLast h0,(List.dropLast_concat_getLast h0).symm⟩
  rw [List.all_append,Bool.and_eq_true] at hd
  have hc:48≤c.toNat∧c.toNat≤57:=by
   have:=hd.2
   simp only [List.all_cons,List.all_nil,Bool.and_true] at this
   exact of_decide_eq_true this
  have hcu:UInt8.ofNat (48+(c.toNat - 48))=c:=by
   rw [show 48+(c.toNat - 48)=c.toNat by omega];simp
  rw [decF_app]
  by_cases ht:t=[]
  ·subst ht
   rw [show decF 0 []=0 from rfl,Nat.zero_mul,Nat.zero_add,Lib.decDigits,dif_pos (by omega),hcu];rfl
  ·have hlt:t.length=n:=by simpa using hl
   have hh:t.head?=some 48→False:=fun e=>by
    have:(t++[c]).head?=some 48:=by
     cases t with
     | nil => exact absurd rfl ht
     | cons x xs => simpa using e
    have:=congrArg List.length (hz this)
    simp only [List.length_append,List.length_cons,List.length_nil] at this
    exact ht (List.length_eq_zero_iff.1 (by omega))
   have hr:=ih t hlt ht hd.1 fun e=>(hh e).elim
   have hp:1≤decF 0 t:=by
    rcases Nat.eq_zero_or_pos (decF 0 t) with e | e
    ·rw [e,decDigits_zero] at hr
     exact (hh (by rw [hr];rfl)).elim
    ·exact e
   rw [Lib.decDigits,dif_neg (by omega),show (decF 0 t*10+(c.toNat - 48)) / 10=decF 0 t by omega,show (decF 0 t*10+(c.toNat - 48)) % 10=c.toNat - 48 by omega,←hr,hcu]
theorem decI_inv {s:List UInt8} (h:(decI s).2=0):0≤(decI s).1∧(decI s).1≤1125899906842624∧s=Lib.itoa (decI s).1:=by
 unfold decI at h ⊢
 split at h
 ·cases h
 ·next h1=>
  split at h
  ·cases h
  ·next h2=>
   rw [if_neg h1,if_neg h2]
   simp only [not_or] at h1
   refine ⟨Int.natCast_nonneg _,by show ((decF 0 s:Nat):Int)≤_;omega,?_⟩
   show s=Lib.itoa ((decF 0 s:Nat):Int)
   rw [itoa_nat]
   exact dec_unique _ s rfl h1.1 (by simpa using h1.2.2) fun e=>Classical.byContradiction fun k=>h1.2.1 ⟨e,k⟩
theorem decDigits_free {c:UInt8} (hc:c.toNat<48) (u:Nat):c∉Lib.decDigits u:=fun h=>by
 have h1:=List.all_eq_true.1 (decDigits_dec u).1 c h
 have:=of_decide_eq_true h1
 omega
theorem itoa_free {c:UInt8} (hc:c.toNat<45) (n:Int):c∉Lib.itoa n:=by
 unfold Lib.itoa
 split
 ·intro h
  rcases List.mem_cons.1 h with h | h
  ·subst h;exact absurd hc (by decide)
  ·exact decDigits_free (by omega) _ h
 ·exact decDigits_free (by omega) _
end Go.Proofs.YtlfdfkbmollaaaaGreatDoor

namespace Go.Proofs.YtlfdfkbmollaaaaGreatDoor
abbrev Fits (v:List Int):Prop:=∀ x∈v,0≤x∧x≤1125899906842624
theorem splitC_line:∀ (vs:List Int) (w:List UInt8),32∉w→splitC 32 (w++cntL vs)=w :: vs.map Lib.itoa
 | [],w,h => by rw [cntL,List.append_nil,splitC_no h];rfl
 | v :: vs,w,h => by
  rw [cntL,splitC_at _ h,splitC_line vs (Lib.itoa v) (itoa_free (by decide) v)];rfl
theorem joinW_line:∀ (vs:List Int) (w:List UInt8),joinW 32 (w :: vs.map Lib.itoa)=w++cntL vs
 | [],w => by simp [joinW,cntL]
 | v :: vs,w => by
  rw [List.map_cons,joinW_cons (List.cons_ne_nil _ _),joinW_line vs (Lib.itoa v),cntL]
theorem wordsGo_err {n:Nat} {first:List UInt8→Int} {r:Rdr} (h:r.e≠0):∀ (ws:List (List UInt8)) (k:Nat) (col:Int) (out:List Int),(wordsGo n first ws k col out r).2.1=r
 | [],_,_,_ => rfl
 | w :: ws,k,col,out => by rw [wordsGo,if_pos h]
theorem wordsGo_fwd {n:Nat} {first:List UInt8→Int} {r:Rdr} (h:r.e=0):∀ (vs:List Int) (k:Nat) (col:Int) (out:List Int),Fits vs→1≤k→k+vs.length≤n+1→wordsGo n first (vs.map Lib.itoa) k col out r=(out++vs,r,false)
 | [],_,_,_,_,_,_ => by rw [List.append_nil];rfl
 | v :: vs,k,col,out,hv,hk,hn => by
  have h1:=hv v (by simp)
  obtain ⟨u,rfl⟩:∃ u:Nat,v=u:=⟨v.toNat,by omega⟩
  rw [List.length_cons] at hn
  rw [List.map_cons,wordsGo,if_neg (by simp [h]),if_neg (by omega),if_neg (by omega),decI_itoa (by omega),if_neg (by simp),wordsGo_fwd h vs _ _ _ (fun x hx=>hv x (List.mem_cons_of_mem _ hx)) (by omega) (by omega)]
  simp
theorem failq_e {r:Rdr} {col e:Int} (h:r.e=0):(r.fail col e).e=e:=by unfold Rdr.fail;rw [if_pos h]
theorem fail_no {r:Rdr} {col e:Int} (h:r.e≠0):r.fail col e=r:=by unfold Rdr.fail;rw [if_neg h]
theorem wordsGo_inv {n : Nat} {first : List UInt8 → Int} {r : Rdr} (h : r.e = 0) : ∀ (ws : List (List UInt8)) (k : Nat) (col : Int) (out : List Int), 1 ≤ k → (wordsGo n first ws k col out r).2.1.e = 0 →
    ∃ vs,Fits vs∧ws=vs.map Lib.itoa∧wordsGo n first ws k col out r=(out++vs,r,false)∧(vs≠[]→k+vs.length≤n+1)
 | [],k,col,out,_,_ => ⟨[],fun x hx => (by cases hx),rfl,by rw [List.append_nil];rfl,fun e => absurd rfl e⟩
 | w :: ws,k,col,out,hk,he => by
  rw [wordsGo,if_neg (by simp [h]),if_neg (by omega)] at he ⊢
  by_cases hn:n<k
  ·rw [if_pos hn,wordsGo_err (by rw [failq_e h];decide),failq_e h] at he
   exact absurd he (by decide)
  ·rw [if_neg hn] at he ⊢
   by_cases hd:(decI w).2=0
   ·rw [if_neg (by simp [hd])] at he ⊢
    obtain ⟨vs,h1,h2,h3,h4⟩:=wordsGo_inv h ws (k+1) _ (out++[(decI w).1]) (by omega) he
    obtain ⟨d1,d2,d3⟩:=decI_inv hd
    refine ⟨(decI w).1 :: vs,fun x hx=>?_,?_,?_,fun _=>?_⟩
    ·rcases List.mem_cons.1 hx with rfl | hx
     ·exact ⟨d1,d2⟩
     ·exact h1 x hx
    ·rw [List.map_cons,←d3,←h2]
    ·rw [h3];simp
    ·rw [List.length_cons]
     by_cases hv:vs=[]
     ·subst hv;simp;omega
     ·have:=h4 hv;omega
   ·rw [if_pos hd,wordsGo_err (by rw [failq_e h];exact hd),failq_e h] at he
    exact absurd he hd
theorem counts_fwd {n : Nat} {first : List UInt8 → Int} {r : Rdr} (h : r.e = 0) {w : List UInt8} (hw : 32 ∉ w) (hf : first w = 0) {vs : List Int} (hv : Fits vs) (hn : vs.length = n) :
    r.counts (w++cntL vs) (Lib.split (w++cntL vs) [32]) n first=(vs,r):=by
 rw [split_eq,splitC_line vs w hw]
 have e:wordsGo n first (w :: vs.map Lib.itoa) 0 1 [] r=(vs,r,false):=by
  rw [wordsGo,if_neg (by simp [h]),if_pos rfl,if_neg (by simp [hf]),wordsGo_fwd h vs _ _ _ hv (by omega) (by omega)];rfl
 unfold Rdr.counts
 simp only [e]
 rw [if_neg (by decide),if_neg (by omega)]
theorem counts_inv {n : Nat} {first : List UInt8 → Int} {r : Rdr} (h : r.e = 0) {line : List UInt8} (he : (r.counts line (Lib.split line [32]) n first).2.e = 0) :
    ∃ w vs,32∉w∧first w=0∧Fits vs∧vs.length=n∧line=w++cntL vs∧r.counts line (Lib.split line [32]) n first=(vs,r):=by
 have hj:=join_splitC (c:=32) line
 have hm:=splitC_mem (c:=32) line
 rw [split_eq] at he ⊢
 have hne:=splitC_ne (c:=32) line
 generalize splitC 32 line=L at hj hm hne he ⊢
 cases L with
 | nil => exact absurd rfl hne
 | cons w ws =>
  have h0:(wordsGo n first (w :: ws) 0 1 [] r).2.1.e=0:=by
   unfold Rdr.counts at he
   simp only at he
   refine Classical.byContradiction fun hn=>?_
   split at he
   ·exact hn he
   ·dsimp only at he
    split at he
    ·rw [fail_no hn] at he;exact hn he
    ·exact hn he
  have e1:wordsGo n first (w :: ws) 0 1 [] r=wordsGo n first ws 1 (1+(w.length+1)) [] (if first w≠0 then r.fail 1 (first w) else r):=by
   rw [wordsGo,if_neg (by simp [h]),if_pos rfl]
  by_cases hf:first w=0
  ·rw [if_neg (by simp [hf])] at e1
   rw [e1] at h0
   obtain ⟨vs,k1,k2,k3,k4⟩:=wordsGo_inv h ws 1 _ [] (by omega) h0
   have e2:wordsGo n first (w :: ws) 0 1 [] r=(vs,r,false):=by rw [e1,k3];rfl
   have hn:vs.length=n:=by
    have h5:vs.length≤n:=by
     by_cases hv:vs=[]
     ·subst hv;simp
     ·have:=k4 hv;omega
    unfold Rdr.counts at he
    simp only [e2] at he
    rw [if_neg (by decide)] at he
    dsimp only at he
    split at he
    ·rw [failq_e h] at he;exact absurd he (by decide)
    ·omega
   refine ⟨w,vs,hm w (by simp),hf,k1,hn,?_,?_⟩
   ·rw [←hj,k2,joinW_line]
   ·unfold Rdr.counts
    simp only [e2]
    rw [if_neg (by decide),if_neg (by omega)]
  ·rw [if_pos hf] at e1
   rw [e1,wordsGo_err (by rw [failq_e h];exact hf),failq_e h] at h0
   exact absurd h0 hf
theorem next_fwd {a b:List UInt8} {k al ac:Int} (h:10∉a):(Rdr.mk (a++10 :: b) k al ac 0).next=(a,⟨b,k+1,al,ac,0⟩):=by
 unfold Rdr.next
 rw [if_neg (by simp),if_neg (by simp),cut_at b h,if_neg (by simp)]
theorem next_inv {r:Rdr} (h:r.e=0) (he:r.next.2.e=0):10∉r.next.1∧r.rest=r.next.1++10 :: r.next.2.rest∧r.next.2=⟨r.next.2.rest,r.line+1,r.al,r.ac,0⟩:=by
 unfold Rdr.next at he ⊢
 rw [if_neg (by simp [h])] at he ⊢
 split at he
 ·exact absurd he (by show ¬(4:Int)=0;decide)
 ·next h1=>
  rw [if_neg h1]
  split at he
  ·exact absurd he (by show ¬(4:Int)=0;decide)
  ·next h2=>
   rw [if_neg h2]
   obtain ⟨k1,k2⟩:=cut_yes (c:=10) (s:=r.rest) (by simpa using h2)
   exact ⟨k1,k2,by simp [h]⟩
theorem next_err {r:Rdr} (h:r.e≠0):r.next.2=r:=by
 unfold Rdr.next;rw [if_pos h]
/-! names -/
theorem nameS_free {c:UInt8} (hc:c.toNat<48):∀ {l:List UInt8},nameS l=true→c∉l
 | [],_ => by simp
 | x :: l,h => by
  simp only [nameS,Bool.and_eq_true,List.all_eq_true] at h
  have hl:∀ y:UInt8,letB y=true→y.toNat≠c.toNat:=fun y hy=>by
   have:=of_decide_eq_true hy;omega
  intro hm
  rcases List.mem_cons.1 hm with rfl | hm
  ·exact hl _ h.1.1 rfl
  ·have h1:=h.1.2 c hm
   simp only [Bool.or_eq_true,beq_iff_eq] at h1
   rcases h1 with (h1 | h1) | h1
   ·exact hl _ h1 rfl
   ·rw [h1] at hc;exact absurd hc (by decide)
   ·have:=of_decide_eq_true h1;omega
theorem titleE_self {nm:List UInt8} {u:Nat} (h:nameS nm=true) (hu:u≤1125899906842624):titleE (nm++46 :: Lib.itoa (u:Int)) (nm++46 :: Lib.itoa (u:Int))=0:=by
 unfold titleE
 rw [cut_at _ (nameS_free (by decide) h),if_neg (by simp [h]),decI_itoa hu,if_neg (by simp),if_neg (by simp)]
theorem titleE_eq {w want:List UInt8} (h:titleE w want=0):w=want:=by
 unfold titleE at h
 split at h
 ·exact absurd h (by decide)
 ·split at h
  ·next h1=>exact absurd h h1
  ·split at h
   ·exact absurd h (by decide)
   ·next h2=>exact Classical.not_not.1 h2
theorem wordE_eq {w want:List UInt8} (h:wordE want w=0):w=want:=by
 unfold wordE at h
 split at h
 ·exact absurd h (by decide)
 ·next h2=>exact Classical.not_not.1 h2
/-! the lines of the own events -/
def putJ:List EvE→List (List Int)→List (List (List Int))→List (List (List Int))
 | x :: xs,v :: vs,J => putJ xs vs (setJ J x v)
 | _,_,J => J
def lineV (T:Tr) (x:EvE) (v:List Int):List UInt8:=evN T x++cntL v++[10]
def linesV (T:Tr):List EvE→List (List Int)→List UInt8
 | x :: xs,v :: vs => lineV T x v++linesV T xs vs
 | _,_ => []
structure EvG (T:Tr) (x:EvE):Prop where
 nm:nameS (T.name x.1.toNat).data.toList=true
 ix:0≤x.2∧x.2≤1125899906842624
theorem cntL_free {c:UInt8} (hc:c.toNat<45) (h32:c≠32):∀ (vs:List Int),c∉cntL vs
 | [] => by simp [cntL]
 | v :: vs => by
  rw [cntL]
  simp only [List.mem_cons,List.mem_append,not_or]
  exact ⟨h32,itoa_free hc v,cntL_free hc h32 vs⟩
theorem EvG.free {T:Tr} {x:EvE} (h:EvG T x) {c:UInt8} (hc:c.toNat<45):c∉evN T x:=by
 unfold evN
 simp only [List.mem_append,List.mem_cons,not_or]
 exact ⟨nameS_free (by omega) h.nm,fun e=>by rw [e] at hc;exact absurd hc (by decide),itoa_free hc _⟩
theorem EvG.title {T:Tr} {x:EvE} (h:EvG T x):titleE (evN T x) (evN T x)=0:=by
 obtain ⟨h1,h2⟩:=h.ix
 obtain ⟨u,hu⟩:∃ u:Nat,x.2=u:=⟨x.2.toNat,by omega⟩
 unfold evN
 rw [hu]
 exact titleE_self h.nm (by omega)
theorem evsGo_fwd {T : Tr} {al ac : Int} {b : List UInt8} : ∀ (xs : List EvE) (vs : List (List Int)) (J : List (List (List Int))) (k : Int), (∀ x ∈ xs, EvG T x) → xs.length = vs.length → (∀ v ∈ vs, Fits v ∧ v.length = T.n) →
    evsGo T xs J ⟨linesV T xs vs++b,k,al,ac,0⟩=(putJ xs vs J,⟨b,k+xs.length,al,ac,0⟩)
 | [],[],J,k,_,_,_ => by simp [evsGo,putJ,linesV]
 | [],_ :: _,_,_,_,h,_ => by simp at h
 | _ :: _,[],_,_,_,h,_ => by simp at h
 | x :: xs,v :: vs,J,k,hx,hl,hv => by
  have h1:=hx x (by simp)
  obtain ⟨h2,h3⟩:=hv v (by simp)
  have hn:(Rdr.mk (linesV T (x :: xs) (v :: vs)++b) k al ac 0).next=(evN T x++cntL v,⟨linesV T xs vs++b,k+1,al,ac,0⟩):=by
   rw [show linesV T (x :: xs) (v :: vs)++b=(evN T x++cntL v)++10 :: (linesV T xs vs++b) by simp [linesV,lineV]]
   refine next_fwd ?_
   simp only [List.mem_append,not_or]
   exact ⟨h1.free (by decide),cntL_free (by decide) (by decide) v⟩
  rw [evsGo,hn]
  dsimp only
  rw [if_neg (by decide),counts_fwd (first:=fun w=>titleE w (evN T x)) rfl (h1.free (by decide)) h1.title h2 h3,evsGo_fwd xs vs _ _ (fun y hy=>hx y (List.mem_cons_of_mem _ hy)) (by simpa using hl) (fun y hy=>hv y (List.mem_cons_of_mem _ hy)),putJ]
  simp only [List.length_cons,Prod.mk.injEq,Rdr.mk.injEq,true_and,and_true]
  omega
theorem evsGo_inv {T : Tr} : ∀ (xs : List EvE) (J : List (List (List Int))) (r : Rdr), (evsGo T xs J r).2.e = 0 → r.e = 0 →
    ∃ vs,xs.length=vs.length∧(∀ v∈vs,Fits v∧v.length=T.n)∧r.rest=linesV T xs vs++(evsGo T xs J r).2.rest∧(evsGo T xs J r).1=putJ xs vs J∧(evsGo T xs J r).2.line+((evsGo T xs J r).2.rest.length:Int)≤r.line+(r.rest.length:Int)
 | [],J,r,_,_ => ⟨[],rfl,fun x hx => (by cases hx),rfl,rfl,Int.le_refl _⟩
 | x :: xs,J,r,he,hr => by
  rw [evsGo] at he ⊢
  by_cases hn:r.next.2.e=0
  ·rw [if_neg (by simp [hn])] at he ⊢
   by_cases hc:(r.next.2.counts r.next.1 (Lib.split r.next.1 [32]) T.n (fun w=>titleE w (evN T x))).2.e=0
   ·obtain ⟨w,v,c1,c2,c3,c4,c5,c6⟩:=counts_inv hn hc
    rw [c6] at he ⊢
    obtain ⟨n1,n2,n3⟩:=next_inv hr hn
    obtain ⟨vs,k1,k2,k3,k4,k5⟩:=evsGo_inv xs _ _ he hn
    obtain rfl:=titleE_eq c2
    refine ⟨v :: vs,by simp [k1],fun y hy=>?_,?_,?_,?_⟩
    ·rcases List.mem_cons.1 hy with rfl | hy
     ·exact ⟨c3,c4⟩
     ·exact k2 y hy
    ·rw [n2,k3,c5]
     simp [linesV,lineV]
    ·rw [k4,putJ]
    ·have h1:r.next.2.line=r.line+1:=by rw [n3]
     have h2:r.rest.length=r.next.1.length+(r.next.2.rest.length+1):=by rw [n2,List.length_append,List.length_cons]
     dsimp only at k5 ⊢
     omega
   ·exfalso
    have hst:∀ (xs:List EvE) (J:List (List (List Int))) (q:Rdr),q.e≠0→(evsGo T xs J q).2.e≠0:=by
     intro xs J q hq
     cases xs with
     | nil => exact hq
     | cons y ys =>
      rw [evsGo,if_pos (by rw [next_err hq];exact hq)]
      show q.next.2.e≠0
      rw [next_err hq];exact hq
    exact hst _ _ _ hc he
  ·rw [if_pos hn] at he
   exact absurd he hn
/-! places of errors -/
structure Rdr.Pl (r:Rdr):Prop where
 l:1≤r.line
 p:r.e≠0→1≤r.al∧1≤r.ac
theorem Rdr.Pl.fail {r:Rdr} (h:r.Pl) {c:Int} (hc:1≤c) (e:Int):(r.fail c e).Pl:=by
 unfold Rdr.fail
 split
 ·exact ⟨h.l,fun _=>⟨h.l,hc⟩⟩
 ·exact h
theorem wordsGo_pl (n:Nat) (first:List UInt8→Int):∀ (ws:List (List UInt8)) (k:Nat) (col:Int) (out:List Int) (r:Rdr),1≤col→r.Pl→(wordsGo n first ws k col out r).2.1.Pl
 | [],_,_,_,_,_,h => h
 | w :: ws,k,col,out,r,hc,h => by
  rw [wordsGo]
  split
  ·exact h
  ·split
   ·refine wordsGo_pl n first ws _ _ _ _ (by omega) ?_
    split
    ·exact h.fail hc _
    ·exact h
   ·split
    ·exact wordsGo_pl n first ws _ _ _ _ (by omega) (h.fail hc _)
    ·refine wordsGo_pl n first ws _ _ _ _ (by omega) ?_
     split
     ·exact h.fail hc _
     ·exact h
theorem Rdr.Pl.counts {r:Rdr} (h:r.Pl) (line:List UInt8) (ws:List (List UInt8)) (n:Nat) (first:List UInt8→Int):(r.counts line ws n first).2.Pl:=by
 have hw:=wordsGo_pl n first ws 0 1 [] r (by omega) h
 unfold Rdr.counts
 simp only
 split
 ·exact hw
 ·dsimp only
  split
  ·exact hw.fail (by omega) _
  ·exact hw
theorem next_pl {r:Rdr} (h0:0≤r.line) (h:r.e≠0→1≤r.line∧1≤r.al∧1≤r.ac):r.next.2.Pl:=by
 unfold Rdr.next
 split
 ·next h1=>exact ⟨(h h1).1,fun _=>(h h1).2⟩
 ·next h1=>
  split
  ·exact ⟨by show 1≤r.line+1;omega,fun _=>⟨by show 1≤r.line+1;omega,Int.le_refl _⟩⟩
  ·split
   ·exact ⟨by show 1≤r.line+1;omega,fun _=>⟨by show 1≤r.line+1;omega,by show (1:Int)≤_+1;omega⟩⟩
   ·exact ⟨by show 1≤r.line+1;omega,fun e=>absurd e h1⟩
theorem Rdr.Pl.next {r:Rdr} (h:r.Pl):r.next.2.Pl:=next_pl (by have:=h.l;omega) fun e=>⟨h.l,h.p e⟩
theorem evsGo_pl (T:Tr):∀ (xs:List EvE) (J:List (List (List Int))) (r:Rdr),r.Pl→(evsGo T xs J r).2.Pl
 | [],_,_,h => h
 | x :: xs,J,r,h => by
  rw [evsGo]
  split
  ·exact h.next
  ·exact evsGo_pl T xs _ _ (h.next.counts _ _ _ _)
end Go.Proofs.YtlfdfkbmollaaaaGreatDoor

namespace Go.Proofs.YtlfdfkbmollaaaaGreatDoor
abbrev gJ (J:List (List (List Int))) (p i:Nat):List Int:=(J.getD p []).getD i []
def InJ (J:List (List (List Int))) (x:EvE):Prop:=∃ p i:Nat,x=((p:Int),(i:Int)+1)∧p<J.length∧i<(J.getD p []).length
theorem setJ_len (J:List (List (List Int))) (x:EvE) (v:List Int):(setJ J x v).length=J.length:=by unfold setJ;rw [List.length_set]
theorem setJ_row {J:List (List (List Int))} {x:EvE} (h:InJ J x) (v:List Int) (q:Nat):((setJ J x v).getD q []).length=(J.getD q []).length:=by
 obtain ⟨p,i,rfl,hp,hi⟩:=h
 rw [setJ_ev,set_getD hp]
 split
 ·next e=>rw [e,List.length_set]
 ·rfl
theorem setJ_get {J:List (List (List Int))} {x:EvE} (h:InJ J x) (v:List Int) (q j:Nat):gJ (setJ J x v) q j=if x=((q:Int),(j:Int)+1) then v else gJ J q j:=by
 obtain ⟨p,i,rfl,hp,hi⟩:=h
 unfold gJ
 rw [setJ_ev,set_getD hp]
 by_cases hq:q=p
 ·rw [if_pos hq,set_getD hi,hq]
  by_cases hj:j=i
  ·rw [if_pos hj,if_pos (by rw [hj])]
  ·rw [if_neg hj,if_neg (by simp only [Prod.mk.injEq];omega)]
 ·rw [if_neg hq,if_neg (by simp only [Prod.mk.injEq];omega)]
theorem InJ.set {J:List (List (List Int))} {x y:EvE} (h:InJ J x) (k:InJ J y) (v:List Int):InJ (setJ J x v) y:=by
 obtain ⟨p,i,e,hp,hi⟩:=k
 exact ⟨p,i,e,by rw [setJ_len];exact hp,by rw [setJ_row h];exact hi⟩
theorem putJ_map (V : EvE → List Int) : ∀ (xs : List EvE) (J : List (List (List Int))), (∀ x ∈ xs, InJ J x) →
    (putJ xs (xs.map V) J).length=J.length∧(∀ p,((putJ xs (xs.map V) J).getD p []).length=(J.getD p []).length)∧
    ∀ p i:Nat,gJ (putJ xs (xs.map V) J) p i=if ((p:Int),(i:Int)+1)∈xs then V ((p:Int),(i:Int)+1) else gJ J p i
 | [],J,_ => ⟨rfl,fun _ => rfl,fun p i => by rw [if_neg (by simp)];rfl⟩
 | x :: xs,J,h => by
  have hx:=h x (by simp)
  obtain ⟨h1,h2,h3⟩:=putJ_map V xs (setJ J x (V x)) fun y hy=>hx.set (h y (List.mem_cons_of_mem _ hy)) _
  rw [List.map_cons,putJ]
  refine ⟨h1.trans (setJ_len _ _ _),fun p=>(h2 p).trans (setJ_row hx _ p),fun p i=>?_⟩
  rw [h3,setJ_get hx]
  by_cases hm:((p:Int),(i:Int)+1)∈xs
  ·rw [if_pos hm,if_pos (List.mem_cons_of_mem _ hm)]
  ·rw [if_neg hm]
   by_cases he:x=((p:Int),(i:Int)+1)
   ·rw [if_pos he,if_pos (by rw [he];simp),he]
   ·rw [if_neg he,if_neg (by simp only [List.mem_cons,not_or];exact ⟨fun e=>he e.symm,hm⟩)]
theorem vals_fn:∀ (xs:List EvE) (vs:List (List Int)),xs.Nodup→xs.length=vs.length→∃ V:EvE→List Int,vs=xs.map V
 | [],[],_,_ => ⟨fun _ => [],rfl⟩
 | [],_ :: _,_,h => by simp at h
 | _ :: _,[],_,h => by simp at h
 | x :: xs,v :: vs,hn,hl => by
  obtain ⟨h1,h2⟩:=List.nodup_cons.1 hn
  obtain ⟨V,hV⟩:=vals_fn xs vs h2 (by simpa using hl)
  refine ⟨fun y=>if y=x then v else V y,?_⟩
  rw [List.map_cons,if_pos rfl,hV]
  congr 1
  exact List.map_congr_left fun y hy=>(if_neg fun e=>h1 (by rw [←e];exact hy)).symm
theorem ownL_nodup (u v:Nat→Int):∀ n,(ownL u v n).Nodup
 | 0 => List.nodup_nil
 | n+1 => by
  rw [ownL,List.nodup_append]
  refine ⟨ownL_nodup u v n,?_,fun x hx y hy e=>?_⟩
  ·unfold ownP
   rw [List.nodup_iff_pairwise_ne,List.pairwise_map]
   exact List.Pairwise.imp (fun {a b} (h:a<b) e=>by simp only [Prod.mk.injEq] at e;omega) List.pairwise_lt_range
  ·obtain ⟨p,k,hp,_,rfl⟩:=mem_ownL.1 hx
   obtain ⟨j,_,rfl⟩:=List.mem_map.1 hy
   simp only [Prod.mk.injEq] at e
   omega
theorem ownL_congr {u v u' v':Nat→Int}:∀ {n:Nat},(∀ p,p<n→u p=u' p∧v p=v' p)→ownL u v n=ownL u' v' n
 | 0,_ => rfl
 | n+1,h => by
  rw [ownL,ownL,ownL_congr fun p hp=>h p (by omega),(h n (by omega)).2,(h n (by omega)).1]
  congr 1
  unfold ownP
  rw [(h n (by omega)).1]
theorem own_mem {u v:Nat→Int} {n:Nat} (h0:∀ p,p<n→0≤u p) (p i:Nat):((p:Int),(i:Int)+1)∈ownL u v n↔p<n∧u p<(i:Int)+1∧(i:Int)+1≤v p:=by
 rw [mem_ownL]
 constructor
 ·rintro ⟨q,k,hq,hk,e⟩
  simp only [Prod.mk.injEq] at e
  obtain rfl:p=q:=by omega
  exact ⟨hq,by omega,by omega⟩
 ·rintro ⟨hp,h1,h2⟩
  have:=h0 p hp
  exact ⟨p,((i:Int) - u p).toNat,hp,by omega,by rw [Prod.mk.injEq];exact ⟨rfl,by omega⟩⟩
theorem ownf_at {u v:Nat→Int} {n:Nat} (h0:∀ p,p<n→0≤u p) {x:EvE} (h:x∈ownL u v n):∃ p i:Nat,x=((p:Int),(i:Int)+1)∧p<n∧u p<(i:Int)+1∧(i:Int)+1≤v p:=by
 obtain ⟨p,k,hp,hk,e⟩:=mem_ownL.1 h
 have:=h0 p hp
 refine ⟨p,((u p)+k).toNat,?_,hp,by omega,by omega⟩
 rw [e,Prod.mk.injEq]
 exact ⟨rfl,by omega⟩
theorem gi_vL {v:Nat→Int} {n q:Nat} (h:q<n):gi (vL v n) q=v q:=by
 unfold gi vL
 rw [getD_lt (by simpa using h)];simp
theorem vL_gi {l:List Int} {v:Nat→Int} {n:Nat} (hn:l.length=n) (h:∀ q,q<n→v q=gi l q):vL v n=l:=by
 refine List.ext_getElem (by rw [vL_len,hn]) fun i h1 h2=>?_
 have:i<n:=by omega
 have e:=h i this
 unfold gi at e
 rw [getD_lt h2] at e
 simp only [vL,List.getElem_map,List.getElem_range]
 exact e
def SlcD.Ev (S:SlcD) (n:Nat) (x:EvE):List Int:=vL (natV (fn (S.E n x))) n
theorem SlcD.Ev_at (S:SlcD) {n p i:Nat} {q:Nat} (hq:q<n) (h0:0≤(S.j.m p).val i q):gi (S.Ev n ((p:Int),(i:Int)+1)) q=(S.j.m p).val i q:=by
 unfold SlcD.Ev
 rw [gi_vL hq,S.E_at]
 unfold natV
 rw [fn_rowOf hq];omega
theorem linesV_map (T:Tr) (V:EvE→List Int):∀ (xs:List EvE),linesV T xs (xs.map V)=(xs.map fun x=>lineV T x (V x)).flatten
 | [] => rfl
 | x :: xs => by rw [List.map_cons,linesV,linesV_map T V xs];rfl
def textV' (T:Tr) (f l:List Int) (own:List EvE) (vs:List (List Int)):List UInt8:=
 ([102,105,114,115,116]++cntL f)++10 :: (([108,97,115,116]++cntL l)++10 :: (linesV T own vs++[]))
theorem textL_eq (T:Tr) (S:SlcD):textL T S=textV' T (vL S.f.z T.n) (vL S.l.z T.n) (S.own T.n) ((S.own T.n).map (S.Ev T.n)):=by
 unfold textL textV' headL linesL
 rw [List.take_length,linesV_map]
 simp only [List.append_assoc,List.cons_append,List.nil_append,List.append_nil]
 rfl
theorem nameS_of {s:ByteArray} (h:nameB s=true):nameS s.data.toList=true:=by
 unfold nameB at h
 simp only [Bool.and_eq_true,decide_eq_true_eq] at h
 obtain ⟨⟨⟨h1,h2⟩,h3⟩,h4⟩:=h
 have hl:s.data.toList.length=s.size:=by simp
 generalize s.data.toList=l at h3 h4 hl
 cases l with
 | nil => simp at hl;omega
 | cons c t =>
  have hL:∀ d:UInt8,letterB d.toNat=letB d:=fun d=>by
   unfold letterB letB
   rw [Bool.eq_iff_iff]
   simp only [Bool.or_eq_true,Bool.and_eq_true,decide_eq_true_eq]
   omega
  have hD:∀ d:UInt8,digitB d.toNat=digB d:=fun d=>by
   unfold digitB digB
   rw [Bool.eq_iff_iff]
   simp only [Bool.and_eq_true,decide_eq_true_eq]
   omega
  simp only [nameS,Bool.and_eq_true,decide_eq_true_eq]
  rw [List.headD_cons,hL] at h3
  rw [List.length_cons] at hl
  refine ⟨⟨h3,?_⟩,by omega⟩
  rw [List.all_cons,Bool.and_eq_true] at h4
  refine List.all_eq_true.2 fun d hd=>?_
  have:=List.all_eq_true.1 h4.2 d hd
  unfold nameC at this
  rw [hL,hD] at this
  simp only [Bool.or_eq_true,decide_eq_true_eq,beq_iff_eq] at this ⊢
  rcases this with (k | k) | k
  ·exact .inl (.inl k)
  ·exact .inr k
  ·exact .inl (.inr (UInt8.toNat_inj.1 k))
theorem Tr.Valid.evg {T:Tr} (hV:T.Valid) {u v:Nat→Int} (h0:∀ p,p<T.n→0≤u p) (h1:∀ p,p<T.n→v p≤T.en p):∀ x∈ownL u v T.n,EvG T x:=fun x hx=>by
 obtain ⟨p,i,rfl,hp,h2,h3⟩:=ownf_at h0 hx
 have:=h1 p hp
 have:=hV.en64 hp
 exact ⟨nameS_of (hV.pr p hp).1,by show 0≤(i:Int)+1;omega,by show (i:Int)+1≤_;omega⟩
theorem J0_eq (T:Tr) (f:List Int):J0 T f=J0k T f T.n:=rfl
theorem J0_in {T:Tr} {f:List Int} {u v:Nat→Int} (h0:∀ p,p<T.n→0≤u p) (h1:∀ p,p<T.n→v p≤T.en p):∀ x∈ownL u v T.n,InJ (J0 T f) x:=fun x hx=>by
 obtain ⟨p,i,rfl,hp,h2,h3⟩:=ownf_at h0 hx
 have:=h1 p hp
 exact ⟨p,i,rfl,by rw [J0_eq,J0k_len];exact hp,by rw [J0_eq,J0k_get hp,rowF_len];omega⟩
theorem J0_get {T:Tr} {f:List Int} {p i:Nat} (hp:p<T.n) (hi:i<T.en p):gJ (J0 T f) p i=if i<(gi f p).toNat then f else []:=by
 unfold gJ
 rw [J0_eq,J0k_get hp,getD_lt (by rw [rowF_len];exact hi)]
 simp [rowF]
def slL (T:Tr) (S:SlcD):SL:=⟨false,vL S.f.z T.n,vL S.l.z T.n,putJ (S.own T.n) ((S.own T.n).map (S.Ev T.n)) (J0 T (vL S.f.z T.n))⟩
theorem SlcD.Ok.lists {S:SlcD} {T:Tr} (h:S.Ok T) (he:S.em=false):S.Is (slL T S):=by
 obtain ⟨hV,⟨h1,_⟩ | ⟨_,hSh,hR,_⟩⟩:=h
 ·rw [he] at h1;cases h1
 have hf:=hSh.1.1
 have hl:=hSh.1.2.1
 have fn':S.f.s.n=T.n:=hf.1.2
 have f0:∀ p,p<T.n→0≤S.f.z p:=fun p hp=>(hf.2.1 p (by omega)).1
 have l9:∀ p,p<T.n→S.l.z p≤T.en p:=fun p hp=>(hl.2.1 p (by omega)).2
 obtain ⟨k1,k2,k3⟩:=putJ_map (S.Ev T.n) (S.own T.n) (J0 T (vL S.f.z T.n)) (J0_in f0 l9)
 have k1':(slL T S).j.length=T.n:=k1.trans (by rw [J0_eq,J0k_len])
 have k2':∀ p,p<T.n→((slL T S).j.getD p []).length=T.en p:=fun p hp=>(k2 p).trans (by rw [J0_eq,J0k_get hp,rowF_len])
 have kf:∀ p i,p<T.n→i<T.en p→gJ (slL T S).j p i=if S.f.z p<(i:Int)+1∧(i:Int)+1≤S.l.z p then S.Ev T.n ((p:Int),(i:Int)+1) else if (i:Int)+1≤S.f.z p then vL S.f.z T.n else []:=fun p i hp hi=>by
  have:=f0 p hp
  show gJ (putJ _ _ _) p i=_
  rw [k3,J0_get hp hi,gi_vL hp]
  by_cases hm:S.f.z p<(i:Int)+1∧(i:Int)+1≤S.l.z p
  ·rw [if_pos ((own_mem f0 p i).2 ⟨hp,hm⟩),if_pos hm]
  ·rw [if_neg (fun k=>hm ((own_mem f0 p i).1 k).2),if_neg hm]
   by_cases hi2:i<(S.f.z p).toNat
   ·rw [if_pos hi2,if_pos (by omega)]
   ·rw [if_neg hi2,if_neg (by omega)]
 have key:∀ p i,p<T.n→i<T.en p→(S.j.m p).rn i=(gJ (slL T S).j p i).length∧∀ q,q<(gJ (slL T S).j p i).length→(S.j.m p).val i q=gi (gJ (slL T S).j p i) q:=fun p i hp hi=>by
  have hr:=hR p i hp hi
  have hfl:S.f.z p≤S.l.z p:=hSh.1.2.2.1.2 p (by omega)
  rw [kf p i hp hi]
  by_cases hm:S.f.z p<(i:Int)+1∧(i:Int)+1≤S.l.z p
  ·rw [if_pos hm]
   have hc:=hr.cut hSh hm.2
   have hn:(S.j.m p).rn i=T.n:=hc.1.2
   have hlen:(S.Ev T.n ((p:Int),(i:Int)+1)).length=T.n:=vL_len _ _
   rw [hlen]
   exact ⟨hn,fun q hq=>(S.Ev_at hq (hc.2.1 q (by omega)).1).symm⟩
  ·rw [if_neg hm]
   by_cases h2:(i:Int)+1≤S.f.z p
   ·rw [if_pos h2,vL_len]
    have h3:=(hr.1 (by omega)).1 h2
    exact ⟨h3.1.trans fn',fun q hq=>(h3.2 q (by rw [h3.1,fn'];exact hq)).trans (gi_vL hq).symm⟩
   ·rw [if_neg h2]
    exact ⟨hr.2 (by omega),fun q hq=>absurd hq (by simp)⟩
 refine ⟨he,?_,?_,?_,?_,?_,?_,?_,?_⟩
 ·exact fn'.trans (vL_len _ _).symm
 ·intro i hi
  exact (gi_vL (by rw [←vL_len S.f.z T.n];exact hi)).symm
 ·exact hl.1.2.trans (vL_len _ _).symm
 ·intro i hi
  exact (gi_vL (by rw [←vL_len S.l.z T.n];exact hi)).symm
 ·exact hSh.1.2.2.2.trans k1'.symm
 ·intro p hp
  rw [k1'] at hp
  exact (hSh.2 p hp).trans (k2' p hp).symm
 ·intro p i hp hi
  rw [k1'] at hp
  rw [k2' p hp] at hi
  exact (key p i hp hi).1
 ·intro p i q hp hi hq
  rw [k1'] at hp
  rw [k2' p hp] at hi
  exact (key p i hp hi).2 q hq
theorem read_fwd {S:SlcD} {T:Tr} (h:S.Ok T) (he:S.em=false):readP T (textL T S)=(slL T S,⟨[],2+(S.own T.n).length,0,0,0⟩):=by
 obtain ⟨hV,⟨h1,_⟩ | ⟨_,hSh,hR,_⟩⟩:=h
 ·rw [he] at h1;cases h1
 have hf:=hSh.1.1
 have hl:=hSh.1.2.1
 have fn':S.f.s.n=T.n:=hf.1.2
 have ln':S.l.s.n=T.n:=hl.1.2
 have f0:∀ p,p<T.n→0≤S.f.z p:=fun p hp=>(hf.2.1 p (by omega)).1
 have f9:∀ p,p<T.n→S.f.z p≤T.en p:=fun p hp=>(hf.2.1 p (by omega)).2
 have l0:∀ p,p<T.n→0≤S.l.z p:=fun p hp=>(hl.2.1 p (by omega)).1
 have l9:∀ p,p<T.n→S.l.z p≤T.en p:=fun p hp=>(hl.2.1 p (by omega)).2
 have hvL:∀ v:Nat→Int,(∀ p,p<T.n→0≤v p)→(∀ p,p<T.n→v p≤T.en p)→Fits (vL v T.n):=fun v a b x hx=>by
  obtain ⟨p,hp,rfl⟩:=List.mem_map.1 hx
  have hp:=List.mem_range.1 hp
  have:=a p hp
  have:=b p hp
  have:=hV.en64 hp
  omega
 have hcf:T.IsCut (vL S.f.z T.n).length (gi (vL S.f.z T.n)):=by
  rw [vL_len];rw [fn'] at hf
  exact hf.congr fun p hp=>gi_vL hp
 have hcl:T.IsCut (vL S.l.z T.n).length (gi (vL S.l.z T.n)):=by
  rw [vL_len];rw [ln'] at hl
  exact hl.congr fun p hp=>gi_vL hp
 have hle:LeqL (vL S.f.z T.n).length (vL S.l.z T.n).length (gi (vL S.f.z T.n)) (gi (vL S.l.z T.n)):=by
  rw [vL_len,vL_len]
  exact ⟨rfl,fun p hp=>by rw [gi_vL hp,gi_vL hp];exact hSh.1.2.2.1.2 p (by omega)⟩
 have hev:∀ v∈(S.own T.n).map (S.Ev T.n),Fits v∧v.length=T.n:=fun v hv=>by
  obtain ⟨x,hx,rfl⟩:=List.mem_map.1 hv
  obtain ⟨p,i,rfl,hp,h2,h3⟩:=ownf_at f0 hx
  have:=l9 p hp
  have hc:=(hR p i hp (by omega)).cut hSh h3
  refine ⟨fun y hy=>?_,vL_len _ _⟩
  obtain ⟨q,hq,rfl⟩:=List.mem_map.1 hy
  have hq:=List.mem_range.1 hq
  have h4:=hc.2.1 q hq
  have e:=S.Ev_at (p:=p) (i:=i) hq h4.1
  unfold SlcD.Ev at e
  rw [gi_vL hq] at e
  rw [e]
  have:=hV.en64 hq
  omega
 have how:ownL (gi (vL S.f.z T.n)) (gi (vL S.l.z T.n)) T.n=S.own T.n:=ownL_congr fun p hp=>⟨gi_vL hp,gi_vL hp⟩
 have hF:=hvL S.f.z f0 f9
 have hL:=hvL S.l.z l0 l9
 have lf:=vL_len S.f.z T.n
 have ll:=vL_len S.l.z T.n
 rw [textL_eq]
 unfold textV' slL
 generalize vL S.f.z T.n=f at *
 generalize vL S.l.z T.n=l at *
 have hfree:∀ (w:List UInt8) (v:List Int),10∉w→10∉w++cntL v:=fun w v hw=>by
  simp only [List.mem_append,not_or]
  exact ⟨hw,cntL_free (by decide) (by decide) v⟩
 unfold readP
 rw [next_fwd (hfree _ _ (by decide))]
 dsimp only
 rw [if_neg (by rintro ⟨_,e⟩;cases e),if_neg (by decide)]
 rw [counts_fwd (first:=wordE [102,105,114,115,116]) rfl (by decide) (by rfl) hF lf]
 have e1:cutE T (f,⟨([108,97,115,116]++cntL l)++10 :: (linesV T (S.own T.n) ((S.own T.n).map (S.Ev T.n))++[]),0+1,0,0,0⟩)=⟨([108,97,115,116]++cntL l)++10 :: (linesV T (S.own T.n) ((S.own T.n).map (S.Ev T.n))++[]),0+1,0,0,0⟩:=by
  unfold cutE
  rw [if_neg (fun k=>k.2 hcf)]
 rw [e1,next_fwd (hfree _ _ (by decide))]
 dsimp only
 rw [if_neg (by decide)]
 unfold readL
 dsimp only
 rw [counts_fwd (first:=wordE [108,97,115,116]) rfl (by decide) (by rfl) hL ll]
 have e2:cutE2 T f (l,⟨linesV T (S.own T.n) ((S.own T.n).map (S.Ev T.n))++[],0+1+1,0,0,0⟩)=⟨linesV T (S.own T.n) ((S.own T.n).map (S.Ev T.n))++[],0+1+1,0,0,0⟩:=by
  unfold cutE2
  rw [if_neg (fun k=>k.2.elim (fun k=>k hcl) (fun k=>k hle))]
 rw [e2,if_neg (by simp)]
 dsimp only
 rw [how,evsGo_fwd _ _ _ _ (hV.evg f0 l9) (by rw [List.length_map]) hev]
 rfl
theorem read_empty (T:Tr):readP T [101,109,112,116,121,10]=(⟨true,[],[],[]⟩,⟨[],1,0,0,0⟩):=by
 unfold readP
 rw [show ([101,109,112,116,121,10]:List UInt8)=[101,109,112,116,121]++10 :: [] from rfl,next_fwd (by decide)]
 dsimp only
 rw [if_pos ⟨rfl,rfl⟩];rfl
end Go.Proofs.YtlfdfkbmollaaaaGreatDoor

namespace Go.Proofs.YtlfdfkbmollaaaaGreatDoor
theorem wrap_small {x:Int} (h:0≤x∧x≤1000000000):IntKind.i64.wrap x=x:=IntWalk.i64_in _ (by omega)
theorem read_inv {T : Tr} {text : List UInt8} (h : (readP T text).2.e = 0) :
    (∃ b,text=[101,109,112,116,121]++10 :: b∧readP T text=(⟨true,[],[],[]⟩,⟨b,1,0,0,0⟩))∨
    (∃ f l vs,f.length=T.n∧l.length=T.n∧T.IsCut f.length (gi f)∧T.IsCut l.length (gi l)∧(ownL (gi f) (gi l) T.n).length=vs.length∧(∀ v∈vs,Fits v∧v.length=T.n)∧
     text=([102,105,114,115,116]++cntL f)++10 :: (([108,97,115,116]++cntL l)++10 :: (linesV T (ownL (gi f) (gi l) T.n) vs++(readP T text).2.rest))∧
     (readP T text).1=⟨false,f,l,putJ (ownL (gi f) (gi l) T.n) vs (J0 T f)⟩∧(readP T text).2.line+((readP T text).2.rest.length:Int)≤text.length):=by
 unfold readP at h ⊢
 dsimp only at h ⊢
 by_cases ha:((Rdr.mk text 0 0 0 0).next).2.e=0
 ·obtain ⟨n1,n2,n3⟩:=next_inv (r:=⟨text,0,0,0,0⟩) rfl ha
  by_cases hem:((Rdr.mk text 0 0 0 0).next).1=[101,109,112,116,121]
  ·rw [if_pos ⟨ha,hem⟩] at h ⊢
   refine .inl ⟨((Rdr.mk text 0 0 0 0).next).2.rest,?_,?_⟩
   ·rw [←hem];exact n2
   ·rw [Prod.mk.injEq];exact ⟨rfl,n3.trans (by simp)⟩
  ·rw [if_neg (fun k=>hem k.2),if_neg (fun k=>k ha)] at h ⊢
   refine .inr ?_
   generalize ((Rdr.mk text 0 0 0 0).next)=a at ha n1 n2 n3 h ⊢
   obtain ⟨a1,a2⟩:=a
   dsimp only at ha n1 n2 n3 h ⊢
   by_cases hc:(a2.counts a1 (Lib.split a1 [32]) T.n (wordE [102,105,114,115,116])).2.e=0
   ·obtain ⟨w,f,c1,c2,c3,c4,c5,c6⟩:=counts_inv ha hc
    obtain rfl:=wordE_eq c2
    rw [c6] at h ⊢
    dsimp only at h ⊢
    by_cases hcut:T.IsCut f.length (gi f)
    ·have e1:cutE T (f,a2)=a2:=by unfold cutE;rw [if_neg (fun k=>k.2 hcut)]
     rw [e1] at h ⊢
     by_cases hb:a2.next.2.e=0
     ·rw [if_neg (fun k=>k hb)] at h ⊢
      obtain ⟨m1,m2,m3⟩:=next_inv ha hb
      generalize a2.next=b at hb m1 m2 m3 h ⊢
      obtain ⟨b1,b2⟩:=b
      dsimp only at hb m1 m2 m3 h ⊢
      unfold readL at h ⊢
      dsimp only at h ⊢
      by_cases hd:(b2.counts b1 (Lib.split b1 [32]) T.n (wordE [108,97,115,116])).2.e=0
      ·obtain ⟨w,l,d1,d2,d3,d4,d5,d6⟩:=counts_inv hb hd
       obtain rfl:=wordE_eq d2
       rw [d6] at h ⊢
       by_cases hcut2:T.IsCut l.length (gi l)∧LeqL f.length l.length (gi f) (gi l)
       ·have e2:cutE2 T f (l,b2)=b2:=by unfold cutE2;rw [if_neg (fun k=>k.2.elim (fun k=>k hcut2.1) (fun k=>k hcut2.2))]
        rw [e2,if_neg (fun k=>k hb)] at h ⊢
        dsimp only at h ⊢
        obtain ⟨vs,v1,v2,v3,v4,v5⟩:=evsGo_inv _ _ _ h hb
        refine ⟨f,l,vs,c4,d4,hcut,hcut2.1,v1,v2,?_,?_,?_⟩
        ·rw [n2,c5,m2,d5,v3]
        ·rw [v4]
        ·have h1:a2.line=1:=by rw [n3];rfl
         have h2:b2.line=a2.line+1:=by rw [m3]
         have h3:text.length=a1.length+(a2.rest.length+1):=by rw [n2,List.length_append,List.length_cons]
         have h4:a2.rest.length=b1.length+(b2.rest.length+1):=by rw [m2,List.length_append,List.length_cons]
         omega
       ·exfalso
        have e2:(cutE2 T f (l,b2)).e=18:=by
         unfold cutE2
         rw [if_pos ⟨hb,Classical.not_and_iff_not_or_not.1 hcut2⟩]
         exact failq_e hb
        rw [if_pos (by rw [e2];decide)] at h
        dsimp only at h
        rw [e2] at h
        exact absurd h (by decide)
      ·exfalso
       have e2:cutE2 T f (b2.counts b1 (Lib.split b1 [32]) T.n (wordE [108,97,115,116]))=(b2.counts b1 (Lib.split b1 [32]) T.n (wordE [108,97,115,116])).2:=by
        unfold cutE2
        rw [if_neg (fun k=>hd k.1)]
       rw [e2,if_pos hd] at h
       exact hd h
     ·exfalso
      rw [if_pos hb] at h
      exact hb h
    ·exfalso
     have e1:(cutE T (f,a2)).e=18:=by
      unfold cutE
      rw [if_pos ⟨ha,hcut⟩]
      exact failq_e ha
     have e3:(cutE T (f,a2)).e≠0:=by rw [e1];decide
     rw [if_pos (by rw [next_err e3];exact e3)] at h
     dsimp only at h
     rw [next_err e3] at h
     exact e3 h
   ·exfalso
    have e1:cutE T (a2.counts a1 (Lib.split a1 [32]) T.n (wordE [102,105,114,115,116]))=(a2.counts a1 (Lib.split a1 [32]) T.n (wordE [102,105,114,115,116])).2:=by
     unfold cutE
     rw [if_neg (fun k=>hc k.1)]
    rw [e1,if_pos (by rw [next_err hc];exact hc)] at h
    dsimp only at h
    rw [next_err hc] at h
    exact hc h
 ·exfalso
  rw [if_neg (fun k=>ha k.1),if_pos ha] at h
  exact ha h
theorem read_back {T : Tr} {text : List UInt8} {S : SlcD} (h : (restE (readP T text).2).e = 0) (hI : S.Is (readP T text).1) :
    (S.em=true∧text=[101,109,112,116,121,10])∨(S.em=false∧text=textL T S):=by
 have hrest:(readP T text).2.e=0∧(readP T text).2.rest=[]:=by
  generalize (readP T text).2=r at h ⊢
  unfold restE at h
  by_cases h1:r.e=0∧r.rest≠[]
  ·rw [if_pos h1,failq_e (by exact h1.1)] at h
   exact absurd h (by decide)
  ·rw [if_neg h1] at h
   exact ⟨h,Classical.byContradiction fun k=>h1 ⟨h,k⟩⟩
 rcases read_inv hrest.1 with ⟨b,e1,e2⟩ | ⟨f,l,vs,hf,hl,cf,cl,v1,v2,e1,e2,_⟩
 ·rw [e2] at hrest hI
  obtain rfl:b=[]:=hrest.2
  exact .inl ⟨hI.em,e1⟩
 ·refine .inr ?_
  rw [hrest.2] at e1
  rw [e2] at hI
  refine ⟨hI.em,?_⟩
  have f0:∀ p,p<T.n→0≤gi f p:=fun p hp=>(cf.2.1 p hp).1
  have l9:∀ p,p<T.n→gi l p≤T.en p:=fun p hp=>(cl.2.1 p hp).2
  obtain ⟨V,rfl⟩:=vals_fn _ _ (ownL_nodup _ _ _) v1
  obtain ⟨k1,k2,k3⟩:=putJ_map V (ownL (gi f) (gi l) T.n) (J0 T f) (J0_in f0 l9)
  have ef:vL S.f.z T.n=f:=vL_gi hf fun q hq=>hI.fz q (by show q<f.length;omega)
  have el:vL S.l.z T.n=l:=vL_gi hl fun q hq=>hI.lz q (by show q<l.length;omega)
  have eo:S.own T.n=ownL (gi f) (gi l) T.n:=ownL_congr fun p hp=>⟨hI.fz p (by show p<f.length;omega),hI.lz p (by show p<l.length;omega)⟩
  rw [textL_eq,ef,el,eo]
  have ev:(ownL (gi f) (gi l) T.n).map (S.Ev T.n)=(ownL (gi f) (gi l) T.n).map V:=List.map_congr_left fun x hx=>by
   obtain ⟨p,i,rfl,hp,h2,h3⟩:=ownf_at f0 hx
   have hi:i<T.en p:=by have:=l9 p hp;omega
   have hv:=v2 _ (List.mem_map.2 ⟨_,hx,rfl⟩)
   have hg:gJ (putJ (ownL (gi f) (gi l) T.n) ((ownL (gi f) (gi l) T.n).map V) (J0 T f)) p i=V ((p:Int),(i:Int)+1):=by rw [k3,if_pos hx]
   have hjl:p<(putJ (ownL (gi f) (gi l) T.n) ((ownL (gi f) (gi l) T.n).map V) (J0 T f)).length:=by rw [k1,J0_eq,J0k_len];exact hp
   have hrl:i<((putJ (ownL (gi f) (gi l) T.n) ((ownL (gi f) (gi l) T.n).map V) (J0 T f)).getD p []).length:=by rw [k2,J0_eq,J0k_get hp,rowF_len];exact hi
   refine vL_gi hv.2 fun q hq=>?_
   have hz:(S.j.m p).val i q=gi (V ((p:Int),(i:Int)+1)) q:=by
    rw [←hg]
    exact hI.vz p i q hjl hrl (by show q<(gJ _ p i).length;rw [hg,hv.2];exact hq)
   rw [S.E_at]
   unfold natV
   rw [fn_rowOf hq,hz]
   have h0:0≤gi (V ((p:Int),(i:Int)+1)) q:=by
    unfold gi
    rw [getD_lt (by rw [hv.2];exact hq)]
    exact (hv.1 _ (List.getElem_mem _)).1
   omega
  rw [ev]
  exact e1
theorem read_pl (T:Tr) (text:List UInt8):(readP T text).2.Pl:=by
 have ha:((Rdr.mk text 0 0 0 0).next).2.Pl:=next_pl (Int.le_refl _) fun e=>absurd rfl e
 have hcut:∀ c:List Int × Rdr,c.2.Pl→(cutE T c).Pl:=fun c hc=>by
  unfold cutE
  split
  ·exact hc.fail (Int.le_refl _) _
  ·exact hc
 have hcut2:∀ (f:List Int) (c:List Int × Rdr),c.2.Pl→(cutE2 T f c).Pl:=fun f c hc=>by
  unfold cutE2
  split
  ·exact hc.fail (Int.le_refl _) _
  ·exact hc
 unfold readP
 dsimp only
 split
 ·exact ha
 ·split
  ·exact ha
  ·have hb:=(hcut _ (ha.counts (Rdr.mk text 0 0 0 0).next.1 (Lib.split (Rdr.mk text 0 0 0 0).next.1 [32]) T.n (wordE [102,105,114,115,116]))).next
   split
   ·exact hb
   ·unfold readL
    dsimp only
    have hd:=fun f=>hcut2 f _ (hb.counts (cutE T ((Rdr.mk text 0 0 0 0).next.2.counts (Rdr.mk text 0 0 0 0).next.1 (Lib.split (Rdr.mk text 0 0 0 0).next.1 [32]) T.n (wordE [102,105,114,115,116]))).next.1 (Lib.split (cutE T ((Rdr.mk text 0 0 0 0).next.2.counts (Rdr.mk text 0 0 0 0).next.1 (Lib.split (Rdr.mk text 0 0 0 0).next.1 [32]) T.n (wordE [102,105,114,115,116]))).next.1 [32]) T.n (wordE [108,97,115,116]))
    split
    ·exact hd _
    ·exact evsGo_pl T _ _ _ (hd _)
theorem read_place {T:Tr} {text:List UInt8} (hl:text.length≤100000) (h:(restE (readP T text).2).e≠0):1≤(restE (readP T text).2).al∧1≤(restE (readP T text).2).ac:=by
 have hp:=read_pl T text
 by_cases h0:(readP T text).2.e=0
 ·have hb : (readP T text).2.line ≤ 100000 := by
    rcases read_inv h0 with ⟨b,e1,e2⟩ | ⟨f,l,vs,_,_,_,_,_,_,_,_,e3⟩
    ·rw [e2];show (1:Int)≤_;decide
    ·omega
  have h1:=hp.l
  unfold restE at h ⊢
  split
  ·next h2=>
   unfold Rdr.fail
   rw [if_pos (by exact h2.1)]
   show 1≤IntKind.i64.wrap ((readP T text).2.line+1)∧(1:Int)≤1
   rw [wrap_small (by omega)]
   omega
  ·next h2=>rw [if_neg h2] at h;exact absurd h0 h
 ·unfold restE
  rw [if_neg (fun k=>h0 k.1)]
  exact hp.p h0
theorem count_lines (T:Tr):∀ (xs:List EvE) (vs:List (List Int)),(∀ x∈xs,EvG T x)→xs.length=vs.length→(linesV T xs vs).count 10=xs.length
 | [],[],_,_ => rfl
 | [],_ :: _,_,h => by simp at h
 | _ :: _,[],_,h => by simp at h
 | x :: xs,v :: vs,hx,hl => by
  have h1:=hx x (by simp)
  have c1:(evN T x).count 10=0:=List.count_eq_zero.2 (h1.free (by decide))
  have c2:(cntL v).count 10=0:=List.count_eq_zero.2 (cntL_free (by decide) (by decide) v)
  have ih:=count_lines T xs vs (fun y hy=>hx y (List.mem_cons_of_mem _ hy)) (by simpa using hl)
  rw [linesV,lineV,List.count_append,List.count_append,List.count_append,c1,c2,ih,List.length_cons]
  simp
  omega
theorem textL_lines {S:SlcD} {T:Tr} (h:S.Ok T) (he:S.em=false):(textL T S).count 10=2+(S.own T.n).length:=by
 obtain ⟨hV,⟨h1,_⟩ | ⟨_,hSh,hR,_⟩⟩:=h
 ·rw [he] at h1;cases h1
 have hf:=hSh.1.1
 have hl:=hSh.1.2.1
 have fn':S.f.s.n=T.n:=hf.1.2
 have f0:∀ p,p<T.n→0≤S.f.z p:=fun p hp=>(hf.2.1 p (by omega)).1
 have l9:∀ p,p<T.n→S.l.z p≤T.en p:=fun p hp=>(hl.2.1 p (by have:=hl.1.2;omega)).2
 have c1:∀ v,(cntL v).count 10=0:=fun v=>List.count_eq_zero.2 (cntL_free (by decide) (by decide) v)
 rw [textL_eq]
 unfold textV'
 rw [List.count_append,List.count_cons_self,List.count_append,List.count_append,List.count_cons_self,List.count_append,List.append_nil,c1,c1,count_lines T _ _ (hV.evg f0 l9) (by rw [List.length_map]),
  show List.count 10 ([102,105,114,115,116]:List UInt8)=0 from by decide,show List.count 10 ([108,97,115,116]:List UInt8)=0 from by decide]
 have e:(S.own T.n).length=(ownL S.f.z S.l.z T.n).length:=rfl
 omega
end Go.Proofs.YtlfdfkbmollaaaaGreatDoor

namespace Go.Proofs.YtlfdfkbmollaaaaGreatDoor
open Go.RowKit Go.Shelf
theorem SlcD.Ok.none {S:SlcD} {T:Tr} (h:S.Ok T) (he:S.em=true):S.Is ⟨true,[],[],[]⟩:=by
 obtain ⟨_,⟨_,h1,h2,h3⟩ | ⟨h1,_⟩⟩:=h
 ·exact ⟨he,h1,fun i hi=>absurd hi (by simp),h2,fun i hi=>absurd hi (by simp),h3,fun p hp=>absurd hp (by simp),fun p i hp=>absurd hp (by simp),fun p i q hp=>absurd hp (by simp)⟩
 ·rw [he] at h1;cases h1
theorem restE_id {r:Rdr} (h:r.rest=[]):restE r=r:=if_neg fun k=>k.2 h
theorem parse_text {T : Tr} {S : SlcD} {l : List UInt8} {w w' : World} {e : Ending} (h : ParsePost T l w e w') (hO : S.Ok T) (hl : l = rtexV T S) (h16 : l.length ≤ 16384) :
    Ext w w'∧∃ (S':SlcD) (s:SL),S'.At w'∧S'.Is s∧S.Is s∧e=.returned (.tuple #[S'.val,posV 0 0,.int .i64 0]):=by
 obtain ⟨hx,h⟩:=h
 obtain ⟨s,r,hr,h0,h1,hS⟩:∃ s r,readP T l=(s,r)∧r.e=0∧r.rest=[]∧S.Is s:=by
  by_cases he:S.em=true
  ·rw [hl,show rtexV T S=_ from if_pos he,read_empty]
   exact ⟨_,_,rfl,rfl,rfl,hO.none he⟩
  ·have he':S.em=false:=by simpa using he
   rw [hl,show rtexV T S=_ from if_neg he,read_fwd hO he']
   exact ⟨_,_,rfl,rfl,rfl,hO.lists he'⟩
 rw [hr] at h
 have e0:(restE r).e=0:=by rw [restE_id h1];exact h0
 rcases h with ⟨h,_⟩ | ⟨_,h,_⟩ | ⟨_,_,h,_⟩ | ⟨_,_,_,S',k1,k2,k3⟩
 ·exact absurd hO.1 h
 ·omega
 ·exact absurd e0 h
 ·rcases k3 with ⟨_,k3⟩ | ⟨k3,_⟩
  ·exact ⟨hx,S',s,k2,k1,hS,k3⟩
  ·exact absurd (hS.ok k1 hO) k3
theorem parse_ans {T : Tr} {l : List UInt8} {w w' : World} {e : Ending} (h : ParsePost T l w e w') (h16 : l.length ≤ 16384) :
    Ext w w'∧((∃ al ac c:Int,e=.returned (.tuple #[zeroS,posV al ac,.int .i64 c])∧c≠0∧(c=1∨(1≤al∧1≤ac)))∨
     ∃ S':SlcD,S'.At w'∧S'.Ok T∧rtexV T S'=l∧e=.returned (.tuple #[S'.val,posV 0 0,.int .i64 0])):=by
 obtain ⟨hx,h⟩:=h
 refine ⟨hx,?_⟩
 rcases h with ⟨_,rfl⟩ | ⟨_,h,_⟩ | ⟨_,_,h,rfl⟩ | ⟨_,_,k0,S',k1,k2,⟨k3,rfl⟩ | ⟨k3,rfl⟩⟩
 ·exact .inl ⟨0,0,1,rfl,by decide,.inl rfl⟩
 ·omega
 ·exact .inl ⟨_,_,_,rfl,h,.inr (read_place (by omega) h)⟩
 ·refine .inr ⟨S',k2,k3,?_,rfl⟩
  rcases read_back k0 k1 with ⟨e1,e2⟩ | ⟨e1,e2⟩
  ·rw [show rtexV T S'=_ from if_pos e1,e2]
  ·rw [show rtexV T S'=_ from if_neg (by rw [e1];decide),e2]
 ·exact .inl ⟨1,1,17,rfl,by decide,.inr ⟨by decide,by decide⟩⟩
abbrev Snil:SlcD:=⟨false,⟨⟨none,0,0,0,0⟩,fun _=>0⟩,⟨⟨none,0,0,0,0⟩,fun _=>0⟩,⟨⟨none,0,0,0,0⟩,fun _=>default⟩⟩
theorem sld_nil (w:World):SlD.At ⟨none,0,0,0,0⟩ w:=⟨by decide,by decide,fun h=>absurd h (by decide),fun h=>absurd h (by decide)⟩
theorem Snil_at (w:World):Snil.At w:=⟨⟨sld_nil w,fun k hk=>absurd hk (Nat.not_lt_zero k)⟩,⟨sld_nil w,fun k hk=>absurd hk (Nat.not_lt_zero k)⟩,⟨sld_nil w,fun k hk=>absurd hk (Nat.not_lt_zero k)⟩⟩
theorem Snil_is:Snil.Is SL.zero:=⟨rfl,rfl,fun i hi=>absurd hi (by simp [SL.zero]),rfl,fun i hi=>absurd hi (by simp [SL.zero]),rfl,fun p hp=>absurd hp (by simp [SL.zero]),fun p i hp=>absurd hp (by simp [SL.zero]),fun p i q hp=>absurd hp (by simp [SL.zero])⟩
theorem zero_same (w:World):Calls Tryz.prog 12 #[zeroS,zeroS] w fun e w'=>e=.returned (.bool true)∧Ext w w':=
 same34_any w Snil Snil SL.zero (Snil_at w) (Snil_at w) Snil_is Snil_is
def linesN (T:Tr) (S:SlcD):Nat:=if S.em=true then 1 else 2+(S.own T.n).length
theorem rtexV_lines {S:SlcD} {T:Tr} (h:S.Ok T):(rtexV T S).count 10=linesN T S:=by
 unfold rtexV linesN
 by_cases he:S.em=true
 ·rw [if_pos he,if_pos he];decide
 ·rw [if_neg he,if_neg he];exact textL_lines h (by simpa using he)
theorem SlcD.Ok.heads {S:SlcD} {T:Tr} (h:S.Ok T) (he:S.em=false):S.f.s.n=T.n∧S.l.s.n=T.n∧T.n≤8∧∀ p,p<T.n→0≤S.f.z p∧S.f.z p≤S.l.z p∧S.l.z p≤64:=by
 obtain ⟨hV,⟨h1,_⟩ | ⟨_,hSh,_,_⟩⟩:=h
 ·rw [he] at h1;cases h1
 ·have hf:=hSh.1.1
  have hl:=hSh.1.2.1
  have fn':S.f.s.n=T.n:=hf.1.2
  refine ⟨fn',hl.1.2,hV.n8,fun p hp=>⟨(hf.2.1 p hp).1,hSh.1.2.2.1.2 p (by omega),?_⟩⟩
  have h1:=(hl.2.1 p hp).2
  have h2:=hV.en64 hp
  omega
end Go.Proofs.YtlfdfkbmollaaaaGreatDoor
