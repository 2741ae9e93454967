/- Contracts and laws in plain Lean for RApp: group T86. -/
import Derived.Shelf.Strings.Count
import Derived.Shelf.LaysM
import Derived.Test.YtlfdfkbmollaaaaGreatDoorProg
import Derived.Test.YtlfdfkbmollaaaaGreatDoorT76
import Derived.Lib.SplitLaws
import Derived.Lib.ItoaNum
import Derived.Test.YtlfdfkbmollaaaaGreatDoorT77
import Derived.Test.YtlfdfkbmollaaaaGreatDoorT78
import Derived.Test.YtlfdfkbmollaaaaGreatDoorT83
import Derived.Test.YtlfdfkbmollaaaaGreatDoorT84
import Derived.Test.YtlfdfkbmollaaaaGreatDoorT80
namespace Go.Proofs.YtlfdfkbmollaaaaGreatDoor
open Go.Shelf
end Go.Proofs.YtlfdfkbmollaaaaGreatDoor

namespace Go.Proofs.YtlfdfkbmollaaaaGreatDoor
def splitC (c:UInt8):List UInt8→List (List UInt8)
 | [] => [[]]
 | b :: l => if b=c then [] :: splitC c l else match splitC c l with | [] => [[b]] | x :: xs => (b :: x) :: xs
theorem index_at {c:UInt8}:∀ {a:List UInt8} (b:List UInt8),c∉a→Lib.index (a++c :: b) [c]=a.length
 | [],b,_ => by
  show Lib.index (c :: b) [c]=0
  unfold Lib.index
  simp [List.isPrefixOf]
 | x :: a,b,h => by
  have hx:¬c=x:=fun e=>h (by rw [e];simp)
  have ih:=index_at (a:=a) b fun e=>h (List.mem_cons_of_mem _ e)
  have hp:([c]:List UInt8).isPrefixOf (x :: (a++c :: b))=false:=by simp [List.isPrefixOf,hx]
  show Lib.index (x :: (a++c :: b)) [c]=_
  unfold Lib.index
  rw [hp,ih]
  have:((a.length:Int) == -1)=false:=by rw [beq_eq_false_iff_ne];omega
  simp [this]
theorem index_no {c:UInt8}:∀ {a:List UInt8},c∉a→Lib.index a [c]=-1
 | [],_ => rfl
 | x :: a,h => by
  have hx:¬c=x:=fun e=>h (by rw [e];simp)
  have ih:=index_no (a:=a) fun e=>h (List.mem_cons_of_mem _ e)
  have hp:([c]:List UInt8).isPrefixOf (x :: a)=false:=by simp [List.isPrefixOf,hx]
  unfold Lib.index
  rw [hp,ih]
  simp
theorem cut_at {c:UInt8} {a:List UInt8} (b:List UInt8) (h:c∉a):Lib.cut (a++c :: b) [c]=(a,b,true):=by
 unfold Lib.cut
 rw [index_at b h,if_pos (by omega)]
 simp
theorem cut_no {c:UInt8} {a:List UInt8} (h:c∉a):Lib.cut a [c]=(a,[],false):=by
 unfold Lib.cut
 rw [index_no h,if_neg (by decide)]
theorem mem_cut {c:UInt8}:∀ (s:List UInt8),c∉s∨∃ a b,c∉a∧s=a++c :: b
 | [] => .inl (by simp)
 | x :: s => by
  by_cases hx:x=c
  ·exact .inr ⟨[],s,by simp,by simp [hx]⟩
  ·rcases mem_cut (c:=c) s with h | ⟨a,b,h,e⟩
   ·exact .inl (by simp [Ne.symm hx,h])
   ·exact .inr ⟨x :: a,b,by simp [Ne.symm hx,h],by rw [e];rfl⟩
theorem splitC_no {c:UInt8}:∀ {a:List UInt8},c∉a→splitC c a=[a]
 | [],_ => rfl
 | x :: a,h => by
  have hx:¬x=c:=fun e=>h (by rw [e];simp)
  rw [splitC,if_neg hx,splitC_no (a:=a) fun e=>h (List.mem_cons_of_mem _ e)]
theorem splitC_at {c:UInt8}:∀ {a:List UInt8} (b:List UInt8),c∉a→splitC c (a++c :: b)=a :: splitC c b
 | [],b,_ => by simp [splitC]
 | x :: a,b,h => by
  have hx:¬x=c:=fun e=>h (by rw [e];simp)
  rw [List.cons_append,splitC,if_neg hx,splitC_at (a:=a) b fun e=>h (List.mem_cons_of_mem _ e)]
theorem splitK_eq {c:UInt8}:∀ (k:Nat) (s:List UInt8),s.count c=k→Lib.splitK [c] 0 k s=splitC c s
 | 0,s,h => by
  rw [Lib.splitK,splitC_no (List.count_eq_zero.1 h)]
 | k+1,s,h => by
  rcases mem_cut (c:=c) s with h1 | ⟨a,b,h1,rfl⟩
  ·rw [List.count_eq_zero.2 h1] at h;omega
  ·have ha:a.count c=0:=List.count_eq_zero.2 h1
   rw [List.count_append,List.count_cons_self,ha] at h
   rw [Lib.splitK,index_at b h1,if_neg (by rw [Bool.not_eq_true,beq_eq_false_iff_ne];omega),splitC_at b h1]
   congr 1
   ·simp
   ·rw [←splitK_eq k b (by omega)]
    congr 1
    simp
theorem split_eq (c:UInt8) (s:List UInt8):Lib.split s [c]=splitC c s:=by
 unfold Lib.split
 rw [Lib.count_one]
 exact splitK_eq _ _ rfl
theorem splitC_ne {c:UInt8} (s:List UInt8):splitC c s≠[]:=by
 rcases mem_cut (c:=c) s with h1 | ⟨a,b,h1,rfl⟩
 ·rw [splitC_no h1];simp
 ·rw [splitC_at b h1];simp
/-! decimal numbers -/
theorem decF_app:∀ (l:List UInt8) (a:Nat) (c:UInt8),decF a (l++[c])=decF a l*10+(c.toNat - 48)
 | [],_,_ => rfl
 | x :: l,a,c => show decF (a*10+(x.toNat - 48)) (l++[c])=decF (a*10+(x.toNat - 48)) l*10+(c.toNat - 48) from decF_app l _ c
theorem decDigits_zero:Lib.decDigits 0=[48]:=by rw [Lib.decDigits,dif_pos (by decide)];rfl
theorem itoa_nat (u:Nat):Lib.itoa (u:Int)=Lib.decDigits u:=by
 unfold Lib.itoa
 rw [if_neg (by omega)];rfl
theorem dec_unique:∀ (n:Nat) (s:List UInt8),s.length=n→s≠[]→s.all digB=true→(s.head?=some 48→s=[48])→s=Lib.decDigits (decF 0 s):=by
 intro n
 induction n with
 | zero => intro s h h0;exact absurd (List.length_eq_zero_iff.1 h) h0
 | succ n ih =>
  intro s hl h0 hd hz
  obtain ⟨t,c,rfl⟩:∃ t c,s=t++[c]:=⟨s.dropLast,s.getLast h0,(List.dropLast_concat_getLast h0).symm⟩
  rw [List.all_append,Bool.and_eq_true] at hd
  have hc:48≤c.toNat∧c.toNat≤57:=by
   have:=hd.2
   simp only [List.all_cons,List.all_nil,Bool.and_true] at this
   exact of_decide_eq_true this
  have hcu:UInt8.ofNat (48+(c.toNat - 48))=c:=by
   rw [show 48+(c.toNat - 48)=c.toNat by omega];simp
  rw [decF_app]
  by_cases ht:t=[]
  ·subst ht
   rw [show decF 0 []=0 from rfl,Nat.zero_mul,Nat.zero_add,Lib.decDigits,dif_pos (by omega),hcu];rfl
  ·have hlt:t.length=n:=by simpa using hl
   have hh:t.head?=some 48→False:=fun e=>by
    have:(t++[c]).head?=some 48:=by
     cases t with
     | nil => exact absurd rfl ht
     | cons x xs => simpa using e
    have:=congrArg List.length (hz this)
    simp only [List.length_append,List.length_cons,List.length_nil] at this
    exact ht (List.length_eq_zero_iff.1 (by omega))
   have hr:=ih t hlt ht hd.1 fun e=>(hh e).elim
   have hp:1≤decF 0 t:=by
    rcases Nat.eq_zero_or_pos (decF 0 t) with e | e
    ·rw [e,decDigits_zero] at hr
     exact (hh (by rw [hr];rfl)).elim
    ·exact e
   rw [Lib.decDigits,dif_neg (by omega),show (decF 0 t*10+(c.toNat - 48)) / 10=decF 0 t by omega,show (decF 0 t*10+(c.toNat - 48)) % 10=c.toNat - 48 by omega,←hr,hcu]
theorem decI_inv {s:List UInt8} (h:(decI s).2=0):0≤(decI s).1∧(decI s).1≤1125899906842624∧s=Lib.itoa (decI s).1:=by
 unfold decI at h ⊢
 split at h
 ·cases h
 ·next h1=>
  split at h
  ·cases h
  ·next h2=>
   rw [if_neg h1,if_neg h2]
   simp only [not_or] at h1
   refine ⟨Int.natCast_nonneg _,by show ((decF 0 s:Nat):Int)≤_;omega,?_⟩
   show s=Lib.itoa ((decF 0 s:Nat):Int)
   rw [itoa_nat]
   exact dec_unique _ s rfl h1.1 (by simpa using h1.2.2) fun e=>Classical.byContradiction fun k=>h1.2.1 ⟨e,k⟩
end Go.Proofs.YtlfdfkbmollaaaaGreatDoor

namespace Go.Proofs.YtlfdfkbmollaaaaGreatDoor
theorem wordsGo_err {n:Nat} {first:List UInt8→Int} {r:Rdr} (h:r.e≠0):∀ (ws:List (List UInt8)) (k:Nat) (col:Int) (out:List Int),(wordsGo n first ws k col out r).2.1=r
 | [],_,_,_ => rfl
 | w :: ws,k,col,out => by rw [wordsGo,if_pos h]
theorem failq_e {r:Rdr} {col e:Int} (h:r.e=0):(r.fail col e).e=e:=by unfold Rdr.fail;rw [if_pos h]
theorem fail_no {r:Rdr} {col e:Int} (h:r.e≠0):r.fail col e=r:=by unfold Rdr.fail;rw [if_neg h]
theorem next_err {r:Rdr} (h:r.e≠0):r.next.2=r:=by
 unfold Rdr.next;rw [if_pos h]
/-! names -/
/-! the lines of the own events -/
def putJ:List EvE→List (List Int)→List (List (List Int))→List (List (List Int))
 | x :: xs,v :: vs,J => putJ xs vs (setJ J x v)
 | _,_,J => J
/-! places of errors -/
end Go.Proofs.YtlfdfkbmollaaaaGreatDoor

namespace Go.Proofs.YtlfdfkbmollaaaaGreatDoor
abbrev gJ (J:List (List (List Int))) (p i:Nat):List Int:=(J.getD p []).getD i []
def InJ (J:List (List (List Int))) (x:EvE):Prop:=∃ p i:Nat,x=((p:Int),(i:Int)+1)∧p<J.length∧i<(J.getD p []).length
theorem setJ_len (J:List (List (List Int))) (x:EvE) (v:List Int):(setJ J x v).length=J.length:=by unfold setJ;rw [List.length_set]
theorem setJ_row {J:List (List (List Int))} {x:EvE} (h:InJ J x) (v:List Int) (q:Nat):((setJ J x v).getD q []).length=(J.getD q []).length:=by
 obtain ⟨p,i,rfl,hp,hi⟩:=h
 rw [setJ_ev,set_getD hp]
 split
 ·next e=>rw [e,List.length_set]
 ·rfl
theorem setJ_get {J:List (List (List Int))} {x:EvE} (h:InJ J x) (v:List Int) (q j:Nat):gJ (setJ J x v) q j=if x=((q:Int),(j:Int)+1) then v else gJ J q j:=by
 obtain ⟨p,i,rfl,hp,hi⟩:=h
 unfold gJ
 rw [setJ_ev,set_getD hp]
 by_cases hq:q=p
 ·rw [if_pos hq,set_getD hi,hq]
  by_cases hj:j=i
  ·rw [if_pos hj,if_pos (by rw [hj])]
  ·rw [if_neg hj,if_neg (by simp only [Prod.mk.injEq];omega)]
 ·rw [if_neg hq,if_neg (by simp only [Prod.mk.injEq];omega)]
theorem InJ.set {J:List (List (List Int))} {x y:EvE} (h:InJ J x) (k:InJ J y) (v:List Int):InJ (setJ J x v) y:=by
 obtain ⟨p,i,e,hp,hi⟩:=k
 exact ⟨p,i,e,by rw [setJ_len];exact hp,by rw [setJ_row h];exact hi⟩
theorem putJ_map (V : EvE → List Int) : ∀ (xs : List EvE) (J : List (List (List Int))), (∀ x ∈ xs, InJ J x) →
    (putJ xs (xs.map V) J).length=J.length∧(∀ p,((putJ xs (xs.map V) J).getD p []).length=(J.getD p []).length)∧
    ∀ p i:Nat,gJ (putJ xs (xs.map V) J) p i=if ((p:Int),(i:Int)+1)∈xs then V ((p:Int),(i:Int)+1) else gJ J p i
 | [],J,_ => ⟨rfl,fun _ => rfl,fun p i => by rw [if_neg (by simp)];rfl⟩
 | x :: xs,J,h => by
  have hx:=h x (by simp)
  obtain ⟨h1,h2,h3⟩:=putJ_map V xs (setJ J x (V x)) fun y hy=>hx.set (h y (List.mem_cons_of_mem _ hy)) _
  rw [List.map_cons,putJ]
  refine ⟨h1.trans (setJ_len _ _ _),fun p=>(h2 p).trans (setJ_row hx _ p),fun p i=>?_⟩
  rw [h3,setJ_get hx]
  by_cases hm:((p:Int),(i:Int)+1)∈xs
  ·rw [if_pos hm,if_pos (List.mem_cons_of_mem _ hm)]
  ·rw [if_neg hm]
   by_cases he:x=((p:Int),(i:Int)+1)
   ·rw [if_pos he,if_pos (by rw [he];simp),he]
   ·rw [if_neg he,if_neg (by simp only [List.mem_cons,not_or];exact ⟨fun e=>he e.symm,hm⟩)]
theorem vals_fn:∀ (xs:List EvE) (vs:List (List Int)),xs.Nodup→xs.length=vs.length→∃ V:EvE→List Int,vs=xs.map V
 | [],[],_,_ => ⟨fun _ => [],rfl⟩
 | [],_ :: _,_,h => by simp at h
 | _ :: _,[],_,h => by simp at h
 | x :: xs,v :: vs,hn,hl => by
  obtain ⟨h1,h2⟩:=List.nodup_cons.1 hn
  obtain ⟨V,hV⟩:=vals_fn xs vs h2 (by simpa using hl)
  refine ⟨fun y=>if y=x then v else V y,?_⟩
  rw [List.map_cons,if_pos rfl,hV]
  congr 1
  exact List.map_congr_left fun y hy=>(if_neg fun e=>h1 (by rw [←e];exact hy)).symm
theorem ownL_nodup (u v:Nat→Int):∀ n,(ownL u v n).Nodup
 | 0 => List.nodup_nil
 | n+1 => by
  rw [ownL,List.nodup_append]
  refine ⟨ownL_nodup u v n,?_,fun x hx y hy e=>?_⟩
  ·unfold ownP
   rw [List.nodup_iff_pairwise_ne,List.pairwise_map]
   exact List.Pairwise.imp (fun {a b} (h:a<b) e=>by simp only [Prod.mk.injEq] at e;omega) List.pairwise_lt_range
  ·obtain ⟨p,k,hp,_,rfl⟩:=mem_ownL.1 hx
   obtain ⟨j,_,rfl⟩:=List.mem_map.1 hy
   simp only [Prod.mk.injEq] at e
   omega
theorem own_mem {u v:Nat→Int} {n:Nat} (h0:∀ p,p<n→0≤u p) (p i:Nat):((p:Int),(i:Int)+1)∈ownL u v n↔p<n∧u p<(i:Int)+1∧(i:Int)+1≤v p:=by
 rw [mem_ownL]
 constructor
 ·rintro ⟨q,k,hq,hk,e⟩
  simp only [Prod.mk.injEq] at e
  obtain rfl:p=q:=by omega
  exact ⟨hq,by omega,by omega⟩
 ·rintro ⟨hp,h1,h2⟩
  have:=h0 p hp
  exact ⟨p,((i:Int) - u p).toNat,hp,by omega,by rw [Prod.mk.injEq];exact ⟨rfl,by omega⟩⟩
theorem ownf_at {u v:Nat→Int} {n:Nat} (h0:∀ p,p<n→0≤u p) {x:EvE} (h:x∈ownL u v n):∃ p i:Nat,x=((p:Int),(i:Int)+1)∧p<n∧u p<(i:Int)+1∧(i:Int)+1≤v p:=by
 obtain ⟨p,k,hp,hk,e⟩:=mem_ownL.1 h
 have:=h0 p hp
 refine ⟨p,((u p)+k).toNat,?_,hp,by omega,by omega⟩
 rw [e,Prod.mk.injEq]
 exact ⟨rfl,by omega⟩
theorem nameS_of {s:ByteArray} (h:nameB s=true):nameS s.data.toList=true:=by
 unfold nameB at h
 simp only [Bool.and_eq_true,decide_eq_true_eq] at h
 obtain ⟨⟨⟨h1,h2⟩,h3⟩,h4⟩:=h
 have hl:s.data.toList.length=s.size:=by simp
 generalize s.data.toList=l at h3 h4 hl
 cases l with
 | nil => simp at hl;omega
 | cons c t =>
  have hL:∀ d:UInt8,letterB d.toNat=letB d:=fun d=>by
   unfold letterB letB
   rw [Bool.eq_iff_iff]
   simp only [Bool.or_eq_true,Bool.and_eq_true,decide_eq_true_eq]
   omega
  have hD:∀ d:UInt8,digitB d.toNat=digB d:=fun d=>by
   unfold digitB digB
   rw [Bool.eq_iff_iff]
   simp only [Bool.and_eq_true,decide_eq_true_eq]
   omega
  simp only [nameS,Bool.and_eq_true,decide_eq_true_eq]
  rw [List.headD_cons,hL] at h3
  rw [List.length_cons] at hl
  refine ⟨⟨h3,?_⟩,by omega⟩
  rw [List.all_cons,Bool.and_eq_true] at h4
  refine List.all_eq_true.2 fun d hd=>?_
  have:=List.all_eq_true.1 h4.2 d hd
  unfold nameC at this
  rw [hL,hD] at this
  simp only [Bool.or_eq_true,decide_eq_true_eq,beq_iff_eq] at this ⊢
  rcases this with (k | k) | k
  ·exact .inl (.inl k)
  ·exact .inr k
  ·exact .inl (.inr (UInt8.toNat_inj.1 k))
theorem J0_eq (T:Tr) (f:List Int):J0 T f=J0k T f T.n:=rfl
theorem J0_in {T:Tr} {f:List Int} {u v:Nat→Int} (h0:∀ p,p<T.n→0≤u p) (h1:∀ p,p<T.n→v p≤T.en p):∀ x∈ownL u v T.n,InJ (J0 T f) x:=fun x hx=>by
 obtain ⟨p,i,rfl,hp,h2,h3⟩:=ownf_at h0 hx
 have:=h1 p hp
 exact ⟨p,i,rfl,by rw [J0_eq,J0k_len];exact hp,by rw [J0_eq,J0k_get hp,rowF_len];omega⟩
theorem J0_get {T:Tr} {f:List Int} {p i:Nat} (hp:p<T.n) (hi:i<T.en p):gJ (J0 T f) p i=if i<(gi f p).toNat then f else []:=by
 unfold gJ
 rw [J0_eq,J0k_get hp,getD_lt (by rw [rowF_len];exact hi)]
 simp [rowF]
end Go.Proofs.YtlfdfkbmollaaaaGreatDoor

namespace Go.Proofs.YtlfdfkbmollaaaaGreatDoor
end Go.Proofs.YtlfdfkbmollaaaaGreatDoor

namespace Go.Proofs.YtlfdfkbmollaaaaGreatDoor
open Go.RowKit Go.Shelf
abbrev Snil:SlcD:=⟨false,⟨⟨none,0,0,0,0⟩,fun _=>0⟩,⟨⟨none,0,0,0,0⟩,fun _=>0⟩,⟨⟨none,0,0,0,0⟩,fun _=>default⟩⟩
theorem sld_nil (w:World):SlD.At ⟨none,0,0,0,0⟩ w:=⟨by decide,by decide,fun h=>absurd h (by decide),fun h=>absurd h (by decide)⟩
theorem Snil_at (w:World):Snil.At w:=⟨⟨sld_nil w,fun k hk=>absurd hk (Nat.not_lt_zero k)⟩,⟨sld_nil w,fun k hk=>absurd hk (Nat.not_lt_zero k)⟩,⟨sld_nil w,fun k hk=>absurd hk (Nat.not_lt_zero k)⟩⟩
theorem Snil_is:Snil.Is SL.zero:=⟨rfl,rfl,fun i hi=>absurd hi (by simp [SL.zero]),rfl,fun i hi=>absurd hi (by simp [SL.zero]),rfl,fun p hp=>absurd hp (by simp [SL.zero]),fun p i hp=>absurd hp (by simp [SL.zero]),fun p i q hp=>absurd hp (by simp [SL.zero])⟩
theorem zero_same (w:World):Calls Tryz.prog 12 #[zeroS,zeroS] w fun e w'=>e=.returned (.bool true)∧Ext w w':=
 same34_any w Snil Snil SL.zero (Snil_at w) (Snil_at w) Snil_is Snil_is
end Go.Proofs.YtlfdfkbmollaaaaGreatDoor
