/- Contracts and laws in plain Lean for RApp: group T38. -/
import Derived.Test.YtlfdfkbmollaaaaGreatDoorT36
import Derived.Test.YtlfdfkbmollaaaaGreatDoorT20
import Derived.Test.YtlfdfkbmollaaaaGreatDoorT34
namespace Go.Proofs.YtlfdfkbmollaaaaGreatDoor
open Go.RowKit Go.Shelf
attribute [local go_sem] Oper.semAt_some
def fn (l:List Nat):Nat→Nat:=fun p=>l.getD p 0
theorem fn_ext {l m:List Nat} (hl:l.length=m.length) (h:∀ p,p<l.length→fn l p=fn m p):l=m:=by
 refine List.ext_getElem hl fun p h1 h2=>?_
 have h3:=h p h1
 unfold fn at h3
 rw [List.getD_eq_getElem?_getD,List.getD_eq_getElem?_getD,List.getElem?_eq_getElem h1,List.getElem?_eq_getElem h2] at h3
 exact h3
def rowOf (n:Nat) (c:Nat→Nat):List Nat:=(List.range n).map c
theorem rowOf_len (n:Nat) (c:Nat→Nat):(rowOf n c).length=n:=by simp [rowOf]
theorem fn_rowOf {n:Nat} {c:Nat→Nat} {p:Nat} (h:p<n):fn (rowOf n c) p=c p:=by simp [fn,rowOf,h]
structure Row where
 l:List Nat
 a:Option Addr
 g:Nat
 o:Nat
 c:Nat
def Row.val (r:Row):Value:=.slice r.a r.l.length r.c
def Row.At (r:Row) (w:World):Prop:=NumAt w r.l.length r.a r.g r.o (natV (fn r.l))
def lexP (n:Nat) (u v:Nat→Nat):Prop:=∃ p,p<n∧(∀ q,q<p→u q=v q)∧u p<v p
def befP (n:Nat) (u v:Nat→Nat):Prop:=tot u n<tot v n∨(tot u n=tot v n∧lexP n u v)
theorem lexP_irrefl (n:Nat) (u:Nat→Nat):¬lexP n u u:=fun ⟨_,_,_,h⟩=>absurd h (Nat.lt_irrefl _)
theorem lexP_trans {n:Nat} {u v w:Nat→Nat} (h:lexP n u v) (k:lexP n v w):lexP n u w:=by
 obtain ⟨p,hp,h1,h2⟩:=h
 obtain ⟨q,hq,k1,k2⟩:=k
 rcases Nat.lt_trichotomy p q with e | e | e
 ·exact ⟨p,hp,fun r hr=>(h1 r hr).trans (k1 r (by omega)),by rw [←k1 p e];exact h2⟩
 ·subst e;exact ⟨p,hp,fun r hr=>(h1 r hr).trans (k1 r hr),by omega⟩
 ·exact ⟨q,hq,fun r hr=>(h1 r (by omega)).trans (k1 r hr),by rw [h1 q e];exact k2⟩
theorem first_diff {u v:Nat→Nat}:∀ n,(∀ q,q<n→u q=v q)∨∃ p,p<n∧(∀ q,q<p→u q=v q)∧u p≠v p
 | 0 => .inl fun q h => by omega
 | n+1 => by
  rcases first_diff (u:=u) (v:=v) n with h | ⟨p,hp,h1,h2⟩
  ·by_cases e:u n=v n
   ·exact .inl fun q hq => by
      by_cases e2:q=n
      ·subst e2;exact e
      ·exact h q (by omega)
   ·exact .inr ⟨n,by omega,h,e⟩
  ·exact .inr ⟨p,by omega,h1,h2⟩
theorem lexP_total {n:Nat} {u v:Nat→Nat} (h:¬ ∀ q,q<n→u q=v q):lexP n u v∨lexP n v u:=by
 rcases first_diff (u:=u) (v:=v) n with k | ⟨p,hp,h1,h2⟩
 ·exact absurd k h
 ·rcases Nat.lt_or_gt_of_ne h2 with e | e
  ·exact .inl ⟨p,hp,h1,e⟩
  ·exact .inr ⟨p,hp,fun q hq=>(h1 q hq).symm,e⟩
theorem befP_irrefl (n:Nat) (u:Nat→Nat):¬befP n u u:=by
 rintro (h | ⟨_,h⟩)
 ·omega
 ·exact lexP_irrefl n u h
theorem befP_trans {n:Nat} {u v w:Nat→Nat} (h:befP n u v) (k:befP n v w):befP n u w:=by
 rcases h with h | ⟨h,h'⟩ <;> rcases k with k | ⟨k,k'⟩
 ·exact .inl (by omega)
 ·exact .inl (by omega)
 ·exact .inl (by omega)
 ·exact .inr ⟨by omega,lexP_trans h' k'⟩
theorem befP_total {n:Nat} {u v:Nat→Nat} (h:¬ ∀ q,q<n→u q=v q):befP n u v∨befP n v u:=by
 rcases Nat.lt_trichotomy (tot u n) (tot v n) with e | e | e
 ·exact .inl (.inl e)
 ·rcases lexP_total h with k | k
  ·exact .inl (.inr ⟨e,k⟩)
  ·exact .inr (.inr ⟨e.symm,k⟩)
 ·exact .inr (.inl e)
end Go.Proofs.YtlfdfkbmollaaaaGreatDoor

namespace Go.Proofs.YtlfdfkbmollaaaaGreatDoor
open Go.RowKit Go.Shelf
theorem infoInts1:(Tryz.prog.info? 27).map (fun i=>(i.zero,i.size,i.bytes))=some (some (.slice none 0 0),1,24):=by kernel_rfl
end Go.Proofs.YtlfdfkbmollaaaaGreatDoor
