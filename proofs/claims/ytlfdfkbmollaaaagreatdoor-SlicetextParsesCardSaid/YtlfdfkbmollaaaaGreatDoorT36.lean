/- Contracts and laws in plain Lean for RApp: group T36. -/
import Derived.Test.YtlfdfkbmollaaaaGreatDoorT01
import Derived.Test.YtlfdfkbmollaaaaGreatDoorT20
namespace Go.Proofs.YtlfdfkbmollaaaaGreatDoor
open Go.RowKit
section
variable {P:Program} {ops:Array Oper} {Q:Exit→Act→World→Prop} {md:Region.Mode} {S R V:World→Prop} {t:Nat}
def Fresh (ops:Array Oper) (t:Nat) (l:Array Bool):Prop:=∀ j,t≤j→j<ops.size→l.getD j true=false
theorem getD_set_eq (l:Array Bool) (i:Nat):(l.setIfInBounds i true).getD i true=true:=by
 rcases Nat.lt_or_ge i l.size with h | h
 ·simp [h]
 ·simp [Nat.not_lt.2 h]
theorem Fresh.of_set {l:Array Bool} {i:Nat} (h:Fresh ops t (l.setIfInBounds i true)):Fresh ops t l:=fun j h1 h2=>by
 have h3:=h j h1 h2
 by_cases e:i=j
 ·subst e;rw [getD_set_eq] at h3;cases h3
 ·rw [getD_set_ne true e] at h3;exact h3
theorem Fresh.set {l:Array Bool} {i:Nat} (h:Fresh ops t l) (hi:i<t):Fresh ops t (l.setIfInBounds i true):=fun j h1 h2=>by
 rw [getD_set_ne true (by omega)];exact h j h1 h2
theorem Fresh.not {l:Array Bool} {i:Nat} (hi:t≤i) (h2:i<ops.size):¬Fresh ops t (l.setIfInBounds i true):=fun h=>by
 have h3:=h i hi h2
 rw [getD_set_eq] at h3;cases h3
def wpAnyT (P:Program) (md:Region.Mode) (ops:Array Oper) (Q:Exit→Act→World→Prop) (S R:World→Prop) (t:Nat):Nat→Array Bool→Act→World→Prop
 | 0,listed,a,w => Region.ready md ops listed=[]∧Q .normal a w
 | fuel+1,listed,a,w =>
  (Region.ready md ops listed=[]→Q .normal a w)∧
  ∀ i∈Region.ready md ops listed,wpOp P ops Q i (fun a' w'=>(S w'∧(Fresh ops t (listed.setIfInBounds i true)→R w'))∧wpAnyT P md ops Q S R t fuel (listed.setIfInBounds i true) a' w') a w
theorem wpAny_ofT:∀ (fuel:Nat) (listed:Array Bool) (a:Act) (w:World),wpAnyT P md ops Q S R t fuel listed a w→wpAny P md ops Q fuel listed a w
 | 0,_,_,_,h => h
 | fuel+1,_,_,_,h => ⟨h.1,fun i hi => wpOp_mono (fun a' w' h' => wpAny_ofT fuel _ a' w' h'.2) (h.2 i hi)⟩
theorem wpAnyT_first {Z : Array Bool → Prop} {i : Nat} {oi : Oper} {v : Value} (hi : ops[i]? = some oi) (hsel : ∀ (j : Nat) (o : Oper) cs b, ops[j]? = some o → o.op ≠ .select cs b)
    (hQ:∀ c a w,Q (.panic c) (a.put oi.dst v) w→Q (.panic c) a w)
    (hV:∀ l w,S w→(Fresh ops t l→R w)→Z l→V w)
    (hZ:∀ (l:Array Bool) (j:Nat) (oj:Oper),Z l→ops[j]?=some oj→(∀ e∈oj.after,Region.binds md e=true→e.on≠i)→Z (l.setIfInBounds j true))
    (hit:i<t):∀ (fuel:Nat) (listed:Array Bool) (a:Act) (w:World),
     (∀ j oj,ops[j]?=some oj→j≠i→listed.getD j true=false→(∀ e∈oj.after,Region.binds md e=true→e.on≠i)→oi.apart ops oj=true)→
     i∈Region.ready md ops listed→YieldsIf P ops V oi v a→Z listed→S w→(Fresh ops t listed→R w)→
     wpAnyT P md ops Q S R t fuel (listed.setIfInBounds i true) (a.put oi.dst v) w→wpAnyT P md ops Q S R t (fuel+1) listed a w:=by
 intro fuel
 induction fuel with
 | zero =>
  intro listed a w _ hr hy hz hS hR H
  refine ⟨fun h=>(by rw [h] at hr;cases hr),fun j hj=>?_⟩
  by_cases hji:j=i
  ·subst hji;exact hy.wpOp hi (hV listed w hS hR hz) ⟨⟨hS,fun h=>hR h.of_set⟩,H⟩
  ·have:=ready_mono hj hji
   rw [H.1] at this
   cases this
 | succ fuel ih =>
  intro listed a w hfree hr hy hz hS hR H
  refine ⟨fun h=>(by rw [h] at hr;cases hr),fun j hj=>?_⟩
  by_cases hji:j=i
  ·subst hji;exact hy.wpOp hi (hV listed w hS hR hz) ⟨⟨hS,fun h=>hR h.of_set⟩,H⟩
  ·have h1:=H.2 j (ready_mono hj hji)
   obtain ⟨hjun,oj,hoj,hall⟩:=mem_ready.1 hj
   have hnot:∀ e∈oj.after,Region.binds md e=true→e.on≠i:=fun e he hb heq=>by
    have h1:=hall e he hb
    have h0:=(mem_ready.1 hr).1
    rw [heq] at h1
    rcases Nat.lt_or_ge i listed.size with h' | h'
    ·simp [h'] at h0 h1;rw [h0] at h1;cases h1
    ·simp [Array.getElem?_eq_none h'] at h1
   have h2:=wpOp_putIf hoj (hfree j oj hoj hji hjun hnot) (fun cs b=>hsel i oi cs b hi) (fun cs b=>hsel j oj cs b hoj) hQ hy h1
   have hfree' : ∀ k ok, ops[k]? = some ok → k ≠ i → (listed.setIfInBounds j true).getD k true = false →
       (∀ e∈ok.after,Region.binds md e=true→e.on≠i)→oi.apart ops ok=true:=fun k ok hk hki hun hno=>by
    refine hfree k ok hk hki ?_ hno
    by_cases hjk:j=k
    ·subst hjk;exact hjun
    ·rw [getD_set_ne true hjk] at hun;exact hun
   have hi':=ready_mono hr (Ne.symm hji)
   have hcomm:∀ (l:Array Bool),(l.setIfInBounds i true).setIfInBounds j true=(l.setIfInBounds j true).setIfInBounds i true:=fun l=>Array.setIfInBounds_comm _ _ (Ne.symm hji)
   refine wpOp_mono (fun a' w' h3=>?_) h2
   have hRj:Fresh ops t (listed.setIfInBounds j true)→R w':=fun hf=>h3.2.1.2 (by rw [hcomm];exact hf.set hit)
   refine ⟨⟨h3.2.1.1,hRj⟩,ih (listed.setIfInBounds j true) a' w' hfree' hi' h3.1 (hZ listed j oj hz hoj hnot) h3.2.1.1 hRj ?_⟩
   rw [←hcomm]
   exact h3.2.2
def lateWait (md:Region.Mode) (l:List Oper) (t i:Nat):Bool:=(l.zipIdx.drop t).all fun x=>x.1.after.toList.any fun e=>Region.binds md e && e.on == i
theorem lateWait_lt {l:List Oper} {i j:Nat} {oj:Oper} (h:lateWait md l t i=true) (hj:l.toArray[j]?=some oj) (hn:∀ e∈oj.after,Region.binds md e=true→e.on≠i):j<t:=by
 refine Nat.lt_of_not_le fun hle=>?_
 unfold lateWait at h
 rw [List.all_eq_true] at h
 have hj':l[j]?=some oj:=by simpa using hj
 have hm:(oj,j)∈l.zipIdx.drop t:=by
  rw [List.mem_iff_getElem?]
  refine ⟨j - t,?_⟩
  rw [List.getElem?_drop,show t+(j - t)=j by omega,List.getElem?_zipIdx,hj']
  simp
 have h1:=h _ hm
 rw [List.any_eq_true] at h1
 obtain ⟨e,he,h2⟩:=h1
 rw [Bool.and_eq_true] at h2
 exact hn e (by simpa using he) h2.1 (by simpa using h2.2)
theorem takeS {l : List Oper} (i : Nat) {oi : Oper} {v : Value} {fuel : Nat} {listed : Array Bool} {a : Act} {w : World} (hi : l[i]? = some oi)
    (hs:Region.noSelect l.toArray=true) (hf:Region.free md l.toArray listed i=true) (hr:(Region.ready md l.toArray listed).contains i=true)
    (hQ:∀ c a w,Q (.panic c) (a.put oi.dst v) w→Q (.panic c) a w) (hit:i<t) (hy:YieldsIf P l.toArray S oi v a) (hS:S w) (hR:R w)
    (h:wpAnyT P md l.toArray Q S R t fuel (listed.setIfInBounds i true) (a.put oi.dst v) w):wpAnyT P md l.toArray Q S R t (fuel+1) listed a w:=
 wpAnyT_first (V:=S) (Z:=fun _=>True) (by simpa using hi) (Region.noSelect_spec hs) hQ (fun _ _ h _ _=>h) (fun _ _ _ _ _ _=>trivial) hit fuel listed a w (Region.free_spec (by simpa using hi) hf) (by simpa using hr) hy trivial hS (fun _=>hR) h
theorem takeR {l : List Oper} (i : Nat) {oi : Oper} {v : Value} {fuel : Nat} {listed : Array Bool} {a : Act} {w : World} (hi : l[i]? = some oi)
    (hs:Region.noSelect l.toArray=true) (hf:Region.free md l.toArray listed i=true) (hr:(Region.ready md l.toArray listed).contains i=true)
    (hw:lateWait md l t i=true) (hl:(l.zipIdx.drop t).all (fun x=>!(listed.getD x.2 true))=true)
    (hQ:∀ c a w,Q (.panic c) (a.put oi.dst v) w→Q (.panic c) a w) (hit:i<t) (hy:YieldsIf P l.toArray (fun w=>S w∧R w) oi v a) (hS:S w) (hR:R w)
    (h:wpAnyT P md l.toArray Q S R t fuel (listed.setIfInBounds i true) (a.put oi.dst v) w):wpAnyT P md l.toArray Q S R t (fuel+1) listed a w:=by
 refine wpAnyT_first (V:=fun w=>S w∧R w) (Z:=Fresh l.toArray t) (by simpa using hi) (Region.noSelect_spec hs) hQ (fun _ _ h h2 h3=>⟨h,h2 h3⟩) (fun _ _ _ h3 h4 h5=>h3.set (lateWait_lt hw h4 h5)) hit fuel listed a w (Region.free_spec (by simpa using hi) hf) (by simpa using hr) hy ?_ hS (fun _=>hR) h
 intro j h1 h2
 rw [List.all_eq_true] at hl
 have h2':j<l.length:=by simpa using h2
 have hm:(l[j],j)∈l.zipIdx.drop t:=by
  rw [List.mem_iff_getElem?]
  refine ⟨j - t,?_⟩
  rw [List.getElem?_drop,show t+(j - t)=j by omega,List.getElem?_zipIdx,List.getElem?_eq_getElem h2']
  simp
 have:=hl _ hm
 simpa using this
def AllReadyT (P:Program) (md:Region.Mode) (ops:Array Oper) (Q:Exit→Act→World→Prop) (S R:World→Prop) (t fuel:Nat) (listed:Array Bool) (a:Act) (w:World) (rs:List Nat):Prop:=
 ∀ i∈rs,wpOp P ops Q i (fun a' w'=>(S w'∧(Fresh ops t (listed.setIfInBounds i true)→R w'))∧wpAnyT P md ops Q S R t fuel (listed.setIfInBounds i true) a' w') a w
theorem AllReadyT.nil {fuel:Nat} {listed:Array Bool} {a:Act} {w:World}:AllReadyT P md ops Q S R t fuel listed a w []:=fun _ h=>by cases h
theorem AllReadyT.cons {fuel : Nat} {listed : Array Bool} {a : Act} {w : World} {i : Nat} {o : Oper} {rs : List Nat} (ho : ops[i]? = some o)
    (h:∀ K':Act→World→Prop,Shut (∀ a w,S w∧R w→(S w∧R w→wpAnyT P md ops Q S R t fuel (listed.setIfInBounds i true) a w)→K' a w)→if Region.wanted o (yielded ops a.tmps)=true then Oper.wp P o a w K' Q else K' (a.put o.dst undef) w)
    (hs:AllReadyT P md ops Q S R t fuel listed a w rs):AllReadyT P md ops Q S R t fuel listed a w (i :: rs):=fun j hj=>by
 rcases List.mem_cons.1 hj with rfl | hj
 ·exact wpOp_step ho (fun K' hK=>h K' (fun a w hS hW=>hK a w ⟨⟨hS.1,fun _=>hS.2⟩,hW hS⟩))
 ·exact hs j hj
theorem AllReadyT.late {fuel : Nat} {listed : Array Bool} {a : Act} {w : World} {i : Nat} {o : Oper} {rs : List Nat} (ho : ops[i]? = some o) (ht : t ≤ i)
    (h:∀ K':Act→World→Prop,Shut (∀ a w,S w→(S w→wpAnyT P md ops Q S R t fuel (listed.setIfInBounds i true) a w)→K' a w)→if Region.wanted o (yielded ops a.tmps)=true then Oper.wp P o a w K' Q else K' (a.put o.dst undef) w)
    (hs:AllReadyT P md ops Q S R t fuel listed a w rs):AllReadyT P md ops Q S R t fuel listed a w (i :: rs):=fun j hj=>by
 rcases List.mem_cons.1 hj with rfl | hj
 ·exact wpOp_step ho (fun K' hK => h K' (fun a w hS hW => hK a w ⟨⟨hS, fun hf => absurd hf (Fresh.not ht (by
    have:=Array.getElem?_eq_some_iff.1 ho
    exact this.1))⟩,hW hS⟩))
 ·exact hs j hj
theorem wpAnyT_ready {rs : List Nat} {fuel : Nat} {listed : Array Bool} {a : Act} {w : World} (hr : Region.ready md ops listed = rs) (hne : rs ≠ [])
    (h:AllReadyT P md ops Q S R t fuel listed a w rs):wpAnyT P md ops Q S R t (fuel+1) listed a w:=⟨fun h0=>absurd (hr▸h0) hne,hr▸h⟩
theorem wpAnyT_done {listed : Array Bool} {a : Act} {w : World} (hr : Region.ready md ops listed = []) (h : Q .normal a w) :
    ∀ fuel,wpAnyT P md ops Q S R t fuel listed a w
 | 0 => ⟨hr,h⟩
 | _+1 => ⟨fun _ => h,by rw [hr];simp⟩
theorem wp_region_T {id : Nat} {a : Act} {w : World} (hm : P.follows .mixedOrders = true) (hS : S w.drew) (hR : R w.drew)
    (h:S w.drew∧R w.drew→wpAnyT P .any ops Q S R t ops.size (Array.replicate ops.size false) a w.drew):(Code.region id ops true).wp P Q a w:=
 wp_region_any hm (wpAny_ofT _ _ _ _ (h ⟨hS,hR⟩))
end
end Go.Proofs.YtlfdfkbmollaaaaGreatDoor

namespace Go.Proofs.YtlfdfkbmollaaaaGreatDoor
open Go.RowKit
end Go.Proofs.YtlfdfkbmollaaaaGreatDoor

namespace Go.Proofs.YtlfdfkbmollaaaaGreatDoor
open Go.RowKit Go.Shelf
attribute [local go_sem] Oper.semAt_some
abbrev natV (c:Nat→Nat):Nat→Int:=fun p=>(c p:Int)
end Go.Proofs.YtlfdfkbmollaaaaGreatDoor

namespace Go.Proofs.YtlfdfkbmollaaaaGreatDoor
open Go.RowKit Go.Shelf
attribute [local go_sem] Oper.semAt_some
end Go.Proofs.YtlfdfkbmollaaaaGreatDoor
