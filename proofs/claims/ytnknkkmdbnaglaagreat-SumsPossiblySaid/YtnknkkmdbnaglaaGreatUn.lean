/- Contracts and laws in plain Lean for SPos: group Un. -/
import Derived.Test.YtnknkkmdbnaglaaGreatUd
import Derived.Test.YtnknkkmdbnaglaaGreatKa
import Derived.RangeFuncNested
import Derived.RangeFuncBound
import Derived.RangeFuncCalls
import Derived.RangeFuncLeaves
import Derived.Shelf.Abstract
import Derived.Test.YtnknkkmdbnaglaaGreatUm
import Derived.Test.YtnknkkmdbnaglaaGreatUb
import Derived.Test.YtnknkkmdbnaglaaGreatKb
import Derived.Test.YtnknkkmdbnaglaaGreatUc
set_option maxRecDepth 100000
namespace Go.Proofs.YtnknkkmdbnaglaaGreat
open Go.RowKit
def Tr.stJ (T:Tr) (p v i:Nat) (x:Int):Nat→Int
 | 0 => x
 | j+1 => if T.avar p i j=(v:Int) then T.aval p i j else Tr.stJ T p v i x j
def Tr.st (T:Tr) (p v:Nat):Nat→Int
 | 0 => T.vinit p v
 | i+1 => T.stJ p v i (Tr.st T p v i) (T.an p i)
def Tr.stM (T:Tr) (p i j:Nat):List Int:=(List.range (T.vn p)).map fun v=>T.stJ p v i (T.st p v i) j
def Tr.stL (T:Tr) (p k:Nat):List Int:=(List.range (T.vn p)).map fun v=>T.st p v k
theorem Tr.stL_len (T:Tr) (p k:Nat):(T.stL p k).length=T.vn p:=by simp [Tr.stL]
theorem Tr.stM_len (T:Tr) (p i j:Nat):(T.stM p i j).length=T.vn p:=by simp [Tr.stM]
theorem Tr.stL_get (T:Tr) (p k v:Nat) (h:v<T.vn p):(T.stL p k)[v]?=some (T.st p v k):=by simp [Tr.stL,h]
theorem Tr.stM_set (T:Tr) (p i j a:Nat) (h:T.avar p i j=(a:Int)):(T.stM p i j).set a (T.aval p i j)=T.stM p i (j+1):=by
 apply List.ext_getElem?
 intro v
 unfold Tr.stM
 rw [List.getElem?_set,List.getElem?_map,List.getElem?_map,List.length_map,List.length_range]
 by_cases hv:v<T.vn p
 ·rw [List.getElem?_range hv]
  show _=some (if T.avar p i j=(v:Int) then T.aval p i j else T.stJ p v i (T.st p v i) j)
  by_cases e:a=v
  ·subst e;rw [if_pos rfl,if_pos hv,if_pos h]
  ·rw [if_neg e,if_neg (by omega)];rfl
 ·rw [List.getElem?_eq_none (by simp;omega)]
  by_cases e:a=v
  ·subst e;rw [if_pos rfl,if_neg hv];rfl
  ·rw [if_neg e];rfl
theorem Tr.Valid.asg {T:Tr} (h:T.Valid) {p i j:Nat} (hp:p<T.n) (hi:i<T.en p) (hj:j<T.an p i):0≤T.avar p i j∧T.avar p i j<T.vn p∧(-1073741824≤T.aval p i j∧T.aval p i j≤1073741824)∧∀ l,l<j→T.avar p i l≠T.avar p i j:=by
 obtain ⟨h1,h2,h3⟩:=(h.ev p i hp hi).2.2.2.2 j hj
 simp [inB] at h1 h2
 refine ⟨by omega,by omega,by omega,fun l hl e=>?_⟩
 have:=anyB_false_iff.1 h3 l hl
 simp [e] at this
theorem Tr.Valid.an8 {T:Tr} (h:T.Valid) {p i:Nat} (hp:p<T.n) (hi:i<T.en p):T.an p i≤8:=(h.ev p i hp hi).2.2.2.1
theorem Tr.Valid.vn8 {T:Tr} (h:T.Valid) {p:Nat} (hp:p<T.n):T.vn p≤8:=(h.pr p hp).2.2.1
theorem Tr.Valid.en64 {T:Tr} (h:T.Valid) {p:Nat} (hp:p<T.n):T.en p≤64:=(h.pr p hp).2.2.2.2
def Tr.ValOf (T:Tr) (p v:Nat) (x:Int):Prop:=x=T.vinit p v∨∃ i j,i<T.en p∧j<T.an p i∧T.avar p i j=(v:Int)∧T.aval p i j=x
theorem Tr.stJ_of (T:Tr) (p v i:Nat) (hi:i<T.en p) (x:Int):∀ j,j≤T.an p i→T.stJ p v i x j=x∨T.ValOf p v (T.stJ p v i x j)
 | 0,_ => .inl rfl
 | j+1,h => by
  show (if T.avar p i j=(v:Int) then T.aval p i j else T.stJ p v i x j)=x∨T.ValOf p v (if T.avar p i j=(v:Int) then T.aval p i j else T.stJ p v i x j)
  by_cases e:T.avar p i j=(v:Int)
  ·rw [if_pos e];exact .inr (.inr ⟨i,j,hi,h,e,rfl⟩)
  ·rw [if_neg e];exact Tr.stJ_of T p v i hi x j (by omega)
theorem Tr.st_of (T:Tr) (p v:Nat):∀ k,k≤T.en p→T.ValOf p v (T.st p v k)
 | 0,_ => .inl rfl
 | k+1,h => by
  have ih:=Tr.st_of T p v k (by omega)
  rcases T.stJ_of p v k (by omega) (T.st p v k) (T.an p k) (Nat.le_refl _) with e | e
  ·show T.ValOf p v (T.stJ p v k (T.st p v k) (T.an p k));rw [e];exact ih
  ·exact e
theorem Tr.Valid.val_range {T:Tr} (h:T.Valid) {p v:Nat} (hp:p<T.n) (hv:v<T.vn p) {x:Int} (hx:T.ValOf p v x):-1073741824≤x∧x≤1073741824:=by
 rcases hx with rfl | ⟨i,j,hi,hj,ha,rfl⟩
 ·have:=((h.pr p hp).2.2.2.1 v hv).2.2
  simp [inB] at this;exact this
 ·exact (h.asg hp hi hj).2.2.1
end Go.Proofs.YtnknkkmdbnaglaaGreat

namespace Go.Proofs.YtnknkkmdbnaglaaGreat
open Go.RowKit Go.Shelf
section
variable {α:Type} {P:Program} {F:Fence} {n:Nat}
def Others (D:Nat→Prop) (W W':World):Prop:=∀ k,k<W.heap.size→¬D k→W'.heap[k]?=W.heap[k]?
def Grew (D D':Nat→Prop) (W:World):Prop:=∀ k,D' k→D k∨W.heap.size≤k
structure Dep (B:Nat) (J:(Nat→Prop)→List α→World→Prop):Prop where
 lt:∀ D pre W,J D pre W→∀ k,D k→B≤k∧k<W.heap.size
 stay:∀ D pre W W',J D pre W→Below B W W'→(∀ k,D k→W'.heap[k]?=W.heap[k]?)→J D pre W'
def SeqD (F:Fence) (n:Nat) (P:Program) (g:Nat) (lb:Array Value) (encs:α→Array Value) (E:α→World→Prop) (S Sp:List α→Prop) (N B bp:Nat) (w:World):Prop:=
 ∀ (l:Nat) (J:(Nat→Prop)→List α→World→Prop) (Jx:List α→World→Prop) (W:World) (D:Nat→Prop),Ext w W→¬D bp→Dep B J→
  (∀ D pre x W1,J D pre W1→E x W1→pre.length<N→YieldAt F (n - 1) P l (encs x) W1 fun e W'=>
   (e=.returned (.bool true)∧(∃ D',J D' (pre++[x]) W'∧Grew D D' W1)∧Others D W1 W'∧Below B W1 W')∨(e=.returned (.bool false)∧Jx (pre++[x]) W'))→
  J D [] W→
  CallsIn F n P g (#[.func (.yield l) #[] #[]]++lb) W fun e W'=>(∃ v,e=.returned v)∧((∃ xs D',S xs∧J D' xs W')∨(∃ pre,Sp pre∧Jx pre W'))
def postD (B:Nat) (I:(Nat→Prop)→List α→World→Prop) (Ix:Code→List α→World→Prop) (D:Nat→Prop) (xs:List α) (W:World):Exit→Act→World→Prop
 | .normal,_,W' => Below B W W'∧Others D W W'∧∃ D',I D' xs W'∧Grew D D' W
 | .ret,_,W' => Below B W W'∧Others D W W'∧Ix .ret xs W'
 | .exit id,_,W' => Below B W W'∧Others D W W'∧Ix (.exit id) xs W'
 | .goto t,_,W' => Below B W W'∧Others D W W'∧Ix (.goto t) xs W'
 | .panic _,_,_ => False
 | .outgrown,_,_ => False
theorem put_other {W:World} {l k:Nat} {o:Obj} (h:k≠l):(W.putObj l o).heap[k]?=W.heap[k]?:=World.putObj_heap_other h
theorem put_size {W:World} {l:Nat} {o:Obj}:(W.putObj l o).heap.size=W.heap.size:=by simp [World.putObj]
theorem below_put {B l:Nat} {W:World} (o:Obj) (h:B≤l):Below B W (W.putObj l o):=⟨rfl,rfl,rfl,Nat.le_of_eq put_size.symm,fun k hk=>put_other (by omega)⟩
theorem Dep.put {B:Nat} {J:(Nat→Prop)→List α→World→Prop} (h:Dep B J) {D:Nat→Prop} {pre:List α} {W:World} (hJ:J D pre W) {l:Nat} (hl:¬D l) (hB:B≤l) (o:Obj):J D pre (W.putObj l o):=
 h.stay _ _ _ _ hJ (below_put o hB) fun _ hk=>put_other fun e=>hl (e▸hk)
theorem wpIn_rangeD {g : Operand} {ps : Array Tmp} {assign body : Code} {Q : Exit → Act → World → Prop} {a : Act} {w : World}
    (hro:F.round=none) (h1:1≤n) {gf:Nat} {lb:Array Value} (hg:a.eval g=.func (.func gf) #[] lb) (hFg:F.fn gf) (eg:∀ args w,(callFunc gf args).run P w=.ok (.enter gf args) w)
    {encs:α→Array Value} {E:α→World→Prop} {S Sp:List α→Prop} {N B bp:Nat} {w0:World} (hseq:SeqD F (n - 1) P gf lb encs E S Sp N B bp w0) (hb0:Ext w0 w) (hB:B≤w.heap.size) (hbp:bp<w.heap.size) (hps:∀ x,(encs x).size=ps.size)
    (I:(Nat→Prop)→List α→World→Prop) (Ix:Code→List α→World→Prop) (D0:Nat→Prop) (hD0:¬D0 bp) (hI:Dep B I)
    (hIx:∀ c xs W l o o',Ix c xs W→w.heap.size≤l→W.heap[l]?=some o→o.isCells=false→Ix c xs (W.putObj l o')) (h0:I D0 [] w)
    (Ax:α→Act→World→Prop) (hAx:∀ x a' W l o o',Ax x a' W→w.heap.size≤l→W.heap[l]?=some o→o.isCells=false→Ax x a' (W.putObj l o'))
    (hassign:∀ (l:Nat) (D:Nat→Prop) (pre:List α) (x:α) (W:World) (K:Act→World→Prop),I D pre W→E x W→(∀ a' W',Ext W W'→Ax x a' W'→K a' W')→
     assign.wpIn (F.inRound l) (n - 1 - 1) P (Exit.then K (fun _ _ _=>False)) { tmps:=(ps.zip (encs x)).foldl (fun t (p,v)=>t.setIfInBounds p v) a.tmps,defers:=[] } W)
    (hbody:∀ (l:Nat) (D:Nat→Prop) (pre:List α) (x:α) (a':Act) (W:World),I D pre W→Ax x a' W→pre.length<N→body.wpIn (F.inRound l) (n - 1 - 1) P (postD B I Ix D (pre++[x]) W) a' W)
    (hdone:∀ (k:Nat) (D:Nat→Prop) (xs:List α) (W:World),w.heap.size≤k→S xs→I D xs W→¬D k→W.heap[k]?=some (.deferred (some []))→Q .normal { a with defers:={ target:=.collected k,args:=#[] } :: a.defers } W)
    (hstop:∀ (k:Nat) (c:Code) (pre:List α) (W:World),w.heap.size≤k→Sp pre→Ix c pre W→W.heap[k]?=some (.deferred (some []))→c.wpIn F n P Q { a with defers:={ target:=.collected k,args:=#[] } :: a.defers } W) :
    (Code.rangeFunc g ps assign body).wpIn F n P Q a w:=by
 refine wpIn_rangeFunc fun fn hfn=>?_
 rw [hro]
 obtain ⟨lk,hlk⟩:∃ lk,lk=w.heap.size:=⟨_,rfl⟩
 obtain ⟨rec,hrec⟩:∃ rec:LoopState→Option Code→Loop,rec=fun st pe=>{ state:=st,pending:=pe,fn,tmps:=a.tmps,params:=ps,assign,body,defers:=lk }:=⟨_,rfl⟩
 obtain ⟨W1,hW1⟩:∃ W1,W1=(w.alloc (.deferred (some []))).alloc (.loop (rec .ready none)):=⟨_,rfl⟩
 have hx1:Ext w W1:=by rw [hW1];exact (Ext.alloc _ _).alloc' _
 have hL:W1.heap[lk+1]?=some (.loop (rec .ready none)):=by
  have:=World.alloc_heap_new (w.alloc (.deferred (some []))) (.loop (rec .ready none))
  rw [World.size_alloc] at this;rw [hW1,hlk];exact this
 have hK:W1.heap[lk]?=some (.deferred (some [])):=by
  rw [hW1,hlk];exact (Below.heap_alloc _ _ _ (by simp)).trans (World.alloc_heap_new w _)
 have hlt0:=hI.lt _ _ _ h0
 have hI1:I D0 [] W1:=hI.stay _ _ _ _ h0 (Below.mono hx1 hB) fun k hk=>hx1.block k (hlt0 k hk).2
 refine ⟨lk+1,[{ target:=.collected lk,args:=#[] }],W1,{ target:=.fn (.func gf) lb,args:=#[.func (.yield (lk+1)) #[] #[]] },W1,gf,#[.func (.yield (lk+1)) #[] #[]]++lb,W1,?_,?_,?_,?_,fun _=>h1,?_⟩
 ·rw [hW1,hrec,hlk];exact run_enterLoop_outer _ _ _ _ _
 ·simp only [resolve,hg];simp [go_sem]
 ·intro f' hf';simp [Target.leads] at hf';subst hf';exact hFg
 ·simp [invoke,go_sem,eg]
 ·-- the two blocks of the loop's own stand beside the caller's
  let J:(Nat→Prop)→List α→World→Prop:=fun D pre W=>∃ Du,(∀ k,D k↔Du k∨k=lk∨k=lk+1)∧¬Du lk∧¬Du (lk+1)∧I Du pre W∧W.heap[lk+1]?=some (.loop (rec .ready none))∧W.heap[lk]?=some (.deferred (some []))
  let Jx:List α→World→Prop:=fun pre W=>∃ c,Ix c pre W∧W.heap[lk+1]?=some (.loop (rec .done (some c)))∧W.heap[lk]?=some (.deferred (some []))
  have hJ:Dep B J:=by
   refine ⟨fun D pre W ⟨Du,hD,_,_,hi,hl,hk⟩ k hk'=>?_,fun D pre W W' ⟨Du,hD,h2,h3,hi,hl,hk⟩ hb hs=>?_⟩
   ·rcases (hD k).1 hk' with h | rfl | rfl
    ·exact hI.lt _ _ _ hi k h
    ·exact ⟨by omega,(Array.getElem?_eq_some_iff.1 hk).1⟩
    ·exact ⟨by omega,(Array.getElem?_eq_some_iff.1 hl).1⟩
   ·exact ⟨Du,hD,h2,h3,hI.stay _ _ _ _ hi hb fun k h=>hs k ((hD k).2 (.inl h)),(hs _ ((hD _).2 (.inr (.inr rfl)))).trans hl,(hs _ ((hD _).2 (.inr (.inl rfl)))).trans hk⟩
  have hJ0:J (fun k=>D0 k∨k=lk∨k=lk+1) [] W1:=⟨D0,fun _=>Iff.rfl,fun h=>by have:=(hlt0 _ h).2;omega,fun h=>by have:=(hlt0 _ h).2;omega,hI1,hL,hK⟩
  refine (hseq (lk+1) J Jx W1 (fun k=>D0 k∨k=lk∨k=lk+1) (hb0.trans hx1) (fun h=>h.elim hD0 (fun h=>h.elim (fun h=>by omega) (fun h=>by omega))) hJ ?_ hJ0).mono ?_
  ·rintro D pre x W ⟨Du,hD,h2,h3,hi,hl,hk⟩ he hlen
   have hy:=run_yield (P:=P) (args:=encs x) hl (by rw [hrec];exact hps x)
   rw [hrec] at hy
   refine ⟨fn,_,assign,body,hy,roundIn_of_wpIn hfn (hassign _ Du pre x W _ hi he ?_)⟩
   intro a' V hxv hax
   have hlV:V.heap[lk+1]?=some (.loop (rec .ready none)):=(hxv.block _ (Array.getElem?_eq_some_iff.1 hl).1).trans hl
   have hkV:V.heap[lk]?=some (.deferred (some [])):=(hxv.block _ (Array.getElem?_eq_some_iff.1 hk).1).trans hk
   have hsV:B≤V.heap.size:=Nat.le_trans (Nat.le_trans hB (by have:=(Array.getElem?_eq_some_iff.1 hk).1;omega)) hxv.le
   have hBW:B≤W.heap.size:=by have:=(Array.getElem?_eq_some_iff.1 hk).1;omega
   have hiV:I Du pre V:=hI.stay _ _ _ _ hi (Below.mono hxv hBW) fun k h=>hxv.block k (hI.lt _ _ _ hi k h).2
   refine ⟨_,run_beginRound hlV (by rw [hrec]),?_⟩
   obtain ⟨U,hU⟩:∃ U,U=V.putObj (lk+1) (.loop { rec .ready none with state:=.busy }):=⟨_,rfl⟩
   rw [←hU]
   have hltV:=(Array.getElem?_eq_some_iff.1 hlV).1
   have hlU:U.heap[lk+1]?=some (.loop { rec .ready none with state:=.busy }):=by rw [hU];exact World.putObj_heap_same hltV
   have hkU:U.heap[lk]?=some (.deferred (some [])):=by rw [hU];exact (put_other (by omega)).trans hkV
   have hbU:Below B W U:=by rw [hU];exact (Below.mono hxv hBW).trans (below_put _ (by omega))
   have hsU:U.heap.size=V.heap.size:=by rw [hU,put_size]
   have hiU:I Du pre U:=by rw [hU];exact hI.put hiV h3 (by omega) _
   have haU:Ax x a' U:=by rw [hU];exact hAx x a' V _ _ _ hax (by omega) hlV rfl
   have hoU:Others D W U:=fun k hk1 hk2=>by
    rw [hU,put_other (fun e=>hk2 ((hD k).2 (.inr (.inr e))))];exact hxv.block k hk1
   refine wpIn_mono (hbody _ Du pre x a' U hiU haU hlen) ?_
   have fin : ∀ (jump : Option Code) (V3 : World), Others Du U V3 →
       (Instr.endRound (lk+1) jump).run P V3=.ok (.bool jump.isNone) (V3.putObj (lk+1) (.loop (rec (if jump.isNone then .ready else .done) jump)))∧
       V3.heap[lk+1]?=some (.loop { rec .ready none with state:=.busy })∧
       (V3.putObj (lk+1) (.loop (rec (if jump.isNone then .ready else .done) jump))).heap[lk+1]?=some (.loop (rec (if jump.isNone then .ready else .done) jump))∧
       (V3.putObj (lk+1) (.loop (rec (if jump.isNone then .ready else .done) jump))).heap[lk]?=some (.deferred (some [])):=fun jump V3 ho=>by
    have hl3:=(ho _ (by omega) h3).trans hlU
    have hr:=run_endRound (P:=P) jump hl3
    rw [hrec] at hr hl3 ⊢
    exact ⟨hr,hl3,World.putObj_heap_same (Array.getElem?_eq_some_iff.1 hl3).1,(put_other (by omega)).trans ((ho _ (by omega) h2).trans hkU)⟩
   rintro e a3 V3 hp
   cases e with
   | normal =>
    obtain ⟨hb3,ho3,D',hi3,hg3⟩:=hp
    obtain ⟨hr,hl3,hl4,hk4⟩:=fin none V3 ho3
    have n2:¬D' lk:=fun h=>(hg3 _ h).elim h2 (fun h=>by omega)
    have n3:¬D' (lk+1):=fun h=>(hg3 _ h).elim h3 (fun h=>by omega)
    refine ⟨_,_,hr,.inl ⟨rfl,⟨fun k=>D' k∨k=lk∨k=lk+1,⟨D',fun _=>Iff.rfl,n2,n3,hI.put hi3 n3 (by omega) _,hl4,hk4⟩,fun k h=>?_⟩,fun k hk1 hk2=>?_,(hbU.trans hb3).trans (below_put _ (by omega))⟩⟩
    ·rcases h with h | h
     ·rcases hg3 _ h with h' | h'
      ·exact .inl ((hD k).2 (.inl h'))
      ·exact .inr (Nat.le_trans hxv.le (by omega))
     ·exact .inl ((hD k).2 (.inr h))
    ·rw [put_other (fun e=>hk2 ((hD k).2 (.inr (.inr e))))]
     exact (ho3 k (Nat.lt_of_lt_of_le hk1 (by rw [hsU];exact hxv.le)) fun h=>hk2 ((hD k).2 (.inl h))).trans (hoU k hk1 hk2)
   | ret =>
    obtain ⟨hb3,ho3,hi3⟩:=hp
    obtain ⟨hr,hl3,hl4,hk4⟩:=fin (some .ret) V3 ho3
    exact ⟨_,_,hr,.inr ⟨rfl,.ret,hIx _ _ _ _ _ _ hi3 (by omega) hl3 rfl,hl4,hk4⟩⟩
   | exit id =>
    obtain ⟨hb3,ho3,hi3⟩:=hp
    obtain ⟨hr,hl3,hl4,hk4⟩:=fin (some (.exit id)) V3 ho3
    exact ⟨_,_,hr,.inr ⟨rfl,.exit id,hIx _ _ _ _ _ _ hi3 (by omega) hl3 rfl,hl4,hk4⟩⟩
   | goto t =>
    obtain ⟨hb3,ho3,hi3⟩:=hp
    obtain ⟨hr,hl3,hl4,hk4⟩:=fin (some (.goto t)) V3 ho3
    exact ⟨_,_,hr,.inr ⟨rfl,.goto t,hIx _ _ _ _ _ _ hi3 (by omega) hl3 rfl,hl4,hk4⟩⟩
   | panic ch => exact hp.elim
   | outgrown => exact hp.elim
  ·rintro e W2 ⟨⟨v,rfl⟩,(⟨xs,D,hS,Du,hD,h2,h3,hi,hl,hk⟩ | ⟨pre,hSp,c,hi,hl,hk⟩)⟩
   ·exact ⟨none,_,by have:=run_endLoop (P:=P) hl (by rw [hrec];simp);rw [hrec] at this;exact this,hdone _ Du xs _ (by omega) hS (hI.put hi h3 (by omega) _) h2 ((put_other (by omega)).trans hk)⟩
   ·exact ⟨some c,_,by have:=run_endLoop (P:=P) hl (by rw [hrec];simp);rw [hrec] at this;exact this,hstop _ c pre _ (by omega) hSp (hIx _ _ _ _ _ _ hi (by omega) hl rfl) ((put_other (by omega)).trans hk)⟩
end
end Go.Proofs.YtnknkkmdbnaglaaGreat

namespace Go.Proofs.YtnknkkmdbnaglaaGreat
open Go.RowKit Go.Shelf
attribute [local go_sem] Oper.semAt_some
abbrev TM.prc (T:TM) (p:Nat):Array Value:=#[.string (T.name p),.slice (T.va p) (T.vn p) (T.vc p),.slice (T.ea p) (T.en p) (T.ec p)]
set_option maxHeartbeats 1000000 in
theorem states_any (T : TM) (p : Nat) (w : World) :
    Calls Tryz.prog 277 #[T.pr p] w fun e w'=>e=.returned (.func (.func 284) #[] #[.pointer (some ⟨w.heap.size,0,none⟩)])∧∃ t,w'=w.alloc (.cells (T.prc p) t):=by
 go_enter Tryz.func277,Tryz.ntmps277
 go_wp2
 go_ret
 exact ⟨rfl,_,rfl⟩
abbrev StX:Type:=Nat × Value
abbrev stEnc (x:StX):Array Value:=#[.int .i64 x.1,x.2]
def StE (T:Tr) (p B:Nat) (x:StX) (W:World):Prop:=x.1≤T.en p∧Que W B 1 x.2 (T.vn p) (intCells (T.stL p x.1))
structure VsI (w0:World) (T:TM) (p bp Bi:Nat) (J:(Nat→Prop)→List StX→World→Prop) (pre:List StX) (v:Value) (l:List Int) (W:World):Prop where
 bl:Ext w0 W
 hb:Hold W bp (T.prc p)
 own:IntOwn W Bi v l
 bs:Bi≤W.heap.size
 b0:w0.heap.size≤Bi
 j:∃ D,J D pre W∧¬D bp∧∀ k,v.ownBlock=some k→¬D k
section
variable {w0:World} {T:TM} {p bp Bi:Nat} {J:(Nat→Prop)→List StX→World→Prop} {pre:List StX} {v:Value} {l:List Int} {W W':World}
theorem VsI.ext (h:VsI w0 T p bp Bi J pre v l W) (hJ:Dep w0.heap.size J) (x:Ext W W'):VsI w0 T p bp Bi J pre v l W':=by
 obtain ⟨D,h1,h2,h3⟩:=h.j
 exact ⟨h.bl.trans x,h.hb.ext x,h.own.kept x,Nat.le_trans h.bs x.le,h.b0,D,hJ.stay _ _ _ _ h1 (Below.mono x h.bl.le) (fun k hk=>x.block k (hJ.lt _ _ _ h1 k hk).2),h2,h3⟩
structure VsL (w0:World) (T:TM) (p bp Bi:Nat) (J:(Nat→Prop)→List StX→World→Prop) (v:Value) (l:List Int) (W:World):Prop where
 bl:Ext w0 W
 hb:Hold W bp (T.prc p)
 own:IntOwn W Bi v l
 bs:Bi≤W.heap.size
 b0:w0.heap.size≤Bi
 bB:bp<Bi
 j:∃ D,J D [] W∧¬D bp∧∀ k,D k→k<Bi
theorem VsL.to (h:VsL w0 T p bp Bi J v l W):VsI w0 T p bp Bi J [] v l W:=by
 obtain ⟨D,h1,h2,h3⟩:=h.j
 exact ⟨h.bl,h.hb,h.own,h.bs,h.b0,D,h1,h2,fun k e hk=>by have:=h.own.block k e;have:=h3 k hk;omega⟩
theorem VsL.ext (h:VsL w0 T p bp Bi J v l W) (hJ:Dep w0.heap.size J) (x:Ext W W'):VsL w0 T p bp Bi J v l W':=by
 obtain ⟨D,h1,h2,h3⟩:=h.j
 exact ⟨h.bl.trans x,h.hb.ext x,h.own.kept x,Nat.le_trans h.bs x.le,h.b0,h.bB,D,hJ.stay _ _ _ _ h1 (Below.mono x h.bl.le) (fun k hk=>x.block k (hJ.lt _ _ _ h1 k hk).2),h2,h3⟩
theorem VsL.push (h:VsL w0 T p bp Bi J v l W) (hJ:Dep w0.heap.size J) {v':Value} {x:Int} (hown:IntOwn W' Bi v' (l++[x])) (hg:W.grownBy W' v.ownBlock):VsL w0 T p bp Bi J v' (l++[x]) W':=by
 obtain ⟨D,h1,h2,h3⟩:=h.j
 have hB:Below w0.heap.size W W':=(Below.refl _ _).grown hg h.bl.le fun k e=>Nat.le_trans h.b0 (h.own.block k e)
 refine ⟨Below.trans h.bl hB,?_,hown,Nat.le_trans h.bs hg.size,h.b0,h.bB,D,hJ.stay _ _ _ _ h1 hB (fun k hk=>hg.block k (hJ.lt _ _ _ h1 k hk).2 (fun e=>by have:=h.own.block k e.symm;have:=h3 k hk;omega)),h2,h3⟩
 obtain ⟨t,ht⟩:=h.hb
 exact ⟨t,by rw [hg.block bp h.hb.lt (fun e=>by have:=h.own.block bp e.symm;have:=h.bB;omega)];exact ht⟩
theorem VsI.round (h : VsI w0 T p bp Bi J pre v l W) {D D' : Nat → Prop} {x : StX} (hbpl : ¬ D bp) (hv : ∀ k, v.ownBlock = some k → ¬ D k) (hJ' : J D' (pre ++ [x]) W') (hg : Grew D D' W) (ho : Others D W W') (hb : Below w0.heap.size W W') :
    VsI w0 T p bp Bi J (pre++[x]) v l W':=by
 have hlt:=h.hb.lt
 refine ⟨Below.trans h.bl hb,?_,h.own.same fun g e=>ho g (h.own.lt g e) (hv g e),Nat.le_trans h.bs hb.size,h.b0,D',hJ',fun hk=>(hg _ hk).elim hbpl (fun h=>by omega),fun k e hk=>(hg _ hk).elim (hv k e) (fun h'=>by have:=h.own.lt k e;omega)⟩
 obtain ⟨t,ht⟩:=h.hb
 exact ⟨t,(ho bp hlt hbpl).trans ht⟩
theorem VsI.put {g n cap : Nat} (h : VsI w0 T p bp Bi J pre (.slice (some ⟨g, 0, none⟩) n cap) l W) (hn : l.length = n) (hJ : Dep w0.heap.size J) (hg : g ≠ bp) (a : Nat) (x : Int) :
    VsI w0 T p bp Bi J pre (.slice (some ⟨g,0,none⟩) n cap) (l.set a x) (W.setCell ⟨g,a,none⟩ (.int .i64 x)):=by
 subst hn
 obtain ⟨D,h1,h2,h3⟩:=h.j
 have hgB:Bi≤g:=h.own.block g rfl
 have hB:Below w0.heap.size W (W.setCell ⟨g,a,none⟩ (.int .i64 x)):=(Below.refl _ _).setCell (by have:=h.b0;show w0.heap.size≤g;omega) _
 refine ⟨Below.trans h.bl hB,h.hb.other _ _ (by show bp≠g;omega),?_,by rw [World.size_setCell];exact h.bs,h.b0,D,hJ.stay _ _ _ _ h1 hB (fun k hk=>Below.heap_setCell _ _ _ _ (fun e=>by have e:k=g:=e;subst e;exact h3 k rfl hk)),h2,h3⟩
 have:=(World.ownsRow.stored h.own a (.int .i64 x)).1
 unfold IntOwn intCells
 rw [List.length_set,List.map_set]
 exact this
end
theorem range_snoc (xs:List StX) (k:Nat) (x:StX) (h:xs.map Prod.fst=List.range k) (hx:x.1=k):(xs++[x]).map Prod.fst=List.range (k+1):=by
 rw [List.map_append,h,List.range_succ];simp [hx]
theorem range_pre (xs:List StX) {k n:Nat} (h:xs.map Prod.fst=List.range k) (hk:k≤n):xs.map Prod.fst <+: List.range n:=by
 rw [h];exact ⟨List.range' k (n - k),by have:=@List.range'_append_1 0 k (n - k);rw [Nat.zero_add,show k+(n - k)=n by omega] at this;rw [List.range_eq_range',List.range_eq_range',this]⟩
set_option maxHeartbeats 4000000 in
theorem states_seq (n : Nat) (hn : 1 ≤ n) (w0 : World) (T : TM) (hT : T.At w0) (hV : T.toTr.Valid) (p : Nat) (hp : p < T.n) (w : World) (hxw : Ext w0 w) (bp : Nat) (hbp : Hold w bp (T.prc p)) :
    SeqD Fence.wide n Tryz.prog 284 #[.pointer (some ⟨bp,0,none⟩)] stEnc (StE T.toTr p w0.heap.size) (fun xs=>xs.map Prod.fst=List.range (T.en p+1)) (fun pre=>pre.map Prod.fst <+: List.range (T.en p+1)) (T.en p+1) w0.heap.size bp w:=by
 intro l J Jx W D hxW hDb hJ hY h0
 obtain ⟨i0,hi0,hz0,hz1,hz2⟩:=info_parts infoInt
 have HY:=Lib.hid hY
 have HT:=Lib.hid hT
 have HV:=Lib.hid hV
 have HJ:=Lib.hid hJ
 have hlow:=fun k hk=>(hJ.lt _ _ _ h0 k hk).2
 have hx0W:=hxw.trans hxW
 obtain ⟨Bi,hBi⟩:∃ Bi,Bi=W.heap.size:=⟨_,rfl⟩
 have HL0:=Lib.hid (VsL.mk (T:=T) (p:=p) (bp:=bp) (Bi:=Bi) (J:=J) (v:=.slice none 0 0) (l:=[]) hx0W (hbp.ext hxW) (IntOwn.nil _ _) (by omega) (by rw [hBi];exact hx0W.le) (by rw [hBi];exact (hbp.ext hxW).lt) ⟨D,h0,hDb,fun k hk=>by rw [hBi];exact hlow k hk⟩)
 have hbB:bp<Bi:=by rw [hBi];exact (hbp.ext hxW).lt
 have hvn:=hV.vn8 hp
 have hen:=hV.en64 hp
 have hcell:∀ i,W.cell? ⟨bp,i,none⟩=(T.prc p)[i]?:=fun i=>(hbp.ext hxW).cell0 i
 have h0p:=hcell 1
 have h0e:=hcell 2
 clear hY hT hV hJ hlow h0 hbp hcell hBi
 dsimp only [TM.prc] at h0p h0e
 simp only [List.getElem?_toArray,List.getElem?_cons_succ,List.getElem?_cons_zero] at h0p h0e
 obtain ⟨va,hva⟩:∃ a,a=T.va p:=⟨_,rfl⟩
 obtain ⟨ea,hea⟩:∃ a,a=T.ea p:=⟨_,rfl⟩
 rw [←hva] at h0p
 rw [←hea] at h0e
 have HVA:=Lib.hid hva
 have HEA:=Lib.hid hea
 clear hva hea
 refine callsIn_of_wp Tryz.func284 rfl trivial ?_ rfl
 simp only [Tryz.ntmps284,List.size_toArray,List.length_cons,List.length_nil,Nat.reduceAdd,Nat.reduceSub,Array.replicate_succ,Array.replicate_zero,List.push_toArray,List.append_toArray,List.nil_append,List.cons_append]
 gi_wp2
 gi_loopw [13,3] (fun v13 v3 wr=>∃ (k:Nat) (v:Value),k≤T.vn p∧v13=.int .i64 k∧v=v3∧VsL w0 T p bp Bi J v ((List.range k).map fun j=>T.vinit p j) wr) (fun v _ _=>T.vn p - (intOf v).toNat)
 case atStart=>exact ⟨0,_,Nat.zero_le _,rfl,rfl,HL0.out⟩
 obtain ⟨k,v,hk,rfl,rfl,hL⟩:=hrel
 have HL:=Lib.hid hL
 have hx0r:=hL.bl
 clear hL
 by_cases hlt:k<T.vn p
 ·have hlt':(k:Int)<(T.vn p:Int):=by omega
  obtain rfl:va=some ⟨T.vb p,T.vo p,none⟩:=by rw [HVA.out];exact HT.out.V.va p hp (by omega)
  have vb:∀ w',Ext w0 w'→T.vb p<w'.heap.size:=HT.out.V.vb p hp (by omega)
  have v0:∀ w',Ext w0 w'→w'.cell? ⟨T.vb p,T.vo p+k*2,none⟩=some (.string (T.vname p k)):=fun w' h=>HT.out.V.v0 w' h p k hp hlt
  have v1:∀ w',Ext w0 w'→w'.cell? ⟨T.vb p,T.vo p+k*2+1,none⟩=some (.int .i64 (T.vinit p k)):=fun w' h=>HT.out.V.v1 w' h p k hp hlt
  gi_upto_region 4 with fail
  refine boxed1 (w:=wr) (G:=fun x=>Code.wpIn _ _ _ _ _ _ x) ?_
  intro w3 hx3 hs3 ⟨l3,c3,_,_⟩
  have hx33:Ext w3 w3:=Ext.refl _
  have HL3:=Lib.hid (HL.out.ext HJ.out hx3)
  have HO:=Lib.hid (show w3.ownsRow Bi 3 1 v k (intCells ((List.range k).map fun j=>T.vinit p j)) from by have:=HL3.out.own;unfold IntOwn at this;rwa [List.length_map,List.length_range] at this)
  clear hs3 v0 v1 vb
  gi_wp2_with (gi_at_builtin;refine wpListIn_append_own _ rfl _ _ 28 rfl Bi 3 i0 (.int .i64 0) 1 8 Tryz.underlying28 hi0 hz0 hz1 hz2 rfl (by decide) v k (intCells ((List.range k).map fun j=>T.vinit p j)) rfl (by exact HO.out.alloc _) ⟨w3.heap.size,0,none⟩ 1 1 [.int .i64 (T.vinit p k)] rfl rfl (by exact news_ok w3 [_] _) (by intro u hu;simp at hu;subst hu;rfl) (by unfold maxLen;omega) (by omega) (by have:=HL3.out.bs;simp;omega) ?_;rintro v6 w6 hown6 hg6 -;have H6:=Lib.hid (And.intro hown6 hg6);clear hown6 hg6)
  go_roundw
  case rel=>
   have hL4:=fun o=>HL3.out.ext HJ.out (Ext.alloc w3 o)
   refine ⟨k+1,v6,by omega,by go_num,rfl,?_⟩
   rw [List.range_succ,List.map_append]
   refine (hL4 _).push (x:=T.vinit p k) HJ.out ?_ H6.out.2
   unfold IntOwn intCells
   have:=H6.out.1
   unfold intCells at this
   rw [List.length_append,List.length_map,List.length_range,List.map_append]
   exact this
  case measure=>simp [intOf];omega
 ·have hke:k=T.vn p:=by omega
  subst hke
  have HI:=Lib.hid (show VsI w0 T p bp Bi J [] v (T.stL p 0) wr from HL.out.to)
  clear HL
  gi_wp2_with fail
  refine ⟨trivial,?_⟩
  gi_at_call 121
  refine (CallsIn.mono (callsIn_wide.2 (clone_any _ Bi _ (T.stL p 0) HI.out.own (by rw [Tr.stL_len];omega))) ?_)
  rintro e w4 ⟨v4,rfl,hq4,hx4⟩
  rw [Tr.stL_len] at hq4
  have HI4:=Lib.hid (VsI.ext HI.out HJ.out hx4)
  obtain ⟨D1,j1,j2,j3⟩:=HI4.out.j
  obtain ⟨fn,tmps,assign,body,hy,hR⟩:=HY.out D1 [] (0,v4) w4 j1 ⟨(Nat.zero_le _),hq4.mono (by have:=HI.out.bl.le;omega)⟩ (by simp)
  have hy:(Instr.yield l #[.int .i64 (0),v4]).run Tryz.prog w4=_:=hy
  clear hq4
  gi_wp2
  refine hR.mono ?_
  rintro e w5 (⟨rfl,⟨D',hj',hg'⟩,ho',hb'⟩ | ⟨rfl,hJx⟩)
  ·have HI5:=Lib.hid (VsI.round HI4.out j2 j3 hj' hg' ho' hb')
   clear HI4 HI hy hR j1 j2 j3 hj' hg' ho' hb' D1
   have h5e:w5.cell? ⟨bp,2,none⟩=some (.slice ea (T.en p) (T.ec p)):=by rw [HEA.out];exact HI5.out.hb.cell0 2
   gi_wp2
   gi_loopw [31] (fun v31 wr=>∃ (i:Nat) (pre:List StX),i≤T.en p∧v31=.int .i64 i∧pre.map Prod.fst=List.range (i+1)∧VsI w0 T p bp Bi J pre v (T.stL p i) wr) (fun v _=>T.en p - (intOf v).toNat)
   case atStart=>exact ⟨0,_,Nat.zero_le _,rfl,rfl,HI5.out⟩
   obtain ⟨i,pre,hi,rfl,hpre,hI⟩:=hrel
   have HI:=Lib.hid hI
   have HPRE:=Lib.hid hpre
   have hx0i:=hI.bl
   clear hI hpre HI5
   by_cases hli:i<T.en p
   ·have hli':(i:Int)<(T.en p:Int):=by omega
    obtain rfl:ea=some ⟨T.eb p,T.eo p,none⟩:=by rw [HEA.out];exact HT.out.E.ea p hp (by omega)
    have eb:∀ w',Ext w0 w'→T.eb p<w'.heap.size:=HT.out.E.eb p hp (by omega)
    have e0:∀ w',Ext w0 w'→w'.cell? ⟨T.eb p,T.eo p+i*5,none⟩=some (.int .i64 (T.kind p i)):=fun w' h=>HT.out.E.e0 w' h p i hp hli
    have e1:∀ w',Ext w0 w'→w'.cell? ⟨T.eb p,T.eo p+i*5+1,none⟩=some (.int .i64 (T.peer p i)):=fun w' h=>HT.out.E.e1 w' h p i hp hli
    have e2:∀ w',Ext w0 w'→w'.cell? ⟨T.eb p,T.eo p+i*5+2,none⟩=some (.int .i64 (T.msg p i)):=fun w' h=>HT.out.E.e2 w' h p i hp hli
    have e3:∀ w',Ext w0 w'→w'.cell? ⟨T.eb p,T.eo p+i*5+3,none⟩=some (.int .i64 (T.time p i)):=fun w' h=>HT.out.E.e3 w' h p i hp hli
    obtain ⟨aa,haa⟩:∃ a,a=T.aa p i:=⟨_,rfl⟩
    have e4:∀ w',Ext w0 w'→w'.cell? ⟨T.eb p,T.eo p+i*5+4,none⟩=some (.slice aa (T.an p i) (T.ac p i)):=fun w' h=>by rw [haa];exact HT.out.E.e4 w' h p i hp hli
    have HAA:=Lib.hid haa
    have han:=HV.out.an8 hp hli
    clear haa
    gi_upto_region 10 with fail
    refine boxed1 (w:=wr) (G:=fun x=>Code.wpIn _ _ _ _ _ _ x) ?_
    intro w7 hx7 hs7 ⟨l7,c7,_,_⟩
    have hx77:Ext w7 w7:=Ext.refl _
    have HI7:=Lib.hid (HI.out.ext HJ.out hx7)
    clear hs7 e0 e1 e2 e3 e4 eb HI
    gi_wp2
    gi_loopw [39] (fun v39 wr=>∃ (j:Nat),j≤T.an p i∧v39=.int .i64 j∧VsI w0 T p bp Bi J pre v (T.stM p i j) wr) (fun v _=>T.an p i - (intOf v).toNat)
    case atStart=>exact ⟨0,Nat.zero_le _,rfl,HI7.out⟩
    obtain ⟨j,hj,rfl,hI⟩:=hrel
    have HI:=Lib.hid hI
    have hx0j:=hI.bl
    clear hI HI7
    by_cases hlj:j<T.an p i
    ·have hlj':(j:Int)<(T.an p i:Int):=by omega
     obtain rfl:aa=some ⟨T.ab p i,T.ao p i,none⟩:=by rw [HAA.out];exact HT.out.A.aa p i hp hli (by omega)
     have ab:∀ w',Ext w0 w'→T.ab p i<w'.heap.size:=HT.out.A.ab p i hp hli (by omega)
     obtain ⟨q1,q2,q3,q4⟩:=HV.out.asg hp hli hlj
     obtain ⟨a,ha⟩:=Int.eq_ofNat_of_zero_le q1
     obtain ⟨x,hx⟩:∃ x,x=T.aval p i j:=⟨_,rfl⟩
     have a0:∀ w',Ext w0 w'→w'.cell? ⟨T.ab p i,T.ao p i+j*2,none⟩=some (.int .i64 a):=fun w' h=>by rw [←ha];exact HT.out.A.a0 w' h p i j hp hli hlj
     have a1:∀ w',Ext w0 w'→w'.cell? ⟨T.ab p i,T.ao p i+j*2+1,none⟩=some (.int .i64 x):=fun w' h=>by rw [hx];exact HT.out.A.a1 w' h p i j hp hli hlj
     have hav:a<T.vn p:=by omega
     have HA:=Lib.hid ha
     have HX:=Lib.hid hx
     clear q1 q2 q3 q4 ha hx
     gi_upto_region 13 with fail
     refine boxed1 (w:=wr) (G:=fun x=>Code.wpIn _ _ _ _ _ _ x) ?_
     intro w9 hx9 hs9 ⟨l9,c9,_,_⟩
     have hx99:Ext w9 w9:=Ext.refl _
     have HI9:=Lib.hid (HI.out.ext HJ.out hx9)
     clear hs9 a0 a1 ab HI
     obtain ⟨g,cap,rfl⟩:∃ g cap,v=.slice (some ⟨g,0,none⟩) (T.vn p) cap:=by
      obtain ⟨f1,f2,_⟩:=HI9.out.own.form
      rw [Tr.stM_len] at f1 f2
      exact ⟨_,_,by rw [←f2 (by omega)];exact f1⟩
     have hgb:=HI9.out.own.block g rfl
     have hav':(a:Int)<(T.vn p:Int):=by omega
     have hown:=HI9.out.own
     unfold IntOwn at hown
     rw [Tr.stM_len] at hown
     obtain ⟨u,cg⟩:∃ u,w9.cell? ⟨g,a,none⟩=some u:=by
      have hl:a<(intCells (T.stM p i j)).length:=by unfold intCells;rw [List.length_map,Tr.stM_len];exact hav
      exact ⟨_,(World.ownsRow.cellAt hown a (by omega)).trans (List.getElem?_eq_getElem hl)⟩
     have fg:=World.ownsRow.frozenAt hown a
     clear hown
     gi_wp2
     go_roundw
     case rel=>
      refine ⟨j+1,by omega,by go_num,?_⟩
      rw [←T.toTr.stM_set p i j a HA.out,←HX.out]
      exact HI9.out.put (T.toTr.stM_len p i j) HJ.out (by omega) a x
     case measure=>simp [intOf];omega
    ·have hje:j=T.an p i:=by omega
     subst hje
     have HI2:=Lib.hid (show VsI w0 T p bp Bi J pre v (T.stL p (i+1)) wr from HI.out)
     have hpl:pre.length=i+1:=by have:=congrArg List.length HPRE.out;simpa using this
     clear HI
     gi_wp2_with fail
     refine ⟨trivial,?_⟩
     gi_at_call 121
     refine (CallsIn.mono (callsIn_wide.2 (clone_any _ Bi _ (T.stL p (i+1)) HI2.out.own (by rw [Tr.stL_len];omega))) ?_)
     rintro e w4 ⟨v4,rfl,hq4,hx4⟩
     rw [Tr.stL_len] at hq4
     have HI4:=Lib.hid (VsI.ext HI2.out HJ.out hx4)
     obtain ⟨D1,j1,j2,j3⟩:=HI4.out.j
     obtain ⟨fn,tmps,assign,body,hy,hR⟩:=HY.out D1 pre ((i+1),v4) w4 j1 ⟨hli,hq4.mono (by have:=HI2.out.bl.le;omega)⟩ (by omega)
     have hy:(Instr.yield l #[.int .i64 (((i:Int)+1)),v4]).run Tryz.prog w4=_:=hy
     clear hq4
     gi_wp2
     refine hR.mono ?_
     rintro e w5 (⟨rfl,⟨D',hj',hg'⟩,ho',hb'⟩ | ⟨rfl,hJx⟩)
     ·gi_wp2
      go_roundw
      case rel=>exact ⟨i+1,_,by omega,by go_num,range_snoc pre (i+1) (i+1,v4) HPRE.out rfl,VsI.round HI4.out j2 j3 hj' hg' ho' hb'⟩
      case measure=>simp [intOf];omega
     ·gi_wp2
      refine bodyPost_ret (results_none rfl _ _ _) rfl ?_
      exact ⟨⟨_,rfl⟩,.inr ⟨_,range_pre (k:=i+1+1) _ (range_snoc pre (i+1) (i+1,v4) HPRE.out rfl) (by omega),hJx⟩⟩
   ·gi_wp2
    go_end0
    exact ⟨⟨_,rfl⟩,.inl (by
     obtain ⟨D',h,_⟩:=HI.out.j
     have hie:i=T.en p:=by omega
     subst hie
     exact ⟨pre,D',HPRE.out,h⟩)⟩
  ·gi_wp2
   refine bodyPost_ret (results_none rfl _ _ _) rfl ?_
   exact ⟨⟨_,rfl⟩,.inr ⟨_,range_pre (k:=1) _ rfl (by omega),hJx⟩⟩
end Go.Proofs.YtnknkkmdbnaglaaGreat

namespace Go.Proofs.YtnknkkmdbnaglaaGreat
open Go.RowKit Go.Shelf
attribute [local go_sem] Oper.semAt_some
theorem Que.put {W:World} {base size:Nat} {v:Value} {n:Nat} {xs:List Value} (h:Que W base size v n xs) {l:Nat} {o:Obj} (o':Obj) (ho:W.heap[l]?=some o) (hc:o.isCells=false):Que (W.putObj l o') base size v n xs:=by
 refine ⟨h.len,?_⟩
 rcases h.val with hv | ⟨g,off,cap,hv,h1,h2,h3,h4,h5,h6⟩
 ·exact .inl hv
 ·by_cases e:g=l
  ·subst e
   have hz:¬0<cap*size:=fun h0=>by
    have:=(h6 0 h0).1
    simp only [World.cell?,ho] at this
    cases o <;> simp_all [Obj.isCells]
   have hnz:n*size≤cap*size:=Nat.mul_le_mul_right _ h3
   exact .inr ⟨g,off,cap,hv,h1,by rw [put_size];exact h2,h3,h4,fun j hj=>by omega,fun j hj=>by omega⟩
  ·have eb:=put_other (W:=W) (o:=o') e
   refine .inr ⟨g,off,cap,hv,h1,by rw [put_size];exact h2,h3,h4,fun j hj=>?_,fun j hj=>?_⟩
   ·exact (World.cell?_of_block (w:=W) (a:=⟨g,off+j,none⟩) eb).trans (h5 j hj)
   ·rw [World.cell?_of_block (w:=W) (a:=⟨g,off+j,none⟩) eb,World.frozen?_of_block (w:=W) (a:=⟨g,off+j,none⟩) eb]
    exact h6 j hj
theorem Que.shape {w:World} {base size:Nat} {v:Value} {n:Nat} {xs:List Value} (h:Que w base size v n xs) (h0:0<n):∃ g off cap,v=.slice (some ⟨g,off,none⟩) n cap∧base≤g∧g<w.heap.size∧n≤cap∧∀ j,j<n*size→w.cell? ⟨g,off+j,none⟩=xs[j]?:=by
 rcases h.val with ⟨_,_,hz,_⟩ | ⟨g,off,cap,hv,h1,h2,h3,_,h5,_⟩
 ·omega
 ·exact ⟨g,off,cap,hv,h1,h2,h3,h5⟩
end Go.Proofs.YtnknkkmdbnaglaaGreat

namespace Go.Proofs.YtnknkkmdbnaglaaGreat
open Go.RowKit Go.Shelf
set_option maxHeartbeats 400000 in
theorem index1_any (w : World) (s nm : ByteArray) (v1 : Value) (bx : Nat) (hc : w.cell? ⟨bx, 0, none⟩ = some (.string nm)) :
    Calls Tryz.prog 283 #[.agg #[.string s,v1],.pointer (some ⟨bx,0,none⟩)] w fun e w'=>e=.returned (.bool (strEq s nm))∧Ext w w':=by
 have hlt:=cell_lt hc
 dsimp only at hlt
 go_enter Tryz.func283,Tryz.ntmps283
 go_wp2
 go_ret
 exact ⟨ret_bool (by simp [strEq]),Ext.alloc _ _⟩
def Tr.varI (T:Tr) (p:Nat) (nm:ByteArray):Int:=idxI (fun v=>strEq (T.vname p v) nm) (T.vn p)
theorem idxI_cases (p:Nat→Bool) (n:Nat):(idxI p n=-1∧∀ i,i<n→p i=false)∨∃ k,k<n∧p k=true∧idxI p n=(k:Int):=by
 rcases noneB_or_first p n with h | ⟨k,h1,h2,h3⟩
 ·exact .inl ⟨idxI_none h,h⟩
 ·exact .inr ⟨k,h1,h2,idxI_hit h1 h2 h3⟩
set_option maxHeartbeats 1000000 in
theorem index_any (w : World) (T : TM) (hT : T.At w) (p : Nat) (hp : p < T.n) (nm : ByteArray) :
    Calls Tryz.prog 276 #[T.pr p,.string nm] w fun e w'=>e=.returned (.int .i64 (T.toTr.varI p nm))∧Ext w w':=by
 have hvn:=hT.V.hv p hp
 have HT:=Lib.hid hT
 clear hT
 go_enter Tryz.func276,Tryz.ntmps276
 go_upto_region 1 with fail
 refine boxed2 (w:=w) (G:=fun x=>Code.wp _ _ _ _ x) ?_
 intro w1 hx1 hs1 ⟨l0,c0,_,_⟩ ⟨l1,c1,_,_⟩
 have hx11:Ext w1 w1:=Ext.refl _
 clear hs1
 have hI:=idx_Var w1 (T.va p) (T.vb p) (T.vo p) (T.vn p) (T.vc p) (fun v=>.string (T.vname p v)) (fun v=>.int .i64 (T.vinit p v)) 283 #[.pointer (some ⟨w.heap.size+1,0,none⟩)] (fun v=>strEq (T.vname p v) nm)
  hvn (fun h=>HT.out.V.va p hp h) (fun w' h v hv=>HT.out.V.v0 w' (hx1.trans h) p v hp hv) (fun w' h v hv=>HT.out.V.v1 w' (hx1.trans h) p v hp hv) (enters_of Tryz.func283 (by kernel_rfl) rfl)
  (fun v hv w' h=>index1_any w' _ nm _ _ (by exact c1 w' h 0))
 go_wp2_with fail
 go_at_call 206
 refine hI.mono ?_
 rintro e w2 ⟨rfl,hx2⟩
 have hx12:=hx1.trans hx2
 clear hI
 go_wp2_with fail
 go_ret
 exact ⟨rfl,hx12⟩
def Tr.VFindIs (T:Tr) (p:Int) (nm:ByteArray) (x c:Int):Prop:=
 (¬T.Valid∧x=0∧c=1)∨(T.Valid∧¬(0≤p∧p<T.n)∧x=0∧c=2)∨(T.Valid∧0≤p∧p<T.n∧T.varI p.toNat nm=-1∧x=0∧c=13)∨
  (T.Valid∧0≤p∧p<T.n∧∃ v:Nat,v<T.vn p.toNat∧strEq (T.vname p.toNat v) nm=true∧T.varI p.toNat nm=v∧x=v∧c=0)
def FindVPost (T:Tr) (p:Int) (nm:ByteArray) (w:World) (e:Ending) (w':World):Prop:=Ext w w'∧∃ x c:Int,e=.returned (.tuple #[.int .i64 x,.int .i64 c])∧T.VFindIs p nm x c
set_option maxHeartbeats 1000000 in
theorem vfind_any (w : World) (T : TM) (hT : T.At w) (p : Int) (nm : ByteArray) :
    Calls Tryz.prog 249 #[T.val,.int .i64 p,.string nm] w (FindVPost T.toTr p nm w):=by
 have hn:=hT.P.hn
 have HT:=Lib.hid hT
 clear hT
 obtain ⟨ta,hta⟩:∃ a,a=T.a:=⟨_,rfl⟩
 have hV:=fun W (h:Ext w W)=>valid_any W T (HT.out.ext h)
 simp only [TM.val] at hV ⊢
 rw [←hta] at hV ⊢
 have HTA:=Lib.hid hta
 have HVV:=Lib.hid hV
 clear hta hV
 go_enter Tryz.func249,Tryz.ntmps249
 go_upto_region 1 with fail
 refine boxed1 (w:=w) (G:=fun x=>Code.wp _ _ _ _ x) ?_
 intro w1 hx1 hs1 ⟨l0,c0,_,_⟩
 have hx11:Ext w1 w1:=Ext.refl _
 clear hs1
 go_wp2_with fail
 go_at_call 136
 refine (HVV.out w1 hx1).mono ?_
 rintro e w2 ⟨b,rfl,hb,hx2⟩
 have HB:=Lib.hid hb
 have hx02:=hx1.trans hx2
 clear hb
 cases b with
 | false =>
  have HN:=Lib.hid (show ¬T.toTr.Valid from fun h=>by have:=HB.out.2 h;cases this)
  clear HB
  go_wp2_with fail
  go_ret2
  exact ⟨hx02,0,1,rfl,.inl ⟨HN.out,rfl,rfl⟩⟩
 | true =>
  have HV:=Lib.hid (HB.out.1 rfl)
  clear HB
  by_cases h0:p<0
  ·have d0:decide (p<0)=true:=decide_eq_true h0
   go_wp2_with fail
   go_ret2
   exact ⟨hx02,0,2,rfl,.inr (.inl ⟨HV.out,by omega,rfl,rfl⟩)⟩
  ·have d0:decide (p<0)=false:=decide_eq_false h0
   by_cases h1:(T.n:Int)≤p
   ·have d1:decide ((T.n:Int)≤p)=true:=decide_eq_true h1
    go_wp2_with fail
    go_ret2
    exact ⟨hx02,0,2,rfl,.inr (.inl ⟨HV.out,by omega,rfl,rfl⟩)⟩
   ·obtain ⟨k,rfl⟩:∃ k:Nat,p=k:=⟨p.toNat,by omega⟩
    have hk:k<T.n:=by omega
    have hk':(k:Int)<(T.n:Int):=by omega
    have d1:decide ((T.n:Int)≤(k:Int))=false:=decide_eq_false (by omega)
    have d1':decide (T.n≤k)=false:=decide_eq_false (by omega)
    have d2:decide ((k:Int)<0)=false:=decide_eq_false (by omega)
    obtain rfl:ta=some ⟨T.b,T.off,none⟩:=by rw [HTA.out];exact HT.out.P.pa (by omega)
    have pb:=HT.out.P.pb (by omega)
    have p0:∀ w',Ext w w'→w'.cell? ⟨T.b,T.off+k*3,none⟩=some (.string (T.name k)):=fun w' h=>HT.out.P.p0 w' h k hk
    have p1:∀ w',Ext w w'→w'.cell? ⟨T.b,T.off+k*3+1,none⟩=some (.slice (T.va k) (T.vn k) (T.vc k)):=fun w' h=>HT.out.P.p1 w' h k hk
    have p2:∀ w',Ext w w'→w'.cell? ⟨T.b,T.off+k*3+2,none⟩=some (.slice (T.ea k) (T.en k) (T.ec k)):=fun w' h=>HT.out.P.p2 w' h k hk
    have hI:=index_any w2 T (HT.out.ext hx02) k hk nm
    clear h0 h1
    rcases idxI_cases (fun v=>strEq (T.vname k v) nm) (T.vn k) with ⟨hn1,_⟩ | ⟨v,hv1,hv2,hv3⟩
    ·have hi:T.toTr.varI k nm=-1:=hn1
     have HI:=Lib.hid hi
     rw [hi] at hI
     clear hn1 hi
     go_wp2_with fail
     go_at_call 276
     refine hI.mono ?_
     rintro e w3 ⟨rfl,hx3⟩
     have hx03:=hx02.trans hx3
     clear hI
     go_wp2_with fail
     go_ret2
     exact ⟨hx03,0,13,rfl,.inr (.inr (.inl ⟨HV.out,by omega,by omega,HI.out,rfl,rfl⟩))⟩
    ·have hi:T.toTr.varI k nm=v:=hv3
     have HI:=Lib.hid hi
     rw [hi] at hI
     have HV2:=Lib.hid hv2
     clear hv3 hi hv2
     go_wp2_with fail
     go_at_call 276
     refine hI.mono ?_
     rintro e w3 ⟨rfl,hx3⟩
     have hx03:=hx02.trans hx3
     clear hI
     go_wp2_with fail
     go_ret2
     exact ⟨hx03,v,0,rfl,.inr (.inr (.inr ⟨HV.out,by omega,by omega,v,hv1,HV2.out,HI.out,rfl,rfl⟩))⟩
attribute [local go_sem] Oper.semAt_some
def StatePost (T:Tr) (p k:Nat) (w:World) (e:Ending) (w':World):Prop:=Ext w w'∧∃ u,e=.returned u∧Que w' w.heap.size 1 u (T.vn p) (intCells (T.stL p k))
structure SvI (w:World) (k b1 b2:Nat) (D:Nat→Prop) (pre:List StX) (W:World):Prop where
 bl:Ext w W
 hD:∀ j,D j↔j=b1∨j=b2
 h1:Hold W b1 #[.int .i64 k]
 h2:Hold W b2 #[.slice none 0 0]
 no:∀ x,x∈pre→x.1≠k
def SvX (w:World) (T:Tr) (p k b2:Nat) (c:Code) (_:List StX) (W:World):Prop:=c=.ret∧Ext w W∧∃ u,Hold W b2 #[u]∧Que W w.heap.size 1 u (T.vn p) (intCells (T.stL p k))
theorem SvI.dep {w:World} {k b1 b2:Nat} (h1:w.heap.size≤b1) (h2:w.heap.size≤b2):Dep w.heap.size (SvI w k b1 b2):=by
 refine ⟨fun D pre W h j hj=>?_,fun D pre W W' h hb hs=>⟨Below.trans h.bl hb,h.hD,?_,?_,h.no⟩⟩
 ·rcases (h.hD j).1 hj with rfl | rfl
  ·exact ⟨h1,h.h1.lt⟩
  ·exact ⟨h2,h.h2.lt⟩
 ·obtain ⟨t,ht⟩:=h.h1;exact ⟨t,(hs b1 ((h.hD b1).2 (.inl rfl))).trans ht⟩
 ·obtain ⟨t,ht⟩:=h.h2;exact ⟨t,(hs b2 ((h.hD b2).2 (.inr rfl))).trans ht⟩
theorem state_results (tmps : Array Value) (W : World) (b : Nat) (x : Value) (t4 : tmps[4]? = some (.pointer (some ⟨b, 0, none⟩))) (c : W.cell? ⟨b, 0, none⟩ = some x) :
    (results Tryz.f250 tmps).run Tryz.prog W=.ok x W:=by
 simp [results,Tryz.results250,go_sem,t4,c]
theorem SvX.put {w:World} {T:Tr} {p k b2:Nat} {c:Code} {pre:List StX} {W:World} {l:Nat} {o:Obj} (o':Obj) (h:SvX w T p k b2 c pre W) (hl:w.heap.size≤l) (ho:W.heap[l]?=some o) (hc:o.isCells=false):SvX w T p k b2 c pre (W.putObj l o'):=by
 obtain ⟨rfl,bl,u,h2,hq⟩:=h
 refine ⟨rfl,Below.trans bl (below_put _ hl),u,?_,hq.put o' ho hc⟩
 obtain ⟨t,ht⟩:=h2
 refine ⟨t,(put_other fun e=>?_).trans ht⟩
 rw [e,ho] at ht
 cases ht
 simp [Obj.isCells] at hc
theorem SvX.mk' {w : World} {T : Tr} {p k b1 b2 : Nat} {D : Nat → Prop} {pre : List StX} {W : World} {xv : Value} (hI : SvI w k b1 b2 D pre W) (hq : Que W w.heap.size 1 xv (T.vn p) (intCells (T.stL p k))) (h0 : 0 < T.vn p) (hb : w.heap.size ≤ b2) :
    ∀ W3,W3=W.setCell ⟨b2,0,none⟩ xv→Below w.heap.size W W3∧Others D W W3∧SvX w T p k b2 .ret (pre++[(k,xv)]) W3:=by
 rintro W3 rfl
 have hbl:Below w.heap.size W (W.setCell ⟨b2,0,none⟩ xv):=(Below.refl _ _).setCell hb _
 have hne:∀ g,xv.ownBlock=some g→g≠b2:=fun g hg e=>by
  subst e
  obtain ⟨g',off,cap,rfl,_,_,_,hc⟩:=hq.shape h0
  cases hg
  have h3:=hc 0 (by omega)
  have h4:=hI.h2.cell0 (off+0)
  rw [h4] at h3
  have h5:(intCells (T.stL p k))[0]?=some (.int .i64 ((T.stL p k).getD 0 0)):=by
   have hl:=hq.len
   unfold intCells at hl ⊢
   rw [List.length_map] at hl
   rw [List.getElem?_map,List.getD_eq_getElem?_getD,List.getElem?_eq_getElem (by omega)];rfl
  rw [h5] at h3
  match off,h3 with
  | 0,h3 => simp at h3
  | n+1,h3 => simp at h3
 refine ⟨hbl,fun j hj hd=>Below.heap_setCell _ _ _ _ (fun e=>hd ((hI.hD j).2 (.inr e))),rfl,Below.trans hI.bl hbl,xv,hI.h2.set 0 xv,?_⟩
 exact hq.same' (by rw [World.size_setCell];exact Nat.le_refl _) fun g e=>Below.heap_setCell _ _ _ _ (hne g e)
set_option maxHeartbeats 8000000 in
theorem state_any (w : World) (T : TM) (hT : T.At w) (hV : T.toTr.Valid) (p : Nat) (hp : p < T.n) (h0 : 0 < T.vn p) (k : Nat) (hk : k ≤ T.en p) :
    Calls Tryz.prog 250 #[T.pr p,.int .i64 k] w (StatePost T.toTr p k w):=by
 refine (callsIn_wide (n:=4)).1 ?_
 have HT:=Lib.hid hT
 have HV:=Lib.hid hV
 clear hT hV
 refine callsIn_of_wp_marks Tryz.func250 rfl trivial ?_ rfl
 simp only [Tryz.ntmps250,List.size_toArray,List.length_cons,List.length_nil,Nat.reduceAdd,Nat.reduceSub,Array.replicate_succ,Array.replicate_zero,List.push_toArray,List.append_toArray,List.nil_append,List.cons_append]
 gi_upto_region 1 with fail
 refine boxed3 (w:=w) (G:=fun x=>Code.wpIn _ _ _ _ _ _ x) ?_
 intro w1 hx1 hs1 ⟨l0,c0,_,k0⟩ ⟨l1,c1,f1,k1⟩ ⟨l2,c2,f2,k2⟩
 have hx11:Ext w1 w1:=Ext.refl _
 have HS:=Lib.hid hs1
 have HK1:=Lib.hid k1
 have HK2:=Lib.hid k2
 clear hs1 k0 k1 k2
 gi_wp2_with fail
 refine ⟨trivial,?_⟩
 gi_at_call 277
 refine CallsIn.mono (callsIn_wide.2 (states_any T p w1)) ?_
 rintro e w2 ⟨rfl,t2,hw2⟩
 have hx2:Ext w1 w2:=by rw [hw2];exact Ext.alloc _ _
 have hb2:Hold w2 w1.heap.size (T.prc p):=by rw [hw2];exact Hold.new _ _ _
 have hx12:Ext w w2:=hx1.trans hx2
 have hI0:SvI w k (w.heap.size+1) (w.heap.size+1+1) (fun j=>j=w.heap.size+1∨j=w.heap.size+1+1) [] w2:=
  ⟨hx12,fun _=>Iff.rfl,Hold.ext HK1.out hx2,Hold.ext HK2.out hx2,fun x h=>by cases h⟩
 clear hw2 c0 c1 c2 f1 f2 l0 l1 l2
 gi_wp2_with fail
 refine wpIn_rangeD rfl (by omega) (gf:=284) (lb:=#[.pointer (some ⟨w1.heap.size,0,none⟩)]) rfl trivial (enters_of Tryz.func284 (by kernel_rfl) rfl)
  (states_seq 3 (by omega) w T HT.out HV.out p hp w2 hx12 w1.heap.size hb2) (Ext.refl _) hx12.le hb2.lt (fun _=>rfl)
  (SvI w k (w.heap.size+1) (w.heap.size+1+1)) (SvX w T.toTr p k (w.heap.size+1+1)) (fun j=>j=w.heap.size+1∨j=w.heap.size+1+1)
  (fun h=>by have:=HS.out;omega)
  (SvI.dep (by omega) (by omega)) (fun c xs W l o o' h hl ho hc=>h.put o' (by have:=hx12.le;omega) ho hc) hI0
  (fun x a' W=>StE T.toTr p w.heap.size x W∧a'={ tmps:=#[T.pr p,.int .i64 k,.pointer (some ⟨w.heap.size,0,none⟩),.pointer (some ⟨w.heap.size+1,0,none⟩),.pointer (some ⟨w.heap.size+1+1,0,none⟩),.int .i64 x.1,x.2,T.pr p,.func (.func 284) #[] #[.pointer (some ⟨w1.heap.size,0,none⟩)],.int .i64 x.1,x.2,undef,undef,undef,undef],defers:=[] })
  (fun x a' W l o o' ⟨hE,e⟩ _ ho hc=>⟨⟨hE.1,hE.2.put o' ho hc⟩,e⟩) ?assign ?body ?done ?stop
 case assign=>
  rintro l D pre x W K hI hE hK
  gi_wp2
  exact hK _ _ (Ext.refl _) ⟨hE,rfl⟩
 case body=>
  rintro l D pre ⟨xk,xv⟩ a' W hI ⟨⟨hE1,hE2⟩,rfl⟩ hlt
  dsimp only at hE1 hE2
  have HI:=Lib.hid hI
  have c1:=hI.h1.cell0 0
  obtain ⟨l2,c2,f2,_⟩:=hI.h2.box
  simp only [List.getElem?_toArray,List.getElem?_cons_zero] at c1
  have hlt0:=hI.h1.lt
  have hWW:Ext W W:=Ext.refl _
  by_cases e:xk=k
  ·subst e
   obtain ⟨g,off,cap,rfl,_⟩:=hE2.shape (by omega)
   have HP:=Lib.hid (SvX.mk' hI hE2 h0 (by omega))
   clear hI hE1 hE2 hI0
   gi_wp2
   exact HP.out _ rfl
  ·have e1:((xk:Int) == (k:Int))=false:=by simp;omega
   have e2:decide ((xk:Int)=(k:Int))=false:=decide_eq_false (by omega)
   have HE:=Lib.hid e
   clear hI hE1 hE2 hI0 e
   gi_wp2
   exact ⟨Below.refl _ _,fun _ _ _=>rfl,D,⟨HI.out.bl,HI.out.hD,HI.out.h1,HI.out.h2,fun z hz=>by
    rcases List.mem_append.1 hz with hz | hz
    ·exact HI.out.no z hz
    ·simp at hz;subst hz;exact HE.out⟩,fun _ h=>.inl h⟩
 case done=>
  rintro D D' xs W hD hS hI hnD hK
  have hm:k∈xs.map Prod.fst:=by
   have hS:xs.map Prod.fst=List.range (T.en p+1):=hS
   rw [hS];exact List.mem_range.2 (by omega)
  obtain ⟨x,hx,e⟩:=List.mem_map.1 hm
  exact absurd e (hI.no x hx)
 case stop=>
  rintro D c pre W hD hpre ⟨rfl,bl,u,h2,hq⟩ hK
  have hbl:Ext w (W.putObj D (.deferred none)):=Below.trans bl (below_put _ (by have:=hx12.le;omega))
  have hq':=hq.put (.deferred none) hK rfl
  have HQ:=Lib.hid hq'
  have h2':Hold (W.putObj D (.deferred none)) (w.heap.size+1+1) #[u]:=by
   obtain ⟨t,ht⟩:=h2
   refine ⟨t,(put_other fun e=>?_).trans ht⟩
   rw [e,hK] at ht;cases ht
  clear hI0 hpre h2 hq hq'
  gi_wp2
  refine ⟨by simp,.inl ⟨_,_,rfl,run_takeDeferred (ds:=[]) hK,?_⟩⟩
  exact ⟨_,state_results _ _ _ _ rfl (h2'.cell0 0),hbl,u,rfl,HQ.out⟩
end Go.Proofs.YtnknkkmdbnaglaaGreat

namespace Go.Proofs.YtnknkkmdbnaglaaGreat
open Go.RowKit Go.Shelf
set_option maxHeartbeats 1000000 in
theorem value_yes (w : World) (T : TM) (hT : T.At w) (hV : T.toTr.Valid) (k : Nat) (hk : k < T.n) (nm : ByteArray) (v : Nat) (hv : v < T.vn k) (hvi : T.toTr.varI k nm = v) (s : Nat) (hs : s ≤ T.en k) :
    Calls Tryz.prog 209 #[T.val,.int .i64 k,.string nm,.int .i64 s] w fun e w'=>e=.returned (.tuple #[.int .i64 (T.st k v s),.int .i64 0])∧Ext w w':=by
 have HT:=Lib.hid hT
 have HV:=Lib.hid hV
 have hen:=hV.en64 hk
 have hn8:=hV.n8
 have hF:∀ W,Ext w W→Calls Tryz.prog 249 #[T.val,.int .i64 k,.string nm] W fun e w'=>e=.returned (.tuple #[.int .i64 v,.int .i64 0])∧Ext W w':=fun W h=>(vfind_any W T (HT.out.ext h) k nm).mono fun e w' ⟨hx,x,c,he,hc⟩=>by
  rcases hc with ⟨h,_⟩ | ⟨_,h,_⟩ | ⟨_,_,_,h,_⟩ | ⟨_,_,_,v',_,_,h,rfl,rfl⟩
  ·exact absurd HV.out h
  ·exact absurd ⟨by omega,by omega⟩ h
  ·rw [Int.toNat_natCast,hvi] at h;omega
  ·rw [Int.toNat_natCast,hvi] at h
   exact ⟨by rw [he,h],hx⟩
 clear hT hV hvi
 obtain ⟨ta,hta⟩:∃ a,a=T.a:=⟨_,rfl⟩
 simp only [TM.val] at hF ⊢
 rw [←hta] at hF ⊢
 have HF:=Lib.hid hF
 obtain rfl:ta=some ⟨T.b,T.off,none⟩:=by rw [hta];exact HT.out.P.pa (by omega)
 have pb:=HT.out.P.pb (by omega)
 have p0:∀ w',Ext w w'→w'.cell? ⟨T.b,T.off+k*3,none⟩=some (.string (T.name k)):=fun w' h=>HT.out.P.p0 w' h k hk
 have p1:∀ w',Ext w w'→w'.cell? ⟨T.b,T.off+k*3+1,none⟩=some (.slice (T.va k) (T.vn k) (T.vc k)):=fun w' h=>HT.out.P.p1 w' h k hk
 have p2:∀ w',Ext w w'→w'.cell? ⟨T.b,T.off+k*3+2,none⟩=some (.slice (T.ea k) (T.en k) (T.ec k)):=fun w' h=>HT.out.P.p2 w' h k hk
 have hk':(k:Int)<(T.n:Int):=by omega
 have d1:decide ((T.en k:Int)<(s:Int))=false:=decide_eq_false (by omega)
 have d2:decide (T.en k<s)=false:=decide_eq_false (by omega)
 clear hF hta
 go_enter Tryz.func209,Tryz.ntmps209
 go_upto_region 1 with fail
 refine boxed1 (w:=w) (G:=fun x=>Code.wp _ _ _ _ x) ?_
 intro w1 hx1 hs1 ⟨l0,c0,_,_⟩
 have hx11:Ext w1 w1:=Ext.refl _
 clear hs1
 go_wp2_with fail
 go_at_call 249
 refine (HF.out w1 hx1).mono ?_
 rintro e w2 ⟨rfl,hx2⟩
 have hx02:=hx1.trans hx2
 have hst:=state_any w2 T (HT.out.ext hx02) HV.out k hk (by omega) s hs
 go_wp2_with fail
 go_at_call 250
 refine hst.mono ?_
 rintro e w3 ⟨hx3,u,rfl,hq⟩
 have hx03:=hx02.trans hx3
 obtain ⟨g,off,cap,rfl,_,hgl,_,hcell⟩:=hq.shape (by omega)
 have hcv:w3.cell? ⟨g,off+v,none⟩=some (.int .i64 (T.st k v s)):=by
  rw [hcell v (by omega)]
  unfold intCells
  rw [List.getElem?_map,T.toTr.stL_get k s v hv];rfl
 have hv':(v:Int)<(T.vn k:Int):=by omega
 have hvn:=HV.out.vn8 hk
 clear hcell hq hst p0 p1 p2 pb
 go_wp2_with fail
 go_ret2
 exact ⟨rfl,hx03⟩
end Go.Proofs.YtnknkkmdbnaglaaGreat
