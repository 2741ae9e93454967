/- Contracts and laws in plain Lean for SPos: group Uo. -/
import Derived.Test.YtnknkkmdbnaglaaGreatKa
namespace Go.Proofs.YtnknkkmdbnaglaaGreat
open Go.RowKit
def isum:Nat→(Nat→Int)→Int
 | 0,_ => 0
 | n+1,g => isum n g+g n
theorem isum_congr {f g:Nat→Int}:∀ {n:Nat},(∀ i,i<n→f i=g i)→isum n f=isum n g
 | 0,_ => rfl
 | n+1,h => by
  show isum n f+f n=isum n g+g n
  rw [isum_congr (fun i hi=>h i (by omega)),h n (by omega)]
theorem isum_add (f g:Nat→Int):∀ n,isum n (fun i=>f i+g i)=isum n f+isum n g
 | 0 => rfl
 | n+1 => by
  show isum n (fun i=>f i+g i)+(f n+g n)=(isum n f+f n)+(isum n g+g n)
  rw [isum_add f g n];omega
theorem isum_sub (f g:Nat→Int):∀ n,isum n (fun i=>f i - g i)=isum n f - isum n g
 | 0 => rfl
 | n+1 => by
  show isum n (fun i=>f i - g i)+(f n - g n)=(isum n f+f n) - (isum n g+g n)
  rw [isum_sub f g n];omega
theorem isum_zero:∀ n,isum n (fun _=>0)=0
 | 0 => rfl
 | n+1 => by show isum n (fun _ => 0)+0=0;rw [isum_zero n];rfl
theorem isum_swap (g:Nat→Nat→Int) (m:Nat):∀ n,isum n (fun i=>isum m (fun j=>g i j))=isum m (fun j=>isum n (fun i=>g i j))
 | 0 => (isum_zero m).symm
 | n+1 => by
  show isum n (fun i=>isum m (fun j=>g i j))+isum m (fun j=>g n j)=isum m (fun j=>isum n (fun i=>g i j)+g n j)
  rw [isum_swap g m n,isum_add]
theorem isum_one {a n:Nat} (c:Int) (h:a<n):isum n (fun v=>if v=a then c else 0)=c:=by
 induction n with
 | zero => omega
 | succ n ih =>
  show isum n (fun v=>if v=a then c else 0)+(if n=a then c else 0)=c
  by_cases e:n=a
  ·rw [if_pos e]
   have:isum n (fun v=>if v=a then c else 0)=0:=by
    rw [isum_congr (g:=fun _=>0) (fun i hi=>if_neg (by omega)),isum_zero]
   omega
  ·rw [if_neg e,ih (by omega)];omega
theorem isum_le {f g:Nat→Int}:∀ {n:Nat},(∀ i,i<n→f i≤g i)→isum n f≤isum n g
 | 0,_ => Int.le_refl _
 | n+1,h => by
  show isum n f+f n≤isum n g+g n
  have h1:=isum_le (n:=n) (fun i hi=>h i (by omega))
  have h2:=h n (by omega)
  omega
theorem isum_le_eq {f g:Nat→Int}:∀ {n:Nat},(∀ i,i<n→f i≤g i)→isum n f=isum n g→∀ i,i<n→f i=g i
 | 0,_,_,i,hi => by omega
 | n+1,h,e,i,hi => by
  have h1:=isum_le (n:=n) (fun i hi=>h i (by omega))
  have h2:=h n (by omega)
  have e':isum n f+f n=isum n g+g n:=e
  by_cases hin:i=n
  ·subst hin;omega
  ·exact isum_le_eq (n:=n) (fun i hi=>h i (by omega)) (by omega) i (by omega)
theorem isum_set (g:Nat→Int) (a:Nat) (c:Int) {n:Nat} (h:a<n):isum n (fun i=>if i=a then g i+c else g i)=isum n g+c:=by
 have:isum n (fun i=>if i=a then g i+c else g i)=isum n (fun i=>g i+if i=a then c else 0):=isum_congr fun i _=>by split <;> omega
 rw [this,isum_add,isum_one c h]
structure Netw where
 n:Nat
 m:Nat
 src:Nat→Nat
 dst:Nat→Nat
 cap:Nat→Int
structure Netw.Ok (N:Netw):Prop where
 src:∀ i,i<N.m→N.src i<N.n
 dst:∀ i,i<N.m→N.dst i<N.n
 cap:∀ i,i<N.m→0≤N.cap i
def Netw.net (N:Netw) (f:Nat→Int) (v:Nat):Int:=isum N.m fun i=>(if N.src i=v then f i else 0) - (if N.dst i=v then f i else 0)
structure Netw.Flow (N:Netw) (s t:Nat) (f:Nat→Int) (val:Int):Prop where
 low:∀ i,i<N.m→0≤f i
 high:∀ i,i<N.m→f i≤N.cap i
 inner:∀ v,v<N.n→v≠s→v≠t→N.net f v=0
 val:N.net f s=val
def Netw.cut (N:Netw) (S:Nat→Bool):Int:=isum N.m fun i=>if S (N.src i)=true∧S (N.dst i)=false then N.cap i else 0
def Netw.across (N:Netw) (f:Nat→Int) (S:Nat→Bool):Int:=isum N.m fun i=>(if S (N.src i)=true∧S (N.dst i)=false then f i else 0) - (if S (N.src i)=false∧S (N.dst i)=true then f i else 0)
theorem pick_sum {n a:Nat} (h:a<n) (S:Nat→Bool) (c:Int):isum n (fun v=>if S v=true then (if a=v then c else 0) else 0)=if S a=true then c else 0:=by
 have:isum n (fun v=>if S v=true then (if a=v then c else 0) else 0)=isum n (fun v=>if v=a then (if S a=true then c else 0) else 0):=by
  refine isum_congr fun v _=>?_
  by_cases e:v=a
  ·subst e;simp
  ·have e':¬a=v:=fun h=>e h.symm
   simp [e,e']
 rw [this,isum_one _ h]
theorem Netw.net_sum {N:Netw} (h:N.Ok) (f:Nat→Int) (S:Nat→Bool):isum N.n (fun v=>if S v=true then N.net f v else 0)=N.across f S:=by
 have e1:isum N.n (fun v=>if S v=true then N.net f v else 0)=isum N.n (fun v=>isum N.m fun i=>(if S v=true then (if N.src i=v then f i else 0) else 0) - (if S v=true then (if N.dst i=v then f i else 0) else 0)):=by
  refine isum_congr fun v _=>?_
  by_cases e:S v=true
  ·simp only [if_pos e];rfl
  ·simp only [if_neg e]
   rw [isum_congr (g:=fun _=>0) (fun i _=>by omega),isum_zero]
 rw [e1,isum_swap]
 refine isum_congr fun i hi=>?_
 rw [isum_sub,pick_sum (h.src i hi),pick_sum (h.dst i hi)]
 cases h1:S (N.src i) <;> cases h2:S (N.dst i) <;> simp
theorem Netw.Flow.across {N:Netw} {s t:Nat} {f:Nat→Int} {val:Int} (h:N.Ok) (hf:N.Flow s t f val) (hs:s<N.n) (S:Nat→Bool) (h1:S s=true) (h2:S t=false):N.across f S=val:=by
 rw [←Netw.net_sum h f S]
 have:isum N.n (fun v=>if S v=true then N.net f v else 0)=isum N.n (fun v=>if v=s then val else 0):=by
  refine isum_congr fun v hv=>?_
  by_cases e:v=s
  ·subst e;rw [if_pos h1,if_pos rfl,hf.val]
  ·rw [if_neg e]
   by_cases e2:v=t
   ·subst e2;rw [h2];simp
   ·rw [hf.inner v hv e e2];split <;> rfl
 rw [this,isum_one _ hs]
theorem Netw.Flow.le {N:Netw} {s t:Nat} {f:Nat→Int} {val:Int} (h:N.Ok) (hf:N.Flow s t f val) (hs:s<N.n) (S:Nat→Bool) (h1:S s=true) (h2:S t=false):val≤N.cut S:=by
 rw [←hf.across h hs S h1 h2]
 refine isum_le fun i hi=>?_
 have a:=hf.low i hi
 have b:=hf.high i hi
 cases h1:S (N.src i) <;> cases h2:S (N.dst i) <;> simp <;> omega
inductive Netw.Reach (N:Netw) (s:Nat) (f:Nat→Int):Nat→Prop
 | start:N.Reach s f s
 | fwd {i:Nat}:i<N.m→f i<N.cap i→N.Reach s f (N.src i)→N.Reach s f (N.dst i)
 | back {i:Nat}:i<N.m→0<f i→N.Reach s f (N.dst i)→N.Reach s f (N.src i)
theorem Netw.Flow.tight {N:Netw} {s t:Nat} {f:Nat→Int} {val:Int} (h:N.Ok) (hf:N.Flow s t f val) (hs:s<N.n) (S:Nat→Bool) (hS:∀ v,S v=true↔N.Reach s f v) (ht:S t=false):N.cut S=val:=by
 rw [←hf.across h hs S ((hS s).2 .start) ht]
 refine isum_congr fun i hi=>?_
 have a:=hf.low i hi
 have b:=hf.high i hi
 cases h1:S (N.src i) <;> cases h2:S (N.dst i) <;> simp
 ·by_cases e:0<f i
  ·have:=(hS _).2 (.back hi e ((hS _).1 h2))
   rw [h1] at this;cases this
  ·omega
 ·by_cases e:f i<N.cap i
  ·have:=(hS _).2 (.fwd hi e ((hS _).1 h1))
   rw [h2] at this;cases this
  ·omega
theorem Netw.Flow.nearest {N:Netw} {s t:Nat} {f:Nat→Int} {val:Int} (h:N.Ok) (hf:N.Flow s t f val) (hs:s<N.n) (S:Nat→Bool) (h1:S s=true) (h2:S t=false) (he:N.cut S=val):∀ v,N.Reach s f v→S v=true:=by
 have hx:=hf.across h hs S h1 h2
 have heq:∀ i,i<N.m→((if S (N.src i)=true∧S (N.dst i)=false then f i else 0) - (if S (N.src i)=false∧S (N.dst i)=true then f i else 0))=(if S (N.src i)=true∧S (N.dst i)=false then N.cap i else 0):=by
  refine isum_le_eq (fun i hi=>?_) (hx.trans he.symm)
  have a:=hf.low i hi
  have b:=hf.high i hi
  cases h1:S (N.src i) <;> cases h2:S (N.dst i) <;> simp <;> omega
 intro v hv
 induction hv with
 | start => exact h1
 | @fwd i hi hlt _ ih =>
  have:=heq i hi
  cases hd:S (N.dst i) with
  | true => rfl
  | false => rw [ih,hd] at this;simp at this;omega
 | @back i hi hlt _ ih =>
  have:=heq i hi
  cases hd:S (N.src i) with
  | true => rfl
  | false => rw [ih,hd] at this;simp at this;omega
theorem lsnoc {α:Type} {C:List α→Prop} (h0:C []) (h1:∀ l x,C l→C (l++[x])) (l:List α):C l:=by
 rw [←List.reverse_reverse l]
 induction l.reverse with
 | nil => exact h0
 | cons x l ih => rw [List.reverse_cons];exact h1 _ _ ih
def lsum {α:Type} (g:α→Int):List α→Int
 | [] => 0
 | a :: l => g a+lsum g l
theorem lsum_append {α:Type} (g:α→Int):∀ l m:List α,lsum g (l++m)=lsum g l+lsum g m
 | [],m => by simp [lsum]
 | a :: l,m => by
  show g a+lsum g (l++m)=g a+lsum g l+lsum g m
  rw [lsum_append g l m];omega
theorem lsum_nonneg {α:Type} {g:α→Int}:∀ {l:List α},(∀ a∈l,0≤g a)→0≤lsum g l
 | [],_ => Int.le_refl _
 | a :: l,h => by
  have h1:=h a List.mem_cons_self
  have h2:=lsum_nonneg (l:=l) (fun b hb=>h b (List.mem_cons_of_mem _ hb))
  show 0≤g a+lsum g l
  omega
theorem lsum_ge {α:Type} {g:α→Int} {l:List α} (h:∀ a∈l,0≤g a) {b:α} (hb:b∈l):g b≤lsum g l:=by
 induction l with
 | nil => simp at hb
 | cons a l ih =>
  have h1:=h a List.mem_cons_self
  have h2:=lsum_nonneg (l:=l) (fun b hb=>h b (List.mem_cons_of_mem _ hb))
  show g b≤g a+lsum g l
  rcases List.mem_cons.1 hb with rfl | hb
  ·omega
  ·have:=ih (fun b hb=>h b (List.mem_cons_of_mem _ hb)) hb;omega
theorem lsum_zero {α:Type} {g:α→Int} {l:List α} (h:∀ a∈l,g a=0):lsum g l=0:=by
 induction l with
 | nil => rfl
 | cons a l ih =>
  show g a+lsum g l=0
  rw [h a List.mem_cons_self,ih fun b hb=>h b (List.mem_cons_of_mem _ hb)];rfl
abbrev Edg:=Nat × Nat × Int
def edgAt (L:List Edg) (i:Nat):Edg:=L.getD i (0,0,0)
theorem edgAt_eq {L:List Edg} {i:Nat} (h:i<L.length):edgAt L i=L[i]:=by unfold edgAt;rw [List.getD_eq_getElem?_getD,List.getElem?_eq_getElem h];rfl
theorem edgAt_left {L M:List Edg} {i:Nat} (h:i<L.length):edgAt (L++M) i=edgAt L i:=by
 unfold edgAt;rw [List.getD_eq_getElem?_getD,List.getD_eq_getElem?_getD,List.getElem?_append_left h]
theorem isum_list (g:Edg→Int) (L:List Edg):isum L.length (fun i=>g (edgAt L i))=lsum g L:=by
 refine lsnoc (C:=fun L=>isum L.length (fun i=>g (edgAt L i))=lsum g L) rfl (fun l x h=>?_) L
 rw [lsum_append,List.length_append]
 show isum l.length (fun i=>g (edgAt (l++[x]) i))+g (edgAt (l++[x]) l.length)=lsum g l+(g x+0)
 rw [isum_congr (g:=fun i=>g (edgAt l i)) (fun i hi=>by rw [edgAt_left hi]),h]
 have:edgAt (l++[x]) l.length=x:=by rw [edgAt_eq (by simp)];simp
 rw [this];omega
def Netw.ofList (n:Nat) (L:List Edg):Netw:=⟨n,L.length,fun i=>(edgAt L i).1,fun i=>(edgAt L i).2.1,fun i=>(edgAt L i).2.2⟩
theorem Netw.cut_list (n:Nat) (L:List Edg) (S:Nat→Bool):(Netw.ofList n L).cut S=lsum (fun e=>if S e.1=true∧S e.2.1=false then e.2.2 else 0) L:=
 isum_list (fun e=>if S e.1=true∧S e.2.1=false then e.2.2 else 0) L
def edgesW (n:Nat) (w:Nat→Int):Nat→List Edg
 | 0 => []
 | k+1 => edgesW n w k++(if 0<w k then [(n,k,w k)] else if w k<0 then [(k,n+1,- w k)] else [])
def wsum (w:Nat→Int) (S:Nat→Bool) (n:Nat):Int:=isum n fun i=>if S i=true then w i else 0
def wpos (w:Nat→Int) (n:Nat):Int:=isum n fun i=>if 0<w i then w i else 0
theorem cut_edgesW {n:Nat} {w:Nat→Int} {S:Nat→Bool} (h1:S n=true) (h2:S (n+1)=false):∀ k,lsum (fun e:Edg=>if S e.1=true∧S e.2.1=false then e.2.2 else 0) (edgesW n w k)=wpos w k - wsum w S k
 | 0 => rfl
 | k+1 => by
  unfold edgesW
  rw [lsum_append,cut_edgesW h1 h2 k]
  show _=(wpos w k+if 0<w k then w k else 0) - (wsum w S k+if S k=true then w k else 0)
  by_cases a:0<w k
  ·rw [if_pos a,if_pos a]
   cases hs:S k <;> simp [lsum,h1,hs] <;> omega
  ·rw [if_neg a,if_neg a]
   by_cases b:w k<0
   ·rw [if_pos b]
    cases hs:S k <;> simp [lsum,h2,hs] <;> omega
   ·have:w k=0:=by omega
    rw [if_neg b,this]
    simp [lsum]
theorem wsum_le_pos (w:Nat→Int) (S:Nat→Bool) (n:Nat):wsum w S n≤wpos w n:=
 isum_le fun i _=>by split <;> split <;> omega
def Closed (needs:List (Nat × Nat)) (S:Nat→Bool):Prop:=∀ x∈needs,S x.1=true→S x.2=true
def closureNet (n:Nat) (w:Nat→Int) (needs:List (Nat × Nat)):List Edg:=edgesW n w n++needs.map fun x=>(x.1,x.2,wpos w n+1)
theorem cut_closure {n : Nat} {w : Nat → Int} {needs : List (Nat × Nat)} {S : Nat → Bool} (h1 : S n = true) (h2 : S (n + 1) = false) :
    ∃ v,(Netw.ofList (n+2) (closureNet n w needs)).cut S=wpos w n - wsum w S n+v∧0≤v∧(Closed needs S→v=0)∧(¬Closed needs S→wpos w n+1≤v):=by
 have hp:0≤wpos w n:=by
  have:=wsum_le_pos w (fun _=>false) n
  have h0:wsum w (fun _=>false) n=0:=by
   unfold wsum
   rw [isum_congr (g:=fun _=>0) (fun i _=>by simp),isum_zero]
  omega
 refine ⟨lsum (fun e:Edg=>if S e.1=true∧S e.2.1=false then e.2.2 else 0) (needs.map fun x=>(x.1,x.2,wpos w n+1)),?_,?_,fun hc=>?_,fun hc=>?_⟩
 ·rw [Netw.cut_list,closureNet,lsum_append,cut_edgesW h1 h2]
 ·refine lsum_nonneg fun e he=>?_
  obtain ⟨x,_,rfl⟩:=List.mem_map.1 he
  split
  ·show 0≤wpos w n+1;omega
  ·exact Int.le_refl _
 ·refine lsum_zero fun e he=>?_
  obtain ⟨x,hx,rfl⟩:=List.mem_map.1 he
  rw [if_neg]
  rintro ⟨h3,h4⟩
  have h5:=hc x hx h3
  have h6:S x.2=false:=h4
  rw [h5] at h6;cases h6
 ·obtain ⟨x,hx⟩:=Classical.not_forall.1 hc
  obtain ⟨hx1,hx2⟩:=Classical.not_imp.1 hx
  obtain ⟨hx3,hx4⟩:=Classical.not_imp.1 hx2
  have hm:((x.1,x.2,wpos w n+1):Edg)∈needs.map fun x=>((x.1,x.2,wpos w n+1):Edg):=List.mem_map.2 ⟨x,hx1,rfl⟩
  have:=lsum_ge (g:=fun e:Edg=>if S e.1=true∧S e.2.1=false then e.2.2 else 0) (l:=needs.map fun x=>((x.1,x.2,wpos w n+1):Edg)) (fun e he=>by
   obtain ⟨y,_,rfl⟩:=List.mem_map.1 he
   dsimp only
   split
   ·omega
   ·exact Int.le_refl _) hm
  have h4:S x.2=false:=by cases h:S x.2 <;> simp_all
  simp only [hx3,h4,and_self,if_true] at this
  exact this
theorem closure_best {n : Nat} {w : Nat → Int} {needs : List (Nat × Nat)} (hn : ∀ x ∈ needs, x.1 < n ∧ x.2 < n) {f : Nat → Int} {val : Int} {R : Nat → Bool} (hok : (Netw.ofList (n + 2) (closureNet n w needs)).Ok)
    (hf:(Netw.ofList (n+2) (closureNet n w needs)).Flow n (n+1) f val) (hR:∀ v,R v=true↔(Netw.ofList (n+2) (closureNet n w needs)).Reach n f v) (ht:R (n+1)=false) :
    Closed needs R∧val=wpos w n - wsum w R n∧∀ Y:Nat→Bool,Closed needs Y→wsum w Y n≤wsum w R n∧(wsum w Y n=wsum w R n→∀ i,i<n→R i=true→Y i=true):=by
 have hs:n<(Netw.ofList (n+2) (closureNet n w needs)).n:=by show n<n+2;omega
 have hRs:R n=true:=(hR n).2 .start
 have htight:=hf.tight hok hs R hR ht
 obtain ⟨v,hv,hv0,hvc,hvn⟩:=cut_closure (w:=w) (needs:=needs) hRs ht
 -- the cut of a closed set
 have ext:∀ Y:Nat→Bool,∃ Z:Nat→Bool,Z n=true∧Z (n+1)=false∧(∀ i,i<n→Z i=Y i):=fun Y=>
  ⟨fun i=>if i<n then Y i else i == n,by simp,by show (if n+1<n then Y (n+1) else (n+1 == n))=false;rw [if_neg (by omega)];simp,fun i hi=>by simp [hi]⟩
 have cl:∀ Y:Nat→Bool,Closed needs Y→∃ Z:Nat→Bool,Z n=true∧Z (n+1)=false∧(∀ i,i<n→Z i=Y i)∧(Netw.ofList (n+2) (closureNet n w needs)).cut Z=wpos w n - wsum w Y n:=fun Y hY=>by
  obtain ⟨Z,z1,z2,z3⟩:=ext Y
  obtain ⟨u,hu,_,huc,_⟩:=cut_closure (w:=w) (needs:=needs) z1 z2
  have hZ:Closed needs Z:=fun x hx h=>by
   obtain ⟨h1,h2⟩:=hn x hx
   rw [z3 _ h2];rw [z3 _ h1] at h;exact hY x hx h
  have he:wsum w Z n=wsum w Y n:=isum_congr fun i hi=>by rw [z3 i hi]
  exact ⟨Z,z1,z2,z3,by rw [hu,huc hZ,he];omega⟩
 have hclosed:Closed needs R:=by
  apply Classical.byContradiction
  intro hc
  have h1:=hvn hc
  obtain ⟨Z,z1,z2,_,z4⟩:=cl (fun _=>false) (fun x _ h=>by cases h)
  have h2:=hf.le hok hs Z z1 z2
  have h3:=wsum_le_pos w R n
  have h0:wsum w (fun _=>false) n=0:=by
   unfold wsum
   rw [isum_congr (g:=fun _=>0) (fun i _=>by simp),isum_zero]
  omega
 have hval:val=wpos w n - wsum w R n:=by rw [←htight,hv,hvc hclosed];omega
 refine ⟨hclosed,hval,fun Y hY=>?_⟩
 obtain ⟨Z,z1,z2,z3,z4⟩:=cl Y hY
 have h2:=hf.le hok hs Z z1 z2
 refine ⟨by omega,fun he i hi hr=>?_⟩
 rw [←z3 i hi]
 exact hf.nearest hok hs Z z1 z2 (by rw [z4,hval,he]) i ((hR i).1 hr)
end Go.Proofs.YtnknkkmdbnaglaaGreat

namespace Go.Proofs.YtnknkkmdbnaglaaGreat
open Go.RowKit
/-! the residual network: arc 2i is edge i,arc 2i+1 is the way back -/
def arcP (k:Nat):Nat:=if k % 2=0 then k+1 else k - 1
theorem arcP_ne (k:Nat):arcP k≠k:=by unfold arcP;split <;> omega
theorem arcP_lt {k m:Nat} (h:k<2*m):arcP k<2*m:=by unfold arcP;split <;> omega
def Netw.to (N:Netw) (k:Nat):Nat:=if k % 2=0 then N.dst (k / 2) else N.src (k / 2)
def Netw.fr (N:Netw) (k:Nat):Nat:=N.to (arcP k)
theorem Netw.fr_even (N:Netw) (i:Nat):N.fr (2*i)=N.src i:=by
 have h:arcP (2*i)=2*i+1:=if_pos (by omega)
 unfold Netw.fr Netw.to
 rw [h,if_neg (by omega),show (2*i+1) / 2=i by omega]
theorem Netw.to_even (N:Netw) (i:Nat):N.to (2*i)=N.dst i:=by
 unfold Netw.to
 rw [if_pos (by omega),show 2*i / 2=i by omega]
theorem Netw.fr_odd (N:Netw) (i:Nat):N.fr (2*i+1)=N.dst i:=by
 have h:arcP (2*i+1)=2*i:=by unfold arcP;rw [if_neg (by omega)];omega
 unfold Netw.fr Netw.to
 rw [h,if_pos (by omega),show 2*i / 2=i by omega]
theorem Netw.to_odd (N:Netw) (i:Nat):N.to (2*i+1)=N.src i:=by
 unfold Netw.to
 rw [if_neg (by omega),show (2*i+1) / 2=i by omega]
theorem even_odd (k:Nat):(∃ i,k=2*i)∨∃ i,k=2*i+1:=by
 by_cases h:k % 2=0
 ·exact .inl ⟨k / 2,by omega⟩
 ·exact .inr ⟨k / 2,by omega⟩
theorem Netw.Ok.to {N:Netw} (h:N.Ok) {k:Nat} (hk:k<2*N.m):N.to k<N.n:=by
 rcases even_odd k with ⟨i,rfl⟩ | ⟨i,rfl⟩
 ·rw [N.to_even];exact h.dst i (by omega)
 ·rw [N.to_odd];exact h.src i (by omega)
def flowOf (l:Nat→Int) (i:Nat):Int:=l (2*i+1)
structure Netw.Res (N:Netw) (l:Nat→Int):Prop where
 pos:∀ k,k<2*N.m→0≤l k
 sum:∀ i,i<N.m→l (2*i)+l (2*i+1)=N.cap i
def sndA (l:Nat→Int) (k:Nat) (d:Int):Nat→Int:=fun j=>if j=k then l j - d else if j=arcP k then l j+d else l j
theorem Netw.net_upd (N : Netw) (l : Nat → Int) {k : Nat} (hk : k < 2 * N.m) (d : Int) (v : Nat) :
    N.net (flowOf (sndA l k d)) v=N.net (flowOf l) v+(if N.fr k=v then d else 0) - (if N.to k=v then d else 0):=by
 rcases even_odd k with ⟨i,rfl⟩ | ⟨i,rfl⟩
 ·rw [N.fr_even,N.to_even]
  have e:∀ j,flowOf (sndA l (2*i) d) j=flowOf l j+if j=i then d else 0:=by
   intro j
   unfold flowOf sndA arcP
   rw [if_neg (by omega),if_pos (show 2*i % 2=0 by omega)]
   by_cases h:j=i
   ·subst h;simp
   ·rw [if_neg (by omega),if_neg h];omega
  unfold Netw.net
  have : isum N.m (fun j => (if N.src j = v then flowOf (sndA l (2 * i) d) j else 0) - if N.dst j = v then flowOf (sndA l (2 * i) d) j else 0)
      = isum N.m (fun j=>((if N.src j=v then flowOf l j else 0) - if N.dst j=v then flowOf l j else 0)+if j=i then (if N.src i=v then d else 0) - (if N.dst i=v then d else 0) else 0):=by
   refine isum_congr fun j _=>?_
   rw [e j]
   by_cases h:j=i
   ·subst h;rw [if_pos rfl,if_pos rfl];split <;> split <;> omega
   ·rw [if_neg h,if_neg h];split <;> split <;> omega
  rw [this,isum_add,isum_one _ (show i<N.m by omega)];omega
 ·rw [N.fr_odd,N.to_odd]
  have e:∀ j,flowOf (sndA l (2*i+1) d) j=flowOf l j - if j=i then d else 0:=by
   intro j
   unfold flowOf sndA arcP
   by_cases h:j=i
   ·subst h;simp
   ·rw [if_neg (by omega),if_neg h,if_neg (show ¬(2*i+1) % 2=0 by omega),if_neg (by omega)];omega
  unfold Netw.net
  have : isum N.m (fun j => (if N.src j = v then flowOf (sndA l (2 * i + 1) d) j else 0) - if N.dst j = v then flowOf (sndA l (2 * i + 1) d) j else 0)
      = isum N.m (fun j=>((if N.src j=v then flowOf l j else 0) - if N.dst j=v then flowOf l j else 0)+if j=i then (if N.dst i=v then d else 0) - (if N.src i=v then d else 0) else 0):=by
   refine isum_congr fun j _=>?_
   rw [e j]
   by_cases h:j=i
   ·subst h;rw [if_pos rfl,if_pos rfl];split <;> split <;> omega
   ·rw [if_neg h,if_neg h];split <;> split <;> omega
  rw [this,isum_add,isum_one _ (show i<N.m by omega)];omega
theorem Netw.Res.sndA {N:Netw} {l:Nat→Int} (h:N.Res l) {k:Nat} (hk:k<2*N.m) {d:Int} (h0:0≤d) (hd:d≤l k):N.Res (sndA l k d):=by
 refine ⟨fun j hj=>?_,fun i hi=>?_⟩
 ·have h1:=h.pos j hj
  unfold Go.Proofs.YtnknkkmdbnaglaaGreat.sndA
  by_cases e:j=k
  ·subst e;rw [if_pos rfl];omega
  ·rw [if_neg e];split <;> omega
 ·have h1:=h.sum i hi
  unfold Go.Proofs.YtnknkkmdbnaglaaGreat.sndA arcP
  by_cases a:2*i=k
  ·subst a
   rw [if_pos rfl,if_neg (by omega),if_pos (by rw [if_pos (by omega)])];omega
  ·by_cases b:2*i+1=k
   ·subst b
    rw [if_neg (by omega),if_pos (by rw [if_neg (by omega)];omega),if_pos rfl];omega
   ·rw [if_neg a,if_neg b]
    by_cases c:k % 2=0
    ·rw [if_pos c,if_neg (by omega),if_neg (by omega)];exact h1
    ·rw [if_neg c,if_neg (by omega),if_neg (by omega)];exact h1
structure Netw.ResF (N:Netw) (s t:Nat) (l:Nat→Int) (val:Int):Prop where
 res:N.Res l
 inner:∀ v,v<N.n→v≠s→v≠t→N.net (flowOf l) v=0
 val:N.net (flowOf l) s=val
theorem Netw.ResF.flow {N:Netw} {s t:Nat} {l:Nat→Int} {val:Int} (h:N.ResF s t l val):N.Flow s t (flowOf l) val:=
 ⟨fun i hi=>h.res.pos _ (by omega),fun i hi=>by have h1:=h.res.sum i hi;have h2:=h.res.pos (2*i) (by omega);show l (2*i+1)≤_;omega,h.inner,h.val⟩
theorem Netw.Reach.arc {N:Netw} {s:Nat} {l:Nat→Int} (h:N.Res l) {k:Nat} (hk:k<2*N.m) (hl:0<l k) (hr:N.Reach s (flowOf l) (N.fr k)):N.Reach s (flowOf l) (N.to k):=by
 rcases even_odd k with ⟨i,rfl⟩ | ⟨i,rfl⟩
 ·rw [N.fr_even] at hr;rw [N.to_even]
  have h1:=h.sum i (by omega)
  exact .fwd (by omega) (by show l (2*i+1)<_;omega) hr
 ·rw [N.fr_odd] at hr;rw [N.to_odd]
  exact .back (by omega) hl hr
theorem Netw.Reach.within {N:Netw} {s:Nat} {l:Nat→Int} (h:N.Res l) {P:Nat→Prop} (h0:P s) (hP:∀ k,k<2*N.m→0<l k→P (N.fr k)→P (N.to k)):∀ v,N.Reach s (flowOf l) v→P v:=by
 intro v hv
 induction hv with
 | start => exact h0
 | @fwd i hi hlt _ ih =>
  have h1:=h.sum i hi
  have:=hP (2*i) (by omega) (by have:flowOf l i=l (2*i+1):=rfl;omega)
  rw [N.fr_even,N.to_even] at this;exact this ih
 | @back i hi hlt _ ih =>
  have:=hP (2*i+1) (by omega) hlt
  rw [N.fr_odd,N.to_odd] at this;exact this ih
structure Netw.Tree (N:Netw) (s:Nat) (l:Nat→Int) (by_:Nat→Int) (rk:Nat→Nat):Prop where
 root:by_ s=-2
 only:∀ v,v<N.n→by_ v=-2→v=s
 arc:∀ v,v<N.n→v≠s→by_ v≠-1→∃ k:Nat,by_ v=k∧k<2*N.m∧N.to k=v∧0<l k∧N.fr k<N.n∧by_ (N.fr k)≠-1∧rk (N.fr k)<rk v
structure Netw.Push (N:Netw) (s t:Nat) (l0:Nat→Int) (by_:Nat→Int) (rk:Nat→Nat) (d:Int) (x:Nat) (l:Nat→Int):Prop where
 res:N.Res l
 net:∀ v,N.net (flowOf l) v=N.net (flowOf l0) v+(if x=v then d else 0) - (if t=v then d else 0)
 more:∀ v k,v<N.n→rk v≤rk x→by_ v=(k:Nat)→l0 k≤l k
theorem Netw.Push.step {N : Netw} {s t : Nat} {l0 : Nat → Int} {by_ : Nat → Int} {rk : Nat → Nat} {d : Int} {x k : Nat} {l : Nat → Int} (hT : N.Tree s l0 by_ rk) (h : N.Push s t l0 by_ rk d x l) (hx : x < N.n) (hk : by_ x = (k : Nat)) (h0 : 0 ≤ d) (hd : d ≤ l0 k) (hkm : k < 2 * N.m) (hto : N.to k = x) (hrk : rk (N.fr k) < rk x) :
    N.Push s t l0 by_ rk d (N.fr k) (sndA l k d):=by
 have hl:=h.more x k hx (Nat.le_refl _) hk
 refine ⟨h.res.sndA hkm h0 (by omega),fun v=>?_,fun v j hv hr hj=>?_⟩
 ·rw [N.net_upd l hkm,h.net v,hto];omega
 ·have h1:=h.more v j hv (by omega) hj
  unfold Go.Proofs.YtnknkkmdbnaglaaGreat.sndA
  by_cases e:j=k
  ·-- then v=x
   subst e
   exfalso
   by_cases hvs:v=s
   ·subst hvs;rw [hT.root] at hj;omega
   ·by_cases hv1:by_ v=-1
    ·rw [hv1] at hj;omega
    ·obtain ⟨j',e1,_,e3,_⟩:=hT.arc v hv hvs hv1
     have:j'=j:=by omega
     subst this
     rw [hto] at e3
     subst e3
     omega
  ·rw [if_neg e];split <;> omega
theorem Netw.Push.done {N:Netw} {s t:Nat} {l0:Nat→Int} {by_:Nat→Int} {rk:Nat→Nat} {d val:Int} {l:Nat→Int} (hF:N.ResF s t l0 val) (hst:s≠t) (h:N.Push s t l0 by_ rk d s l):N.ResF s t l (val+d):=
 ⟨h.res,fun v hv h1 h2=>by rw [h.net v,hF.inner v hv h1 h2,if_neg (fun e=>h1 e.symm),if_neg (fun e=>h2 e.symm)];rfl,by rw [h.net s,hF.val,if_pos rfl,if_neg (fun e=>hst e.symm)];omega⟩
def left0 (N:Netw) (k:Nat):Int:=if k % 2=0 then N.cap (k / 2) else 0
theorem Netw.ResF.zero {N:Netw} (h:N.Ok) (s t:Nat):N.ResF s t (left0 N) 0:=by
 have hf:∀ i,flowOf (left0 N) i=0:=fun i=>by unfold flowOf left0;rw [if_neg (by omega)]
 have hn:∀ v,N.net (flowOf (left0 N)) v=0:=fun v=>by
  unfold Netw.net
  rw [isum_congr (g:=fun _=>0) (fun i _=>by rw [hf];simp),isum_zero]
 refine ⟨⟨fun k hk=>?_,fun i hi=>?_⟩,fun v _ _ _=>hn v,hn s⟩
 ·unfold left0;split
  ·exact h.cap _ (by omega)
  ·exact Int.le_refl _
 ·unfold left0
  rw [if_pos (by omega),if_neg (by omega),show 2*i / 2=i by omega];omega
end Go.Proofs.YtnknkkmdbnaglaaGreat

namespace Go.Proofs.YtnknkkmdbnaglaaGreat
open Go.RowKit
structure Netw.Bfs (N:Netw) (s:Nat) (l:Nat→Int) (by_:Nat→Int) (q:List Nat) (rk:Nat→Nat):Prop where
 lt:∀ v,v∈q→v<N.n
 nd:q.Nodup
 rank:∀ i v,q[i]?=some v→rk v=i
 first:s∈q
 root:by_ s=-2
 out:∀ v,v<N.n→v∉q→by_ v=-1
 arc:∀ v,v∈q→v≠s→∃ k:Nat,by_ v=k∧k<2*N.m∧N.to k=v∧0<l k∧N.fr k∈q∧rk (N.fr k)<rk v
theorem Netw.Bfs.len {N:Netw} {s:Nat} {l:Nat→Int} {by_:Nat→Int} {q:List Nat} {rk:Nat→Nat} (h:N.Bfs s l by_ q rk):q.length≤N.n:=by
 have:=nodup_le q (List.range N.n) h.nd fun y hy=>List.mem_range.2 (h.lt y hy)
 simpa using this
theorem Netw.Bfs.mem {N:Netw} {s:Nat} {l:Nat→Int} {by_:Nat→Int} {q:List Nat} {rk:Nat→Nat} (h:N.Bfs s l by_ q rk) {v:Nat} (hv:v<N.n):v∈q↔by_ v≠-1:=by
 constructor
 ·intro hq e
  by_cases hs:v=s
  ·subst hs;rw [h.root] at e;cases e
  ·obtain ⟨k,e2,_⟩:=h.arc v hq hs
   rw [e2] at e;omega
 ·intro hn
  exact Classical.byContradiction fun hq=>hn (h.out v hv hq)
theorem Netw.Bfs.rk_lt {N:Netw} {s:Nat} {l:Nat→Int} {by_:Nat→Int} {q:List Nat} {rk:Nat→Nat} (h:N.Bfs s l by_ q rk) {v:Nat} (hv:v∈q):rk v<q.length:=by
 obtain ⟨i,hi,e⟩:=List.getElem_of_mem hv
 have:=h.rank i v (by rw [List.getElem?_eq_getElem hi,e])
 omega
theorem Netw.Bfs.start {N:Netw} {s:Nat} (l:Nat→Int) (hs:s<N.n):N.Bfs s l (fun v=>if v=s then -2 else -1) [s] (fun _=>0):=by
 refine ⟨fun v hv=>?_,by simp,fun i v e=>?_,by simp,if_pos rfl,fun v _ hv=>if_neg fun e=>hv (by simp [e]),fun v hv hn=>?_⟩
 ·simp at hv;omega
 ·cases i with
  | zero => rfl
  | succ i => simp at e
 ·simp at hv;exact absurd hv hn
theorem Netw.Bfs.step {N : Netw} {s : Nat} {l : Nat → Int} {by_ : Nat → Int} {q : List Nat} {rk : Nat → Nat} (h : N.Bfs s l by_ q rk) {k : Nat} (hk : k < 2 * N.m) (hl : 0 < l k) (hf : N.fr k ∈ q) (hv : N.to k < N.n) (hn : by_ (N.to k) = -1) :
    N.Bfs s l (fun v=>if v=N.to k then (k:Int) else by_ v) (q++[N.to k]) (fun v=>if v=N.to k then q.length else rk v):=by
 have hq:N.to k∉q:=fun hq=>(h.mem hv).1 hq hn
 have hne:∀ v,v∈q→v≠N.to k:=fun v hv e=>hq (e▸hv)
 refine ⟨fun v hm=>?_,?_,fun i v e=>?_,List.mem_append.2 (.inl h.first),?_,fun v hv' hm=>?_,fun v hm hs=>?_⟩
 ·rcases List.mem_append.1 hm with hm | hm
  ·exact h.lt v hm
  ·simp at hm;subst hm;exact hv
 ·rw [List.nodup_append]
  refine ⟨h.nd,by simp,fun a ha b hb=>?_⟩
  simp at hb;subst hb;exact hne a ha
 ·rcases Nat.lt_trichotomy i q.length with hi | hi | hi
  ·rw [List.getElem?_append_left hi] at e
   have hvq:v∈q:=List.mem_of_getElem? e
   rw [if_neg (hne v hvq)];exact h.rank i v e
  ·subst hi
   rw [List.getElem?_append_right (Nat.le_refl _)] at e
   simp at e;subst e
   exact if_pos rfl
  ·rw [List.getElem?_eq_none (by simp;omega)] at e;cases e
 ·skip
  rw [if_neg (hne s h.first)];exact h.root
 ·skip
  have h1:v∉q:=fun h'=>hm (List.mem_append.2 (.inl h'))
  have h2:v≠N.to k:=fun h'=>hm (List.mem_append.2 (.inr (by simp [h'])))
  rw [if_neg h2];exact h.out v hv' h1
 ·skip
  rcases List.mem_append.1 hm with hm | hm
  ·obtain ⟨j,e1,e2,e3,e4,e5,e6⟩:=h.arc v hm hs
   refine ⟨j,by rw [if_neg (hne v hm)];exact e1,e2,e3,e4,List.mem_append.2 (.inl e5),?_⟩
   rw [if_neg (hne v hm),if_neg (hne _ e5)];exact e6
  ·simp at hm;subst hm
   refine ⟨k,if_pos rfl,hk,rfl,hl,List.mem_append.2 (.inl hf),?_⟩
   rw [if_pos rfl,if_neg (hne _ hf)];exact h.rk_lt hf
theorem Netw.Bfs.tree {N:Netw} {s:Nat} {l:Nat→Int} {by_:Nat→Int} {q:List Nat} {rk:Nat→Nat} (h:N.Bfs s l by_ q rk):N.Tree s l by_ rk:=by
 refine ⟨h.root,fun v hv e=>?_,fun v hv hs hn=>?_⟩
 ·refine Classical.byContradiction fun hs=>?_
  have hq:v∈q:=(h.mem hv).2 (by rw [e];decide)
  obtain ⟨k,e2,_⟩:=h.arc v hq hs
  rw [e2] at e;omega
 ·have hq:=(h.mem hv).2 hn
  obtain ⟨k,e1,e2,e3,e4,e5,e6⟩:=h.arc v hq hs
  exact ⟨k,e1,e2,e3,e4,h.lt _ e5,(h.mem (h.lt _ e5)).1 e5,e6⟩
theorem Netw.Bfs.reach {N:Netw} {s:Nat} {l:Nat→Int} {by_:Nat→Int} {q:List Nat} {rk:Nat→Nat} (h:N.Bfs s l by_ q rk) (hR:N.Res l):∀ n v,rk v≤n→v∈q→N.Reach s (flowOf l) v:=by
 intro n
 induction n with
 | zero =>
  intro v hv hq
  by_cases hs:v=s
  ·subst hs;exact .start
  ·obtain ⟨k,_,_,_,_,_,e6⟩:=h.arc v hq hs;omega
 | succ n ih =>
  intro v hv hq
  by_cases hs:v=s
  ·subst hs;exact .start
  ·obtain ⟨k,_,e2,e3,e4,e5,e6⟩:=h.arc v hq hs
   have:=Netw.Reach.arc hR e2 e4 (ih (N.fr k) (by omega) e5)
   rw [e3] at this;exact this
structure Netw.Gone (N:Netw) (l:Nat→Int) (rows:Nat→List Int) (q:List Nat) (at_ r:Nat):Prop where
 old:∀ j v,j<at_→q[j]?=some v→∀ i (hi:i<(rows v).length),0<l ((rows v)[i]).toNat→N.to ((rows v)[i]).toNat∈q
 now:∀ v,q[at_]?=some v→∀ i (hi:i<(rows v).length),i<r→0<l ((rows v)[i]).toNat→N.to ((rows v)[i]).toNat∈q
theorem Netw.Gone.grow {N:Netw} {l:Nat→Int} {rows:Nat→List Int} {q:List Nat} {at_ r:Nat} (h:N.Gone l rows q at_ r) (ha:at_<q.length) (x:Nat):N.Gone l rows (q++[x]) at_ r:=
 ⟨fun j v hj e i hi hl=>List.mem_append.2 (.inl (h.old j v hj (by rw [List.getElem?_append_left (by omega)] at e;exact e) i hi hl)),
  fun v e i hi hr hl=>List.mem_append.2 (.inl (h.now v (by rw [List.getElem?_append_left ha] at e;exact e) i hi hr hl))⟩
theorem Netw.Gone.step {N:Netw} {l:Nat→Int} {rows:Nat→List Int} {q:List Nat} {at_ r v:Nat} (h:N.Gone l rows q at_ r) (hv:q[at_]?=some v) (hx:∀ hi:r<(rows v).length,0<l ((rows v)[r]).toNat→N.to ((rows v)[r]).toNat∈q):N.Gone l rows q at_ (r+1):=by
 refine ⟨h.old,fun u hu i hi hr hl=>?_⟩
 by_cases e:i=r
 ·subst e
  rw [hv] at hu;cases hu
  exact hx hi hl
 ·exact h.now u hu i hi (by omega) hl
theorem Netw.Gone.next {N:Netw} {l:Nat→Int} {rows:Nat→List Int} {q:List Nat} {at_ v:Nat} (h:N.Gone l rows q at_ (rows v).length) (hv:q[at_]?=some v):N.Gone l rows q (at_+1) 0:=by
 refine ⟨fun j u hj hu i hi hl=>?_,fun u _ i _ hr _=>by omega⟩
 by_cases e:j=at_
 ·subst e
  rw [hv] at hu;cases hu
  exact h.now _ hv i hi hi hl
 ·exact h.old j u (by omega) hu i hi hl
theorem Netw.Gone.start (N:Netw) (l:Nat→Int) (rows:Nat→List Int) (q:List Nat):N.Gone l rows q 0 0:=
 ⟨fun j _ hj=>by omega,fun _ _ i _ hr _=>by omega⟩
structure Netw.Rows (N:Netw) (rows:Nat→List Int):Prop where
 arc:∀ v i (hi:i<(rows v).length),∃ k:Nat,(rows v)[i]=k∧k<2*N.m∧N.fr k=v
 all:∀ k,k<2*N.m→(k:Int)∈rows (N.fr k)
theorem Netw.Bfs.all {N:Netw} {s:Nat} {l:Nat→Int} {by_:Nat→Int} {q:List Nat} {rk:Nat→Nat} {rows:Nat→List Int} (h:N.Bfs s l by_ q rk) (hR:N.Res l) (hW:N.Rows rows) (hG:N.Gone l rows q q.length 0) (v:Nat):v∈q↔N.Reach s (flowOf l) v:=by
 constructor
 ·exact fun hq=>h.reach hR (rk v) v (Nat.le_refl _) hq
 ·refine Netw.Reach.within hR (P:=fun v=>v∈q) h.first (fun k hk hl hf=>?_) v
  obtain ⟨j,hj,e⟩:=List.getElem_of_mem hf
  obtain ⟨i,hi,e2⟩:=List.getElem_of_mem (hW.all k hk)
  have h1:=hG.old j (N.fr k) hj (by rw [List.getElem?_eq_getElem hj,e]) i hi
  rw [e2] at h1
  exact h1 hl
def Netw.pt (N:Netw) (by_:Nat→Int) (t:Nat):Nat→Nat
 | 0 => t
 | i+1 => N.fr (by_ (N.pt by_ t i)).toNat
def Netw.Steps (N:Netw) (by_:Nat→Int) (t i:Nat):Prop:=∀ j,j<i→0≤by_ (N.pt by_ t j)
theorem Netw.Steps.succ {N:Netw} {by_:Nat→Int} {t i:Nat} (h:N.Steps by_ t i) (hi:0≤by_ (N.pt by_ t i)):N.Steps by_ t (i+1):=by
 intro j hj
 by_cases e:j=i
 ·subst e;exact hi
 ·exact h j (by omega)
theorem Netw.Tree.pt_ok {N:Netw} {s t:Nat} {l:Nat→Int} {by_:Nat→Int} {rk:Nat→Nat} (h:N.Tree s l by_ rk) (ht:t<N.n) (hb:by_ t≠-1):∀ i,N.Steps by_ t i→N.pt by_ t i<N.n∧by_ (N.pt by_ t i)≠-1∧rk (N.pt by_ t i)+i≤rk t
 | 0,_ => ⟨ht,hb,Nat.le_refl _⟩
 | i+1,hs => by
  obtain ⟨h1,h2,h3⟩:=h.pt_ok ht hb i fun j hj=>hs j (by omega)
  have h4:=hs i (by omega)
  have hne:N.pt by_ t i≠s:=fun e=>by rw [e,h.root] at h4;omega
  obtain ⟨k,e1,e2,e3,e4,e5,e6,e7⟩:=h.arc _ h1 hne h2
  have e:N.pt by_ t (i+1)=N.fr k:=by show N.fr (by_ (N.pt by_ t i)).toNat=_;rw [e1];rfl
  rw [e]
  exact ⟨e5,e6,by omega⟩
theorem Netw.Tree.pt_arc {N : Netw} {s t : Nat} {l : Nat → Int} {by_ : Nat → Int} {rk : Nat → Nat} (h : N.Tree s l by_ rk) (ht : t < N.n) (hb : by_ t ≠ -1) {i : Nat} (hs : N.Steps by_ t i) (h0 : 0 ≤ by_ (N.pt by_ t i)) :
    ∃ k:Nat,by_ (N.pt by_ t i)=k∧k<2*N.m∧N.to k=N.pt by_ t i∧0<l k∧N.fr k<N.n∧N.pt by_ t (i+1)=N.fr k∧rk (N.fr k)<rk (N.pt by_ t i):=by
 obtain ⟨h1,h2,_⟩:=h.pt_ok ht hb i hs
 have hne:N.pt by_ t i≠s:=fun e=>by rw [e,h.root] at h0;omega
 obtain ⟨k,e1,e2,e3,e4,e5,e6,e7⟩:=h.arc _ h1 hne h2
 exact ⟨k,e1,e2,e3,e4,e5,by show N.fr (by_ (N.pt by_ t i)).toNat=_;rw [e1];rfl,e7⟩
theorem Netw.Tree.pt_end {N:Netw} {s t:Nat} {l:Nat→Int} {by_:Nat→Int} {rk:Nat→Nat} (h:N.Tree s l by_ rk) (ht:t<N.n) (hb:by_ t≠-1) {i:Nat} (hs:N.Steps by_ t i) (h0:by_ (N.pt by_ t i)<0):N.pt by_ t i=s:=by
 obtain ⟨h1,h2,_⟩:=h.pt_ok ht hb i hs
 refine Classical.byContradiction fun hne=>?_
 obtain ⟨k,e1,_⟩:=h.arc _ h1 hne h2
 omega
theorem Netw.Push.start {N:Netw} {s t:Nat} {l:Nat→Int} (h:N.Res l) (by_:Nat→Int) (rk:Nat→Nat) (d:Int):N.Push s t l by_ rk d t l:=
 ⟨h,fun v=>by omega,fun _ _ _ _ _=>Int.le_refl _⟩
theorem Netw.ResF.le {N:Netw} {s t:Nat} {l:Nat→Int} {val:Int} (h:N.Ok) (hF:N.ResF s t l val) (hs:s<N.n) (hst:s≠t):val≤N.cut (fun v=>decide (v=s)):=
 hF.flow.le h hs _ (by simp) (by simp;omega)
theorem Netw.cut_le {N:Netw} (h:N.Ok) (S:Nat→Bool) {c:Int} (hc:∀ i,i<N.m→N.cap i≤c):N.cut S≤N.m*c:=by
 have h1:N.cut S≤isum N.m fun _=>c:=isum_le fun i hi=>by
  have h2:=h.cap i hi
  have h3:=hc i hi
  split <;> omega
 have h4:∀ m:Nat,isum m (fun _=>c)=m*c:=by
  intro m
  induction m with
  | zero => simp [isum]
  | succ m ih => show isum m (fun _ => c)+c=_;rw [ih];rw [Int.natCast_add,Int.add_mul];simp
 rw [h4] at h1;exact h1
end Go.Proofs.YtnknkkmdbnaglaaGreat

namespace Go.Proofs.YtnknkkmdbnaglaaGreat
open Go.RowKit
/-! sums of variables -/
theorem isum_tel (f:Nat→Int):∀ k,isum k (fun i=>f (i+1) - f i)=f k - f 0
 | 0 => by show (0:Int)=_;omega
 | k+1 => by
  show isum k (fun i=>f (i+1) - f i)+(f (k+1) - f k)=_
  rw [isum_tel f k];omega
theorem isum_mul (c:Int) (f:Nat→Int):∀ k,isum k (fun i=>c*f i)=c*isum k f
 | 0 => by show (0:Int)=c*0;simp
 | k+1 => by
  show isum k (fun i=>c*f i)+c*f k=c*(isum k f+f k)
  rw [isum_mul c f k,Int.mul_add]
theorem isum_split (g:Nat→Int) (a:Nat):∀ b,isum (a+b) g=isum a g+isum b (fun i=>g (a+i))
 | 0 => by show isum a g=isum a g+0;omega
 | b+1 => by
  show isum (a+b) g+g (a+b)=isum a g+(isum b (fun i=>g (a+i))+g (a+b))
  rw [isum_split g a b];omega
theorem isum_cut (g:Nat→Int) {c:Nat}:∀ {m:Nat},c≤m→isum m (fun i=>if i<c then g i else 0)=isum c g
 | 0, h => by obtain rfl : c = 0 := by omega
              rfl
 | m+1,h => by
  show isum m (fun i=>if i<c then g i else 0)+(if m<c then g m else 0)=isum c g
  by_cases e:c=m+1
  ·subst e
   rw [if_pos (by omega)]
   show _=isum m g+g m
   rw [isum_congr (g:=g) (fun i hi=>if_pos (by omega))]
  ·rw [if_neg (by omega),isum_cut g (m:=m) (by omega)];omega
def wgt (st:Nat→Nat→Nat→Int) (ts:List Edg) (p i:Nat):Int:=lsum (fun x:Edg=>if x.1=p then x.2.2*(st p x.2.1 (i+1) - st p x.2.1 i) else 0) ts
def valC (st:Nat→Nat→Nat→Int) (ts:List Edg) (c:Nat→Nat):Int:=lsum (fun x:Edg=>x.2.2*st x.1 x.2.1 (c x.1)) ts
theorem valC_weights (st:Nat→Nat→Nat→Int) (c:Nat→Nat) (n:Nat):∀ ts:List Edg,(∀ x∈ts,x.1<n)→valC st ts c=valC st ts (fun _=>0)+isum n (fun p=>isum (c p) (fun i=>wgt st ts p i))
 | [],_ => by
  have:isum n (fun p=>isum (c p) (fun i=>wgt st [] p i))=0:=
   (isum_congr (g:=fun _=>0) (fun p _=>(isum_congr (g:=fun _=>0) (fun i _=>rfl)).trans (isum_zero _))).trans (isum_zero _)
  rw [this];rfl
 | x :: ts,h => by
  have ih:=valC_weights st c n ts fun y hy=>h y (List.mem_cons_of_mem _ hy)
  have e:isum n (fun p=>isum (c p) (fun i=>wgt st (x :: ts) p i))=x.2.2*(st x.1 x.2.1 (c x.1) - st x.1 x.2.1 0)+isum n (fun p=>isum (c p) (fun i=>wgt st ts p i)):=by
   have e1:isum n (fun p=>isum (c p) (fun i=>wgt st (x :: ts) p i))=isum n (fun p=>isum (c p) (fun i=>if x.1=p then x.2.2*(st p x.2.1 (i+1) - st p x.2.1 i) else 0)+isum (c p) (fun i=>wgt st ts p i)):=
    isum_congr fun p _=>isum_add _ _ _
   rw [e1,isum_add]
   congr 1
   have e2:isum n (fun p=>isum (c p) (fun i=>if x.1=p then x.2.2*(st p x.2.1 (i+1) - st p x.2.1 i) else 0))=isum n (fun p=>if p=x.1 then x.2.2*(st x.1 x.2.1 (c x.1) - st x.1 x.2.1 0) else 0):=by
    refine isum_congr fun p _=>?_
    by_cases hp:p=x.1
    ·subst hp
     rw [if_pos rfl,←isum_tel (fun k=>st x.1 x.2.1 k),←isum_mul]
     exact isum_congr fun i _=>if_pos rfl
    ·rw [if_neg hp,isum_congr (g:=fun _=>0) (fun i _=>if_neg fun h=>hp h.symm),isum_zero]
   rw [e2,isum_one _ (h x List.mem_cons_self)]
  rw [e]
  show x.2.2*st x.1 x.2.1 (c x.1)+valC st ts c=x.2.2*st x.1 x.2.1 0+valC st ts (fun _=>0)+_
  rw [ih,Int.mul_sub];omega
def tott (f:Nat→Nat):Nat→Nat
 | 0 => 0
 | k+1 => tott f k+f k
theorem isum_tot (en:Nat→Nat) (g:Nat→Int):∀ n,isum (tott en n) g=isum n (fun p=>isum (en p) (fun i=>g (tott en p+i)))
 | 0 => rfl
 | n+1 => by
  show isum (tott en n+en n) g=isum n (fun p=>isum (en p) (fun i=>g (tott en p+i)))+isum (en n) (fun i=>g (tott en n+i))
  rw [isum_split,isum_tot en g n]
theorem tott_mono (en:Nat→Nat) {p q:Nat} (h:p≤q):tott en p≤tott en q:=by
 induction q with
 | zero => obtain rfl : p = 0 := by omega
           exact Nat.le_refl _
 | succ q ih =>
  by_cases e:p=q+1
  ·subst e;exact Nat.le_refl _
  ·have:=ih (by omega);show _≤tott en q+en q;omega
theorem tott_lt (en:Nat→Nat) {p i n:Nat} (hp:p<n) (hi:i<en p):tott en p+i<tott en n:=by
 have h:=tott_mono en (p:=p+1) (q:=n) hp
 have:tott en (p+1)=tott en p+en p:=rfl
 omega
theorem tott_inj (en:Nat→Nat) {p q i j:Nat} (hi:i<en p) (hj:j<en q) (h:tott en p+i=tott en q+j):p=q∧i=j:=by
 have key:∀ {p q i j:Nat},i<en p→p<q→tott en p+i<tott en q+j:=by
  intro p q i j hi hpq
  have h:=tott_mono en (p:=p+1) (q:=q) hpq
  have:tott en (p+1)=tott en p+en p:=rfl
  omega
 rcases Nat.lt_trichotomy p q with hpq | hpq | hpq
 ·have:=key (j:=j) hi hpq;omega
 ·subst hpq;exact ⟨rfl,by omega⟩
 ·have:=key (j:=i) hj hpq;omega
def cntB (R:Nat→Bool):Nat→Nat
 | 0 => 0
 | m+1 => cntB R m+if R m=true then 1 else 0
theorem cntB_le (R:Nat→Bool):∀ m,cntB R m≤m
 | 0 => Nat.le_refl _
 | m+1 => by have:=cntB_le R m;show cntB R m+(if R m=true then 1 else 0)≤m+1;split <;> omega
theorem cntB_prefix {R:Nat→Bool}:∀ {m:Nat},(∀ i,i+1<m→R (i+1)=true→R i=true)→∀ i,i<m→(R i=true↔i<cntB R m)
 | 0,_,i,hi => by omega
 | m+1,h,i,hi => by
  have ih:=cntB_prefix (R:=R) (m:=m) (fun i hi=>h i (by omega))
  have hle:=cntB_le R m
  show R i=true↔i<cntB R m+if R m=true then 1 else 0
  by_cases hm:R m=true
  ·rw [if_pos hm]
   have hall:∀ k,k≤m→R (m - k)=true:=by
    intro k
    induction k with
    | zero => intro _;exact hm
    | succ k ihk =>
     intro hk
     have h1:=ihk (by omega)
     have e:m - k=(m - (k+1))+1:=by omega
     rw [e] at h1
     exact h (m - (k+1)) (by omega) h1
   have hcm:cntB R m=m:=by
    rcases Nat.eq_zero_or_pos m with h0 | h0
    ·subst h0;rfl
    ·have h1:R (m - 1)=true:=hall 1 h0
     have h2:=(ih (m - 1) (by omega)).1 h1
     omega
   rw [hcm]
   constructor
   ·intro _;omega
   ·intro _
    have:=hall (m - i) (by omega)
    rwa [show m - (m - i)=i by omega] at this
  ·rw [if_neg hm]
   by_cases e:i=m
   ·subst e;constructor
    ·intro h;exact absurd h hm
    ·intro h;omega
   ·rw [ih i (by omega)];omega
def cutOf (en:Nat→Nat) (R:Nat→Bool) (p:Nat):Nat:=cntB (fun i=>R (tott en p+i)) (en p)
end Go.Proofs.YtnknkkmdbnaglaaGreat
