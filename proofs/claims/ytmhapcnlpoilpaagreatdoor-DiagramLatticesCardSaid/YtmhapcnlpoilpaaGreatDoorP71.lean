/- Contracts and laws in plain Lean for RApp: group P71. -/
import Derived.Test.YtmhapcnlpoilpaaGreatDoorP68
import Derived.Test.YtmhapcnlpoilpaaGreatDoorP05
import Derived.Test.YtmhapcnlpoilpaaGreatDoorP38
import Derived.Test.YtmhapcnlpoilpaaGreatDoorP66
import Derived.Test.YtmhapcnlpoilpaaGreatDoorP06
import Derived.Test.YtmhapcnlpoilpaaGreatDoorP02
import Derived.Test.YtmhapcnlpoilpaaGreatDoorP03
namespace Go.Proofs.YtmhapcnlpoilpaaGreatDoor
def ex56:Tr where
 n:=2
 name k:=if k=0 then ⟨#[97]⟩ else ⟨#[98]⟩
 vn _:=0
 vname _ _:=⟨#[]⟩
 vinit _ _:=0
 en k:=if k=0 then 2 else 1
 kind k i:=if k=0 then (if i=0 then 1 else 2) else 3
 peer k i:=if k=0 then (if i=0 then 0 else 1) else 0
 msg k i:=if k=0 then (if i=0 then 0 else 5) else 5
 time _ _:=0
 an _ _:=0
 avar _ _ _:=0
 aval _ _ _:=0
theorem lt2E {k:Nat} (h:k<2):k=0∨k=1:=by omega
def eE0:ex56.Id:=⟨(0,0),by decide,by decide⟩
def eE1:ex56.Id:=⟨(0,1),by decide,by decide⟩
def eE2:ex56.Id:=⟨(1,0),by decide,by decide⟩
theorem eE_evs:ex56.evs=[eE0,eE1,eE2]:=by rfl
theorem eE_ind {P:ex56.Id→Prop} (h0:P eE0) (h1:P eE1) (h2:P eE2):∀ x,P x:=by
 intro x
 have h:=evs_all x
 rw [eE_evs] at h
 simp at h
 rcases h with rfl | rfl | rfl
 ·exact h0
 ·exact h1
 ·exact h2
theorem ex56_valid:ex56.Valid:=by
 refine ⟨by decide,by decide,fun k hk=>?_,fun k i hk hi=>?_,?_,?_⟩
 ·rcases lt2E hk with rfl | rfl
  ·exact ⟨by decide,by decide,by decide,fun i hi=>absurd hi (Nat.not_lt_zero _),by decide⟩
  ·exact ⟨by decide,by kernel_rfl,by decide,fun i hi=>absurd hi (Nat.not_lt_zero _),by decide⟩
 ·have hh:=eE_ind (P:=fun x=>ex56.EvOk x.1.1 x.1.2) ⟨by unfold FormedP;decide,by decide,by decide,by decide,fun j hj=>absurd hj (Nat.not_lt_zero _)⟩ ⟨by unfold FormedP;decide,by decide,by decide,by decide,fun j hj=>absurd hj (Nat.not_lt_zero _)⟩ ⟨by unfold FormedP;decide,by decide,by decide,by decide,fun j hj=>absurd hj (Nat.not_lt_zero _)⟩
  exact hh ⟨(k,i),hk,hi⟩
 ·rw [eE_evs]
  intro pre x ⟨t,ht⟩
  match pre,ht with
  | [],ht =>
   simp at ht;obtain ⟨rfl,_⟩:=ht
   exact ⟨fun h=>by revert h;decide,fun h=>by revert h;decide⟩
  | [a],ht =>
   simp at ht;obtain ⟨rfl,rfl,_⟩:=ht
   exact ⟨fun _=>by decide,fun h=>by revert h;decide⟩
  | [a,b],ht =>
   simp at ht;obtain ⟨rfl,rfl,rfl,_⟩:=ht
   exact ⟨fun h=>by revert h;decide,fun _=>⟨by decide,by decide⟩⟩
  | a :: b :: c :: r,ht =>
   have:=congrArg List.length ht
   simp at this
 ·rintro ⟨x,hp⟩
  have h:=path_rank (V:=ex56.V) (fun z=>2*z.1+z.2) ?_ x.2 hp
  ·exact absurd h.2 (Nat.lt_irrefl _)
  ·intro a b ha hb
   have hh:=eE_ind (P:=fun x=>∀ b,b∈ex56.succ (Ltr.of ex56 ex56.evs) x.1→ex56.V b∧2*x.1.1+x.1.2<2*b.1+b.2) ?_ ?_ ?_ ⟨a,ha⟩ b hb
   ·exact hh
   ·intro b hb
    have:ex56.succ (Ltr.of ex56 ex56.evs) eE0.1=[(0,1)]:=by rfl
    rw [this] at hb;simp at hb;subst hb;exact ⟨⟨by decide,by decide⟩,by decide⟩
   ·intro b hb
    have:ex56.succ (Ltr.of ex56 ex56.evs) eE1.1=[(1,0)]:=by rfl
    rw [this] at hb;simp at hb;subst hb;exact ⟨⟨by decide,by decide⟩,by decide⟩
   ·intro b hb
    have:ex56.succ (Ltr.of ex56 ex56.evs) eE2.1=[]:=by rfl
    rw [this] at hb;cases hb
theorem eE_snd:ex56.sndN (1,0)=(0,1):=by
 have h:ex56.snd eE2=eE1:=ex56_valid.snd_eq ⟨by decide,by decide,by decide⟩
 have:=ex56.sndN_eq eE2
 rw [h] at this;exact this
theorem ex56_rows {rows:Nat→List Int} (h:ex56.Stamps rows):rows 0=[1,2]∧rows 1=[3]:=by
 have l0:=h.len 0 (by decide)
 have l1:=h.len 1 (by decide)
 have e0:=h.eq 0 0 (by decide) (by decide)
 have e1:=h.eq 0 1 (by decide) (by decide)
 have e2:=h.eq 1 0 (by decide) (by decide)
 rw [eE_snd] at e2
 simp [ex56] at e0 e1 e2 l0 l1
 match h0:rows 0,l0 with
 | [a,b],_ =>
  match h1:rows 1,l1 with
  | [c],_ =>
   simp [h0] at e0 e1
   simp [h0,h1] at e2
   obtain rfl:a=1:=by omega
   obtain rfl:b=2:=by omega
   obtain rfl:c=3:=by omega
   exact ⟨rfl,rfl⟩
theorem ex56_most {rows:Nat→List Int} {m:Int} (h:ex56.Stamps rows) (hm:ex56.Most rows m):m=3:=by
 obtain ⟨h0,h1⟩:=ex56_rows h
 have h2:=hm.le 1 0 (by decide) (by rw [h1];decide)
 rw [h1] at h2
 have h2:(3:Int)≤m:=h2
 rcases hm.at' with h3 | ⟨k,i,hk,hi,he⟩
 ·omega
 ·rcases lt2E hk with rfl | rfl
  ·rw [h0] at hi he
   have hi':i<2:=hi
   rcases lt2E hi' with rfl | rfl
   ·have he:(1:Int)=m:=he
    omega
   ·have he:(2:Int)=m:=he
    omega
  ·rw [h1] at hi he
   have hi':i<1:=hi
   obtain rfl:i=0:=by omega
   exact he.symm
theorem itoa_digit (n:Nat) (h:n<10):Lib.itoa (n:Int)=[UInt8.ofNat (48+n)]:=by
 unfold Lib.itoa
 rw [if_neg (by omega),Lib.decDigits,dif_pos (by omega),Int.toNat_natCast]
theorem lab56:ex56.lab 0 0=[111]∧ex56.lab 0 1=[115,53]∧ex56.lab 1 0=[114,53]:=by
 have h5:Lib.itoa 5=[53]:=itoa_digit 5 (by decide)
 refine ⟨?_,?_,?_⟩
 ·rfl
 ·show (115:UInt8) :: Lib.itoa 5=_;rw [h5]
 ·show (114:UInt8) :: Lib.itoa 5=_;rw [h5]
def dra56:List UInt8:=[97,32,124,111,45,45,115,53,45,45,45,124,10,98,32,124,45,45,45,45,45,45,114,53,124,10]
theorem ex56_dra {rows:Nat→List Int} {m:Int} (h:ex56.Stamps rows) (hm:ex56.Most rows m):ex56.dra (fun p i=>(rows p).getD i 0 - 1) m.toNat (ex56.nw ex56.n) (ex56.wd ex56.n) none ex56.n=dra56:=by
 obtain ⟨h0,h1⟩:=ex56_rows h
 obtain ⟨a,b,c⟩:=lab56
 obtain rfl:=ex56_most h hm
 have hn:ex56.nw ex56.n=1:=by rfl
 have hw:ex56.wd ex56.n=2:=by
  show ex56.we 1 (ex56.we 0 1 2) 1=2
  simp [Tr.we,a,b,c]
 have c0:∀ k,ex56.cel (fun p i=>(rows p).getD i 0 - 1) 0 2 k=if k=1 then [115,53] else if k=0 then [111] else []:=fun k=>by
  simp only [Tr.cel,h0,a,b,List.getD_cons_succ,List.getD_cons_zero]
  by_cases e1:k=1
  ·subst e1;rfl
  ·rw [if_neg (by omega),if_neg e1]
   by_cases e0:k=0
   ·subst e0;rfl
   ·rw [if_neg (by omega),if_neg e0]
 have c1:∀ k,ex56.cel (fun p i=>(rows p).getD i 0 - 1) 1 1 k=if k=2 then [114,53] else []:=fun k=>by
  simp only [Tr.cel,h1,c,List.getD_cons_zero]
  by_cases e1:k=2
  ·subst e1;rfl
  ·rw [if_neg (by omega),if_neg e1]
 have l0:ex56.line (fun p i=>(rows p).getD i 0 - 1) 3 2 0=[111,45,45,115,53,45,45,45]:=by
  show Lib.join ([0,1,2].map fun k=>padL (ex56.cel (fun p i=>(rows p).getD i 0 - 1) 0 2 k) 45 2) [45]=_
  simp only [c0];rfl
 have l1:ex56.line (fun p i=>(rows p).getD i 0 - 1) 3 2 1=[45,45,45,45,45,45,114,53]:=by
  show Lib.join ([0,1,2].map fun k=>padL (ex56.cel (fun p i=>(rows p).getD i 0 - 1) 1 1 k) 45 2) [45]=_
  simp only [c1];rfl
 rw [hn,hw]
 show ([]++(padL [97] 32 1++[32,124]++ex56.line (fun p i=>(rows p).getD i 0 - 1) 3 2 0++[124,10]))++(padL [98] 32 1++[32,124]++ex56.line (fun p i=>(rows p).getD i 0 - 1) 3 2 1++[124,10])=_
 rw [l0,l1];rfl
theorem cutL56 {l:List Nat}:CutL ex56 l↔l=[0,0]∨l=[1,0]∨l=[2,0]∨l=[2,1]:=by
 constructor
 ·rintro ⟨h1,h2⟩
  match l,h1 with
  | [a,b],_ =>
   have ha:a≤2:=h2.le 0 (by decide)
   have hb:b≤1:=h2.le 1 (by decide)
   have ca:a=0∨a=1∨a=2:=by omega
   have cb:b=0∨b=1:=by omega
   have hr:0<b→1<a:=fun h=>by
    have h3:=h2.cl (1,0) ⟨by decide,by decide⟩ h rfl
    rw [eE_snd] at h3
    exact h3
   rcases cb with rfl | rfl
   ·rcases ca with rfl | rfl | rfl
    ·exact .inl rfl
    ·exact .inr (.inl rfl)
    ·exact .inr (.inr (.inl rfl))
   ·have:=hr (by decide)
    obtain rfl:a=2:=by omega
    exact .inr (.inr (.inr rfl))
 ·have key : ∀ a b : Nat, a ≤ 2 → b ≤ 1 → (0 < b → 1 < a) → CutL ex56 [a, b] := fun a b ha hb hab => by
    refine ⟨rfl,fun p hp=>?_,fun x hx hl h3=>?_⟩
    ·rcases lt2E hp with rfl | rfl
     ·exact ha
     ·exact hb
    ·obtain ⟨p,i⟩:=x
     rcases lt2E hx.1 with rfl | rfl
     ·have hi:i<2:=hx.2
      rcases lt2E hi with rfl | rfl
      ·exact absurd h3 (by decide)
      ·exact absurd h3 (by decide)
     ·have hi:i<1:=hx.2
      obtain rfl:i=0:=by omega
      rw [eE_snd];exact hab hl
  rintro (rfl | rfl | rfl | rfl)
  ·exact key 0 0 (by decide) (by decide) (by decide)
  ·exact key 1 0 (by decide) (by decide) (by decide)
  ·exact key 2 0 (by decide) (by decide) (by decide)
  ·exact key 2 1 (by decide) (by decide) (by decide)
theorem cuts56:IsCuts ex56 [[0,0],[1,0],[2,0],[2,1]]:=by
 refine ⟨?_,fun l=>?_⟩
 ·rw [List.pairwise_cons,List.pairwise_cons,List.pairwise_cons,List.pairwise_cons]
  refine ⟨fun a ha=>?_,fun a ha=>?_,fun a ha=>?_,fun a ha=>(by cases ha),List.Pairwise.nil⟩
  ·simp at ha
   rcases ha with rfl | rfl | rfl
   ·exact .inl (by decide)
   ·exact .inl (by decide)
   ·exact .inl (by decide)
  ·simp at ha
   rcases ha with rfl | rfl
   ·exact .inl (by decide)
   ·exact .inl (by decide)
  ·simp at ha
   subst ha
   exact .inl (by decide)
 ·rw [cutL56];simp
theorem sorted_uniqE {α:Type} {r:α→α→Prop} (irr:∀ a,¬r a a) (tr:∀ a b c,r a b→r b c→r a c):∀ {l m:List α},l.Pairwise r→m.Pairwise r→(∀ x,x∈l↔x∈m)→l=m
 | [],[],_,_,_ => rfl
 | [],b :: m,_,_,h => by have:=(h b).2 List.mem_cons_self;cases this
 | a :: l,[],_,_,h => by have:=(h a).1 List.mem_cons_self;cases this
 | a :: l,b :: m,hl,hm,h => by
  rw [List.pairwise_cons] at hl hm
  have hab:a=b:=by
   rcases List.mem_cons.1 ((h a).1 List.mem_cons_self) with e | ha
   ·exact e
   ·rcases List.mem_cons.1 ((h b).2 List.mem_cons_self) with e | hb
    ·exact e.symm
    ·exact absurd (tr _ _ _ (hm.1 a ha) (hl.1 b hb)) (irr _)
  subst hab
  rw [sorted_uniqE irr tr hl.2 hm.2 fun x=>?_]
  constructor
  ·intro hx
   rcases List.mem_cons.1 ((h x).1 (List.mem_cons_of_mem _ hx)) with e | hx'
   ·subst e;exact absurd (hl.1 x hx) (irr _)
   ·exact hx'
  ·intro hx
   rcases List.mem_cons.1 ((h x).2 (List.mem_cons_of_mem _ hx)) with e | hx'
   ·subst e;exact absurd (hm.1 x hx) (irr _)
   ·exact hx'
theorem cuts_uniq {T:Tr} {L M:List (List Nat)} (h:IsCuts T L) (k:IsCuts T M):L=M:=
 sorted_uniqE (r:=fun a b:List Nat=>befP T.n (fn a) (fn b)) (fun _=>befP_irrefl _ _) (fun _ _ _ h1 h2=>befP_trans h1 h2) h.1 k.1 fun x=>(h.2 x).trans (k.2 x).symm
theorem cuts_nodup {n:Nat} {L:List (List Nat)} (h:L.Pairwise fun a b=>befP n (fn a) (fn b)):L.Nodup:=h.imp fun h1 e=>by subst e;exact befP_irrefl _ _ h1
theorem cuts_le {T:Tr} {L M:List (List Nat)} (h:IsCuts T L) (k:M.Pairwise fun a b=>befP T.n (fn a) (fn b)) (hm:∀ l∈M,CutL T l):M.length≤L.length:=nodup_le M L (cuts_nodup k) fun y hy=>(h.2 y).2 (hm y hy)
end Go.Proofs.YtmhapcnlpoilpaaGreatDoor

namespace Go.Proofs.YtmhapcnlpoilpaaGreatDoor
open Go.RowKit Go.Shelf
attribute [local go_sem] Oper.semAt_some
set_option maxHeartbeats 400000 in
theorem size1_any (w : World) (a b c d : Int) (e : Option Addr) (n cap : Nat) :
    Calls Tryz.prog 34 #[.agg #[.int .i64 a,.int .i64 b,.int .i64 c,.int .i64 d,.slice e n cap]] w fun r w'=>r=.returned (.bool (decide (12<(n:Int))))∧Ext w w':=by
 go_enter Tryz.func34,Tryz.ntmps34
 go_wp2
 go_ret
 exact ⟨ret_bool (by simp),Ext.alloc _ _⟩
def SizePost (T:Tr) (w:World) (e:Ending) (w':World):Prop:=Ext w w'∧∃ k:Nat,e=.returned (.int .i64 k)∧k≤1407374883553280∧(k≤60→tot T.en T.n=k)
set_option maxRecDepth 100000 in
set_option maxHeartbeats 2000000 in
theorem size_any (w:World) (T:TM) (hT:T.At w):Calls Tryz.prog 8 #[T.val] w (SizePost T.toTr w):=by
 have hn:=hT.P.hn
 have HT:=Lib.hid hT
 clear hT
 go_enter Tryz.func8,Tryz.ntmps8
 go_upto_region 1 with fail
 refine boxed1 (w:=w) (G:=fun x=>Code.wp _ _ _ _ x) ?_
 intro w1 hx1 hs1 ⟨l0,c0,_,_⟩
 have hx11:Ext w1 w1:=Ext.refl _
 clear hs1
 obtain ⟨ta,hta⟩:∃ a,a=T.a:=⟨_,rfl⟩
 rw [←hta] at c0
 have HTA:=Lib.hid hta
 clear hta
 by_cases h10:10<T.n
 ·have b1:decide ((10:Int)<(T.n:Int))=true:=decide_eq_true (by omega)
  have b1':decide (10<T.n)=true:=decide_eq_true h10
  go_wp2_with fail
  go_ret
  exact ⟨hx1,1000,rfl,by omega,fun h=>absurd h (by omega)⟩
 ·have b0:decide ((10:Int)<(T.n:Int))=false:=decide_eq_false (by omega)
  have b0':decide (10<T.n)=false:=decide_eq_false h10
  have HTT:=Lib.hid (show ∀ k,k≤T.n→tot T.en k≤k*140737488355328 from fun k hk=>tot_small fun j hj=>HT.out.E.he j (by omega))
  have hn10:T.n≤10:=by omega
  clear h10
  go_wp2_with fail
  go_loopg [3,13] T.n (fun gg v3 v13 wr=>∃ k:Nat,k≤T.n∧gg=T.n - k∧v3=.int .i64 (tot T.en k:Nat)∧v13=.int .i64 k∧Ext w1 wr)
  case atStart=>exact ⟨0,by omega,rfl,rfl,rfl,hx11⟩
  case round=>
   obtain ⟨k,hk,rfl,rfl,rfl,hxr⟩:=hrel
   have hxw:=hx1.trans hxr
   obtain ⟨tk,htk⟩:∃ tk,tk=tot T.en k:=⟨_,rfl⟩
   have htb:tk≤1407374883553280:=by
    have h1:=HTT.out k hk
    have h2:k*140737488355328≤10*140737488355328:=Nat.mul_le_mul_right _ (by omega)
    omega
   rw [←htk]
   have HTK:=Lib.hid htk
   clear htk
   by_cases hlt:k<T.n
   ·have hlt':(k:Int)<(T.n:Int):=by omega
    obtain rfl:ta=some ⟨T.b,T.off,none⟩:=by rw [HTA.out];exact HT.out.P.pa (by omega)
    have pb:=HT.out.P.pb (by omega)
    have p0:∀ w',Ext w w'→w'.cell? ⟨T.b,T.off+k*3,none⟩=some (.string (T.name k)):=fun w' h=>HT.out.P.p0 w' h k hlt
    have p1:∀ w',Ext w w'→w'.cell? ⟨T.b,T.off+k*3+1,none⟩=some (.slice (T.va k) (T.vn k) (T.vc k)):=fun w' h=>HT.out.P.p1 w' h k hlt
    have p2:∀ w',Ext w w'→w'.cell? ⟨T.b,T.off+k*3+2,none⟩=some (.slice (T.ea k) (T.en k) (T.ec k)):=fun w' h=>HT.out.P.p2 w' h k hlt
    have hen:=HT.out.E.he k hlt
    go_upto_region 7 with fail
    refine boxed1 (w:=wr) (G:=fun x=>Code.wp _ _ _ _ x) ?_
    intro w2 hx2 hs2 ⟨l2,c2,_,_⟩
    have hx22:Ext w2 w2:=Ext.refl _
    have hxw2:=hxw.trans hx2
    have hx12:=hxr.trans hx2
    clear hs2 p0 p1 p2 pb
    generalize wr.heap.size=xb at l2 c2 ⊢
    obtain ⟨m,hm⟩:∃ m:Nat,m=tk+T.en k:=⟨_,rfl⟩
    have HM:=Lib.hid (show m=tot T.en (k+1) from by rw [hm,HTK.out];rfl)
    have hmw:IntKind.i64.wrap ((tk:Int)+(T.en k:Int))=(m:Int):=by rw [IntWalk.i64_in _ (by omega)];omega
    clear hm
    by_cases h12:12<T.vn k
    ·have b2:decide ((12:Int)<(T.vn k:Int))=true:=decide_eq_true (by omega)
     have b2':decide (12<T.vn k)=true:=decide_eq_true h12
     go_wp2_with fail
     go_ret
     exact ⟨hxw2,1000,rfl,by omega,fun h=>absurd h (by omega)⟩
    ·have b2:decide ((12:Int)<(T.vn k:Int))=false:=decide_eq_false (by omega)
     have b2':decide (12<T.vn k)=false:=decide_eq_false h12
     by_cases h30:30<(T.name k).size
     ·have b3:decide ((30:Int)<((T.name k).size:Int))=true:=decide_eq_true (by omega)
      have b3':decide (30<(T.name k).size)=true:=decide_eq_true h30
      go_wp2_with fail
      go_ret
      exact ⟨hxw2,1000,rfl,by omega,fun h=>absurd h (by omega)⟩
     ·have b3:decide ((30:Int)<((T.name k).size:Int))=false:=decide_eq_false (by omega)
      have b3':decide (30<(T.name k).size)=false:=decide_eq_false h30
      have hEv:=has_Event w2 (T.ea k) (T.eb k) (T.eo k) (T.en k) (T.ec k) (fun i=>.int .i64 (T.kind k i)) (fun i=>.int .i64 (T.peer k i)) (fun i=>.int .i64 (T.msg k i)) (fun i=>.int .i64 (T.time k i)) (fun i=>.slice (T.aa k i) (T.an k i) (T.ac k i))
       34 #[] (fun i=>decide (12<(T.an k i:Int))) hen (fun h=>HT.out.E.ea k hlt h) (fun w' hx i hi=>HT.out.E.e0 w' (hxw2.trans hx) k i hlt hi) (fun w' hx i hi=>HT.out.E.e1 w' (hxw2.trans hx) k i hlt hi) (fun w' hx i hi=>HT.out.E.e2 w' (hxw2.trans hx) k i hlt hi) (fun w' hx i hi=>HT.out.E.e3 w' (hxw2.trans hx) k i hlt hi) (fun w' hx i hi=>HT.out.E.e4 w' (hxw2.trans hx) k i hlt hi)
       (enters_of Tryz.func34 (by kernel_rfl) rfl) (fun i hi w' hx=>size1_any w' _ _ _ _ _ _ _)
      cases hE:anyB (fun i=>decide (12<(T.an k i:Int))) (T.en k) with
      | true =>
       rw [hE] at hEv
       clear hE
       go_wp2_with fail
       go_at_call 33
       refine hEv.mono ?_
       rintro e w3 ⟨rfl,hx3⟩
       have hx33:=hxw2.trans hx3
       clear hEv
       go_wp2_with fail
       go_ret
       exact ⟨hx33,1000,rfl,by omega,fun h=>absurd h (by omega)⟩
      | false =>
       rw [hE] at hEv
       clear hE
       go_wp2_with fail
       go_at_call 33
       refine hEv.mono ?_
       rintro e w3 ⟨rfl,hx3⟩
       have hx13:=hx12.trans hx3
       clear hEv
       go_wp2_with fail
       go_roundg (T.n - (k+1))
       case rel=>exact ⟨k+1,by omega,rfl,by rw [HM.out],by go_num,hx13⟩
       case measure=>omega
   ·have hlt':¬(k:Int)<(T.n:Int):=by omega
    obtain rfl:k=T.n:=by omega
    go_wp2_with fail
    go_ret
    exact ⟨hxw,tk,rfl,htb,fun _=>HTK.out.symm⟩
end Go.Proofs.YtmhapcnlpoilpaaGreatDoor
