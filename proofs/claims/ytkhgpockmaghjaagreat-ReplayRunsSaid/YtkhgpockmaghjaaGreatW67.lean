/- Contracts and laws in plain Lean for RApp: group W67. -/
import Derived.Test.YtkhgpockmaghjaaGreatW65
import Derived.Test.YtkhgpockmaghjaaGreatW02
import Derived.Test.YtkhgpockmaghjaaGreatW59
import Derived.Test.YtkhgpockmaghjaaGreatW05
import Derived.Test.YtkhgpockmaghjaaGreatW45
import Derived.Test.YtkhgpockmaghjaaGreatW18
import Derived.Test.YtkhgpockmaghjaaGreatW63
set_option maxRecDepth 100000
namespace Go.Proofs.YtkhgpockmaghjaaGreat
open Go.RowKit Go.Shelf
set_option maxHeartbeats 400000 in
theorem big11_any (w : World) (a b c d : Int) (e : Option Addr) (n cap : Nat) :
    Calls Tryz.prog 47 #[.agg #[.int .i64 a,.int .i64 b,.int .i64 c,.int .i64 d,.slice e n cap]] w fun r w'=>r=.returned (.bool (decide (20<(n:Int))))∧Ext w w':=by
 go_enter Tryz.func47,Tryz.ntmps47
 go_wp2
 go_ret
 exact ⟨ret_bool (by simp),Ext.alloc _ _⟩
def bigB (T:Tr) (k:Nat):Bool:=decide (70<T.en k) || (decide (20<T.vn k) || anyB (fun i=>decide (20<(T.an k i:Int))) (T.en k))
set_option maxHeartbeats 1000000 in
theorem big1_any (w : World) (T : TM) (hT : T.At w) (k : Nat) (hk : k < T.n) :
    Calls Tryz.prog 45 #[T.pr k] w fun r w'=>r=.returned (.bool (bigB T.toTr k))∧Ext w w':=by
 have hen:=hT.E.he k hk
 have hvn:=hT.V.hv k hk
 have hEv:=fun w2 (hx:Ext w w2)=>has_Event w2 (T.ea k) (T.eb k) (T.eo k) (T.en k) (T.ec k) (fun i=>.int .i64 (T.kind k i)) (fun i=>.int .i64 (T.peer k i)) (fun i=>.int .i64 (T.msg k i)) (fun i=>.int .i64 (T.time k i)) (fun i=>.slice (T.aa k i) (T.an k i) (T.ac k i))
  47 #[] (fun i=>decide (20<(T.an k i:Int))) hen (fun h=>hT.E.ea k hk h) (fun w' x i hi=>hT.E.e0 w' (hx.trans x) k i hk hi) (fun w' x i hi=>hT.E.e1 w' (hx.trans x) k i hk hi) (fun w' x i hi=>hT.E.e2 w' (hx.trans x) k i hk hi) (fun w' x i hi=>hT.E.e3 w' (hx.trans x) k i hk hi) (fun w' x i hi=>hT.E.e4 w' (hx.trans x) k i hk hi)
  (enters_of Tryz.func47 (by kernel_rfl) rfl) (fun i hi w' x=>big11_any w' _ _ _ _ _ _ _)
 have HB:=Lib.hid (show bigB T.toTr k=(decide (70<T.en k) || (decide (20<T.vn k) || anyB (fun i=>decide (20<(T.an k i:Int))) (T.en k))) from rfl)
 obtain ⟨B,hB⟩:∃ B,B=bigB T.toTr k:=⟨_,rfl⟩
 obtain ⟨A,hA⟩:∃ A,A=anyB (fun i=>decide (20<(T.an k i:Int))) (T.en k):=⟨_,rfl⟩
 rw [←hB]
 rw [←hA] at hEv
 have HA:=Lib.hid (show B=(decide (70<T.en k) || (decide (20<T.vn k) || A)) from by rw [hB,hA];rfl)
 obtain ⟨en,he0⟩:∃ z,z=T.en k:=⟨_,rfl⟩
 obtain ⟨vn,hv0⟩:∃ z,z=T.vn k:=⟨_,rfl⟩
 rw [←he0,←hv0] at HA
 rw [←he0] at hEv hen
 rw [←hv0] at hvn
 simp only [TM.pr,←he0,←hv0]
 clear hB hA hT HB he0 hv0
 go_enter Tryz.func45,Tryz.ntmps45
 go_upto_region 1 with fail
 refine boxed1 (w:=w) (G:=fun x=>Code.wp _ _ _ _ x) ?_
 intro w1 hx1 hs1 ⟨l0,c0,_,_⟩
 have hx11:Ext w1 w1:=Ext.refl _
 have hEv1:=hEv w1 hx1
 clear hs1 hEv
 by_cases h70:70<en
 ·have b1:decide ((70:Int)<(en:Int))=true:=decide_eq_true (by omega)
  have b1':decide (70<en)=true:=decide_eq_true h70
  have HB2:=Lib.hid (show B=true from by rw [HA.out,b1'];rfl)
  go_wp2_with fail
  go_ret
  exact ⟨ret_bool HB2.out.symm,hx1⟩
 ·have b1:decide ((70:Int)<(en:Int))=false:=decide_eq_false (by omega)
  have b1':decide (70<en)=false:=decide_eq_false h70
  by_cases h20:20<vn
  ·have b2:decide ((20:Int)<(vn:Int))=true:=decide_eq_true (by omega)
   have b2':decide (20<vn)=true:=decide_eq_true h20
   have HB2:=Lib.hid (show B=true from by rw [HA.out,b1',b2'];rfl)
   go_wp2_with fail
   go_ret
   exact ⟨ret_bool HB2.out.symm,hx1⟩
  ·have b2:decide ((20:Int)<(vn:Int))=false:=decide_eq_false (by omega)
   have b2':decide (20<vn)=false:=decide_eq_false h20
   have HB2:=Lib.hid (show B=A from by rw [HA.out,b1',b2'];rfl)
   go_wp2_with fail
   go_at_call 46
   refine hEv1.mono ?_
   rintro e w3 ⟨rfl,hx3⟩
   clear hEv1
   go_wp2_with fail
   go_ret
   exact ⟨ret_bool HB2.out.symm,hx1.trans hx3⟩
structure BigNo (T:Tr) (m:Nat):Prop where
 n:T.n≤10
 l:m≤40∨1000<m
 l2:m≤1100
 p:∀ k,k<T.n→T.en k≤70∧T.vn k≤20∧∀ i,i<T.en k→T.an k i≤20
 t:tot T.en T.n≤130
theorem bigB_false {T:Tr} {k:Nat} (h:bigB T k=false):T.en k≤70∧T.vn k≤20∧∀ i,i<T.en k→T.an k i≤20:=by
 unfold bigB at h
 rw [Bool.or_eq_false_iff,Bool.or_eq_false_iff] at h
 obtain ⟨h1,h2,h3⟩:=h
 refine ⟨by simpa using h1,by simpa using h2,fun i hi=>?_⟩
 have h4:=anyB_false_iff.1 h3 i hi
 have:=of_decide_eq_false h4
 omega
set_option maxHeartbeats 2000000 in
theorem big_any (w : World) (T : TM) (hT : T.At w) (a : Option Addr) (m c : Nat) (hm : m ≤ 140737488355328) :
    Calls Tryz.prog 10 #[T.val,.slice a m c] w fun e w'=>∃ b:Bool,e=.returned (.bool b)∧(b=false→BigNo T.toTr m)∧Ext w w':=by
 have hn:=hT.P.hn
 have hP:=fun w2 (hx:Ext w w2)=>has_Proc w2 T.a T.b T.off T.n T.cap (fun k=>.string (T.name k)) (fun k=>.slice (T.va k) (T.vn k) (T.vc k)) (fun k=>.slice (T.ea k) (T.en k) (T.ec k))
  45 #[] (bigB T.toTr) hn (fun h=>hT.P.pa h) (fun w' x k hk=>hT.P.p0 w' (hx.trans x) k hk) (fun w' x k hk=>hT.P.p1 w' (hx.trans x) k hk) (fun w' x k hk=>hT.P.p2 w' (hx.trans x) k hk)
  (enters_of Tryz.func45 (by kernel_rfl) rfl) (fun k hk w' x=>big1_any w' T (hT.ext (hx.trans x)) k hk)
 have HEV:=Lib.hid (fun W (x:Ext w W) (h1:T.n≤10) (h2:∀ k,k<T.n→T.en k≤70)=>revents_tot W T (hT.ext x) (by omega) (fun k hk=>by have:=h2 k hk;omega))
 obtain ⟨B,hB⟩:∃ B,B=anyB (bigB T.toTr) T.n:=⟨_,rfl⟩
 rw [←hB] at hP
 have HP:=Lib.hid hP
 have HB:=Lib.hid (show B=false→∀ k,k<T.n→T.en k≤70∧T.vn k≤20∧∀ i,i<T.en k→T.an k i≤20 from fun h k hk=>bigB_false (anyB_false_iff.1 (hB.symm.trans h) k hk))
 obtain ⟨tt,htt⟩:∃ z,z=tot T.en T.n:=⟨_,rfl⟩
 obtain ⟨ta,hta⟩:∃ z,z=T.a:=⟨_,rfl⟩
 obtain ⟨n,hn0⟩:∃ z,z=T.n:=⟨_,rfl⟩
 have HTT:=Lib.hid htt
 have HN:=Lib.hid hn0
 simp only [TM.val,←hta,←hn0] at HEV HP ⊢
 rw [←hn0] at hn htt
 rw [←htt] at HEV
 clear hT hP hB htt hta hn0
 go_enter Tryz.func10,Tryz.ntmps10
 go_upto_region 1 with fail
 refine boxed1 (w:=w) (G:=fun x=>Code.wp _ _ _ _ x) ?_
 intro w1 hx1 hs1 ⟨l0,c0,_,_⟩
 have hx11:Ext w1 w1:=Ext.refl _
 clear hs1
 by_cases h10:10<n
 ·have b1:decide ((10:Int)<(n:Int))=true:=decide_eq_true (by omega)
  have b1':decide (10<n)=true:=decide_eq_true h10
  go_wp2_with fail
  go_ret
  exact ⟨true,rfl,fun h=>(by cases h),hx1⟩
 have b1:decide ((10:Int)<(n:Int))=false:=decide_eq_false (by omega)
 have b1':decide (10<n)=false:=decide_eq_false h10
 by_cases h40:40<m∧m≤1000
 ·have b2:decide ((40:Int)<(m:Int))=true:=decide_eq_true (by omega)
  have b2':decide (40<m)=true:=decide_eq_true (by omega)
  have b3:decide ((m:Int)≤1000)=true:=decide_eq_true (by omega)
  have b3':decide (m≤1000)=true:=decide_eq_true (by omega)
  clear h40
  go_wp2_with fail
  go_ret
  exact ⟨true,rfl,fun h=>(by cases h),hx1⟩
 have HP1:=HP.out w1 hx1
 by_cases h11:1100<m
 ·have b2:decide ((40:Int)<(m:Int))=true:=decide_eq_true (by omega)
  have b2':decide (40<m)=true:=decide_eq_true (by omega)
  have b3:decide ((m:Int)≤1000)=false:=decide_eq_false (by omega)
  have b3':decide (m≤1000)=false:=decide_eq_false (by omega)
  have b4:decide ((1100:Int)<(m:Int))=true:=decide_eq_true (by omega)
  have b4':decide (1100<m)=true:=decide_eq_true (by omega)
  clear h40
  go_wp2_with fail
  go_ret
  exact ⟨true,rfl,fun h=>(by cases h),hx1⟩
 have b4:decide ((1100:Int)<(m:Int))=false:=decide_eq_false (by omega)
 have b4':decide (1100<m)=false:=decide_eq_false h11
 have HM:=Lib.hid (show (m≤40∨1000<m)∧m≤1100∧n≤10 from ⟨by omega,by omega,by omega⟩)
 by_cases h41:40<m
 ·have b2:decide ((40:Int)<(m:Int))=true:=decide_eq_true (by omega)
  have b2':decide (40<m)=true:=decide_eq_true (by omega)
  have b3:decide ((m:Int)≤1000)=false:=decide_eq_false (by omega)
  have b3':decide (m≤1000)=false:=decide_eq_false (by omega)
  clear h40
  cases B with
  | true =>
   go_wp2_with fail
   go_at_call 44
   refine HP1.mono ?_
   rintro e w2 ⟨rfl,hx2⟩
   clear HP1
   go_wp2_with fail
   go_ret
   exact ⟨true,rfl,fun h=>(by cases h),(hx1.trans hx2)⟩
  | false =>
   have HB0:=Lib.hid (HB.out rfl)
   go_wp2_with fail
   go_at_call 44
   refine HP1.mono ?_
   rintro e w2 ⟨rfl,hx2⟩
   have hxw2:=hx1.trans hx2
   have hev:=HEV.out w2 hxw2 HM.out.2.2 (fun k hk=>(HB0.out k (by rw [←HN.out];exact hk)).1)
   clear HP1
   go_wp2_with fail
   go_at_call 24
   refine hev.mono ?_
   rintro e w3 ⟨rfl,hx3⟩
   clear hev
   by_cases h130:130<tt
   ·have b5:decide ((130:Int)<(tt:Int))=true:=decide_eq_true (by omega)
    have b5':decide (130<tt)=true:=decide_eq_true h130
    go_wp2_with fail
    go_ret
    exact ⟨true,rfl,fun h=>(by cases h),(hxw2.trans hx3)⟩
   ·have b5:decide ((130:Int)<(tt:Int))=false:=decide_eq_false (by omega)
    have b5':decide (130<tt)=false:=decide_eq_false h130
    have HX:=Lib.hid (show BigNo T.toTr m from ⟨by rw [←HN.out];exact HM.out.2.2,HM.out.1,HM.out.2.1,HB0.out,by rw [←HTT.out];omega⟩)
    go_wp2_with fail
    go_ret
    exact ⟨false,rfl,fun _=>HX.out,hxw2.trans hx3⟩
 ·have b2:decide ((40:Int)<(m:Int))=false:=decide_eq_false (by omega)
  have b2':decide (40<m)=false:=decide_eq_false (by omega)
  clear h40
  cases B with
  | true =>
   go_wp2_with fail
   go_at_call 44
   refine HP1.mono ?_
   rintro e w2 ⟨rfl,hx2⟩
   clear HP1
   go_wp2_with fail
   go_ret
   exact ⟨true,rfl,fun h=>(by cases h),(hx1.trans hx2)⟩
  | false =>
   have HB0:=Lib.hid (HB.out rfl)
   go_wp2_with fail
   go_at_call 44
   refine HP1.mono ?_
   rintro e w2 ⟨rfl,hx2⟩
   have hxw2:=hx1.trans hx2
   have hev:=HEV.out w2 hxw2 HM.out.2.2 (fun k hk=>(HB0.out k (by rw [←HN.out];exact hk)).1)
   clear HP1
   go_wp2_with fail
   go_at_call 24
   refine hev.mono ?_
   rintro e w3 ⟨rfl,hx3⟩
   clear hev
   by_cases h130:130<tt
   ·have b5:decide ((130:Int)<(tt:Int))=true:=decide_eq_true (by omega)
    have b5':decide (130<tt)=true:=decide_eq_true h130
    go_wp2_with fail
    go_ret
    exact ⟨true,rfl,fun h=>(by cases h),(hxw2.trans hx3)⟩
   ·have b5:decide ((130:Int)<(tt:Int))=false:=decide_eq_false (by omega)
    have b5':decide (130<tt)=false:=decide_eq_false h130
    have HX:=Lib.hid (show BigNo T.toTr m from ⟨by rw [←HN.out];exact HM.out.2.2,HM.out.1,HM.out.2.1,HB0.out,by rw [←HTT.out];omega⟩)
    go_wp2_with fail
    go_ret
    exact ⟨false,rfl,fun _=>HX.out,hxw2.trans hx3⟩
def ex45:Tr where
 n:=2
 name k:=if k=0 then ⟨#[112]⟩ else ⟨#[113]⟩
 vn _:=0
 vname _ _:=⟨#[]⟩
 vinit _ _:=0
 en _:=1
 kind _ _:=1
 peer _ _:=0
 msg _ _:=0
 time k _:=if k=0 then 2 else 7
 an _ _:=0
 avar _ _ _:=0
 aval _ _ _:=0
def eR0:ex45.Id:=⟨(0,0),by decide,by decide⟩
def eR1:ex45.Id:=⟨(1,0),by decide,by decide⟩
theorem eR_evs:ex45.evs=[eR0,eR1]:=by rfl
theorem eR_ind {P:ex45.Id→Prop} (h0:P eR0) (h1:P eR1):∀ x,P x:=by
 intro x
 have h:=evs_all x
 rw [eR_evs] at h
 simp at h
 rcases h with rfl | rfl
 ·exact h0
 ·exact h1
theorem lt2R {k:Nat} (h:k<2):k=0∨k=1:=by omega
theorem ex45_valid:ex45.Valid:=by
 refine ⟨by decide,by decide,fun k hk=>?_,fun k i hk hi=>?_,?_,?_⟩
 ·rcases lt2R hk with rfl | rfl
  ·exact ⟨by decide,by decide,by decide,fun i hi=>absurd hi (Nat.not_lt_zero _),by decide⟩
  ·exact ⟨by decide,by kernel_rfl,by decide,fun i hi=>absurd hi (Nat.not_lt_zero _),by decide⟩
 ·have hh:=eR_ind (P:=fun x=>ex45.EvOk x.1.1 x.1.2) ⟨by unfold FormedP;decide,by decide,by decide,by decide,fun j hj=>absurd hj (Nat.not_lt_zero _)⟩ ⟨by unfold FormedP;decide,by decide,by decide,by decide,fun j hj=>absurd hj (Nat.not_lt_zero _)⟩
  exact hh ⟨(k,i),hk,hi⟩
 ·rw [eR_evs]
  intro pre x ⟨t,ht⟩
  match pre,ht with
  | [],ht =>
   simp at ht;obtain ⟨rfl,_⟩:=ht
   exact ⟨(fun h=>by revert h;decide),(fun h=>by revert h;decide)⟩
  | [a],ht =>
   simp at ht;obtain ⟨rfl,rfl,_⟩:=ht
   exact ⟨(fun h=>by revert h;decide),(fun h=>by revert h;decide)⟩
  | a :: b :: r,ht =>
   have:=congrArg List.length ht
   simp at this
 ·rintro ⟨x,hp⟩
  have h:=path_rank (V:=ex45.V) (fun z=>z.1+z.2) ?_ x.2 hp
  ·exact absurd h.2 (Nat.lt_irrefl _)
  ·intro a b ha hb
   have hh:=eR_ind (P:=fun x=>∀ b,b∈ex45.succ (Ltr.of ex45 ex45.evs) x.1→ex45.V b∧x.1.1+x.1.2<b.1+b.2) ?_ ?_ ⟨a,ha⟩ b hb
   ·exact hh
   ·intro b hb
    have:ex45.succ (Ltr.of ex45 ex45.evs) eR0.1=[]:=by rfl
    rw [this] at hb;cases hb
   ·intro b hb
    have:ex45.succ (Ltr.of ex45 ex45.evs) eR1.1=[]:=by rfl
    rw [this] at hb;cases hb
def L45:List Syn:=[((0,1),(1,1))]
theorem fw45 (x:NN) (hx:ex45.V x):ex45.fw x=[]:=
 eR_ind (P:=fun x=>ex45.fw x.1=[]) rfl rfl ⟨x,hx⟩
theorem synOk45:SynOk ex45 L45:=by
 intro s hs
 obtain rfl:=List.mem_singleton.1 hs
 exact ⟨⟨by decide,by decide,by decide,by decide⟩,⟨by decide,by decide,by decide,by decide⟩⟩
theorem gr45 {x y:NN} (hx:ex45.V x):y∈ex45.gr L45 x↔x=(0,0)∧y=(1,0):=by
 rw [mem_gr synOk45,fw45 x hx]
 constructor
 ·rintro (h | h)
  ·cases h
  ·have h1:=List.mem_singleton.1 h
   have h2:=Prod.mk.inj h1
   exact ⟨evI_inj (y:=(0,0)) h2.1,evI_inj (y:=(1,0)) h2.2⟩
 ·rintro ⟨rfl,rfl⟩
  exact .inr (List.mem_singleton.2 rfl)
theorem noCyc45:ex45.NoCyc L45:=fun x hx hp=>by
 have h:=path_rank (V:=ex45.V) (fun z=>z.1) (fun a b ha hb=>by
  obtain ⟨rfl,rfl⟩:=(gr45 ha).1 hb
  exact ⟨⟨by decide,by decide⟩,by decide⟩) hx hp
 exact absurd h.2 (Nat.lt_irrefl _)
theorem fault45:PFault ex45 L45 True False 0:=.inr (.inr ⟨.inr (.inr (.inr ⟨⟨ex45_valid,trivial⟩,by decide,synOk45,id,rfl⟩)),noCyc45,rfl⟩)
theorem fault45_uniq {r:Int} (h:PFault ex45 L45 True False r):r=0:=h.uniq fault45 Iff.rfl Iff.rfl
theorem pcutL45 {l:List Nat}:PCutL ex45 L45 l↔l=[0,0]∨l=[1,0]∨l=[1,1]:=by
 constructor
 ·rintro ⟨h1,h2⟩
  match l,h1 with
  | [a,b],_ =>
   have ha:a≤1:=h2.cut.le 0 (by decide)
   have hb:b≤1:=h2.cut.le 1 (by decide)
   have hp:=h2.per ((0,1),(1,1)) (List.mem_singleton.2 rfl)
   have hp':(1:Int)≤(b:Int)→(1:Int)≤(a:Int):=hp
   have ca:a=0∨a=1:=by omega
   have cb:b=0∨b=1:=by omega
   rcases ca with rfl | rfl <;> rcases cb with rfl | rfl
   ·exact .inl rfl
   ·exact absurd (hp' (by decide)) (by decide)
   ·exact .inr (.inl rfl)
   ·exact .inr (.inr rfl)
 ·have key : ∀ a b : Nat, a ≤ 1 → b ≤ 1 → (1 ≤ b → 1 ≤ a) → PCutL ex45 L45 [a, b] := fun a b ha hb hab => by
    refine ⟨rfl,⟨fun p hp=>?_,fun x _ _ h=>absurd (show (1:Int)=3 from h) (by decide)⟩,fun s hs hto=>?_⟩
    ·rcases lt2R hp with rfl | rfl
     ·exact ha
     ·exact hb
    ·obtain rfl:=List.mem_singleton.1 hs
     have h1:(1:Int)≤((b:Nat):Int):=hto
     show (1:Int)≤((a:Nat):Int)
     have:=hab (by omega)
     omega
  rintro (rfl | rfl | rfl)
  ·exact key 0 0 (by decide) (by decide) (by decide)
  ·exact key 1 0 (by decide) (by decide) (by decide)
  ·exact key 1 1 (by decide) (by decide) (by decide)
theorem sorted_uniqR {α:Type} {r:α→α→Prop} (irr:∀ a,¬r a a) (tr:∀ a b c,r a b→r b c→r a c):∀ {l m:List α},l.Pairwise r→m.Pairwise r→(∀ x,x∈l↔x∈m)→l=m
 | [],[],_,_,_ => rfl
 | [],b :: m,_,_,h => by have:=(h b).2 List.mem_cons_self;cases this
 | a :: l,[],_,_,h => by have:=(h a).1 List.mem_cons_self;cases this
 | a :: l,b :: m,hl,hm,h => by
  rw [List.pairwise_cons] at hl hm
  have hab:a=b:=by
   rcases List.mem_cons.1 ((h a).1 List.mem_cons_self) with e | ha
   ·exact e
   ·rcases List.mem_cons.1 ((h b).2 List.mem_cons_self) with e | hb
    ·exact e.symm
    ·exact absurd (tr _ _ _ (hm.1 a ha) (hl.1 b hb)) (irr _)
  subst hab
  rw [sorted_uniqR irr tr hl.2 hm.2 fun x=>?_]
  constructor
  ·intro hx
   rcases List.mem_cons.1 ((h x).1 (List.mem_cons_of_mem _ hx)) with e | hx'
   ·subst e;exact absurd (hl.1 x hx) (irr _)
   ·exact hx'
  ·intro hx
   rcases List.mem_cons.1 ((h x).2 (List.mem_cons_of_mem _ hx)) with e | hx'
   ·subst e;exact absurd (hm.1 x hx) (irr _)
   ·exact hx'
theorem IsPCuts.uniq {T:Tr} {L:List Syn} {M N:List (List Nat)} (h:IsPCuts T L M) (k:IsPCuts T L N):M=N:=
 sorted_uniqR (r:=fun a b:List Nat=>befP T.n (fn a) (fn b)) (fun _=>befP_irrefl _ _) (fun _ _ _ h1 h2=>befP_trans h1 h2) h.1 k.1 fun x=>(h.2 x).trans (k.2 x).symm
theorem cuts45:IsPCuts ex45 L45 [[0,0],[1,0],[1,1]]:=by
 refine ⟨?_,fun l=>?_⟩
 ·rw [List.pairwise_cons,List.pairwise_cons,List.pairwise_cons]
  refine ⟨fun a ha=>?_,fun a ha=>?_,fun a ha=>(by cases ha),List.Pairwise.nil⟩
  ·simp at ha
   rcases ha with rfl | rfl
   ·exact .inl (by decide)
   ·exact .inl (by decide)
  ·simp at ha
   subst ha
   exact .inl (by decide)
 ·rw [pcutL45];simp
theorem few45 {M:List (List Nat)} (h1:M.Pairwise (fun a b=>befP ex45.n (fn a) (fn b))) (h2:∀ l∈M,PCutL ex45 L45 l):M.length≤3:=by
 match M,h1,h2 with
 | [],_,_ => simp
 | [_],_,_ => simp
 | [_,_],_,_ => simp
 | [_,_,_],_,_ => simp
 | a :: b :: c :: d :: r,h1,h2 =>
  exfalso
  have irr:∀ x,¬befP ex45.n (fn x) (fn x):=fun _=>befP_irrefl _ _
  rw [List.pairwise_cons,List.pairwise_cons,List.pairwise_cons] at h1
  obtain ⟨p1,p2,p3,_⟩:=h1
  have nab:a≠b:=fun e=>irr b (by have:=p1 b (by simp);rw [e] at this;exact this)
  have nac:a≠c:=fun e=>irr c (by have:=p1 c (by simp);rw [e] at this;exact this)
  have nad:a≠d:=fun e=>irr d (by have:=p1 d (by simp);rw [e] at this;exact this)
  have nbc:b≠c:=fun e=>irr c (by have:=p2 c (by simp);rw [e] at this;exact this)
  have nbd:b≠d:=fun e=>irr d (by have:=p2 d (by simp);rw [e] at this;exact this)
  have ncd:c≠d:=fun e=>irr d (by have:=p3 d (by simp);rw [e] at this;exact this)
  have ha:=pcutL45.1 (h2 a (by simp))
  have hb:=pcutL45.1 (h2 b (by simp))
  have hc:=pcutL45.1 (h2 c (by simp))
  have hd:=pcutL45.1 (h2 d (by simp))
  rcases ha with rfl | rfl | rfl <;> rcases hb with rfl | rfl | rfl <;> rcases hc with rfl | rfl | rfl <;> rcases hd with rfl | rfl | rfl <;> first | exact nab rfl | exact nac rfl | exact nad rfl | exact nbc rfl | exact nbd rfl | exact ncd rfl
theorem nd45:ex45.ndL L45 1=L45:=by
 have h:ex45.Ndd L45 0:=by
  refine ⟨((0,1),(1,1)),rfl,?_,?_,by simp⟩
  ·rw [show nnOf ((0,1):Int × Int)=(0,0) from rfl,fw45 (0,0) ⟨by decide,by decide⟩];simp
  ·rintro ⟨a,ha,_⟩
   have h1:=List.mem_filter.1 ha
   obtain ⟨_,rfl⟩:=(gr45 (x:=(0,0)) ⟨by decide,by decide⟩).1 h1.1
   exact absurd h1.2 (by decide)
 rw [ndL_yes h rfl];rfl
theorem free45:ex45.Free 0:=eR_ind (by unfold Tr.Hit;decide) (by unfold Tr.Hit;decide)
theorem freeL45:∀ m,∃ F,ex45.freeL (m+1)=0 :: F
 | 0 => ⟨[],by rw [freeL_yes free45];rfl⟩
 | m+1 => by
  obtain ⟨F,hF⟩:=freeL45 m
  unfold Tr.freeL
  rw [hF]
  exact ⟨_,rfl⟩
def want45:Tr where
 n:=2
 name k:=if k=0 then ⟨#[112]⟩ else ⟨#[113]⟩
 vn _:=0
 vname _ _:=⟨#[]⟩
 vinit _ _:=0
 en _:=2
 kind k i:=if k=0 then (if i=0 then 1 else 2) else (if i=0 then 3 else 1)
 peer k i:=if k=0 then (if i=0 then 0 else 1) else 0
 msg _ _:=0
 time k _:=if k=0 then 2 else 7
 an _ _:=0
 avar _ _ _:=0
 aval _ _ _:=0
theorem apl45 (F:List Nat):ex45.apl L45 (0 :: F) 0 1=[.inl 0,.inr (2,1,0,2)]∧ex45.apl L45 (0 :: F) 1 1=[.inr (3,0,0,7),.inl 0]:=⟨rfl,rfl⟩
theorem big45 {F:List Nat}:¬ex45.AplBig L45 (0 :: F):=by
 rintro (h | ⟨p,hp,h⟩)
 ·simp [L45] at h
 ·rcases lt2R hp with rfl | rfl
  ·have h2:(ex45.apl L45 (0 :: F) 0 1).length=2:=by rw [(apl45 F).1];rfl
   have h3:64<(ex45.apl L45 (0 :: F) 0 1).length:=h
   omega
  ·have h2:(ex45.apl L45 (0 :: F) 1 1).length=2:=by rw [(apl45 F).2];rfl
   have h3:64<(ex45.apl L45 (0 :: F) 1 1).length:=h
   omega
theorem same45 (F:List Nat):SameTr (ex45.aplTr L45 (0 :: F)) want45:=by
 refine ⟨rfl,fun p hp=>?_⟩
 rcases lt2R hp with rfl | rfl
 ·refine ⟨rfl,rfl,rfl,fun i hi=>absurd hi (Nat.not_lt_zero _),fun i hi=>?_⟩
  have hi':i<2:=hi
  rcases lt2R hi' with rfl | rfl
  ·exact ⟨rfl,rfl,rfl,rfl,rfl,fun l hl=>absurd hl (Nat.not_lt_zero _)⟩
  ·exact ⟨rfl,rfl,rfl,rfl,rfl,fun l hl=>absurd hl (Nat.not_lt_zero _)⟩
 ·refine ⟨rfl,rfl,rfl,fun i hi=>absurd hi (Nat.not_lt_zero _),fun i hi=>?_⟩
  have hi':i<2:=hi
  rcases lt2R hi' with rfl | rfl
  ·exact ⟨rfl,rfl,rfl,rfl,rfl,fun l hl=>absurd hl (Nat.not_lt_zero _)⟩
  ·exact ⟨rfl,rfl,rfl,rfl,rfl,fun l hl=>absurd hl (Nat.not_lt_zero _)⟩
def twoTM (T:Tr) (g0 g1 gp:Nat) (c:Nat):TM:=
 { T with
  a:=some ⟨gp,0,none⟩,b:=gp,off:=0,cap:=2
  va:=fun _=>none,vb:=fun _=>0,vo:=fun _=>0,vc:=fun _=>0
  ea:=fun k=>if k=0 then some ⟨g0,0,none⟩ else some ⟨g1,0,none⟩,eb:=fun k=>if k=0 then g0 else g1,eo:=fun _=>0,ec:=fun _=>c
  aa:=fun _ _=>none,ab:=fun _ _=>0,ao:=fun _ _=>0,ac:=fun _ _=>0 }
theorem evs_cells {w : World} {g n : Nat} {T : Tr} {k : Nat} (h : Hold w g ((List.range n).flatMap fun i => [Value.int .i64 (T.kind k i), .int .i64 (T.peer k i), .int .i64 (T.msg k i), .int .i64 (T.time k i), .slice none 0 0]).toArray) :
    ∀ w',Ext w w'→∀ i,i<n→∀ r v,[Value.int .i64 (T.kind k i),.int .i64 (T.peer k i),.int .i64 (T.msg k i),.int .i64 (T.time k i),.slice none 0 0][r]?=some v→w'.cell? ⟨g,0+i*5+r,none⟩=some v:=by
 intro w' x i hi r v hr
 have hr5:r<5:=(List.getElem?_eq_some_iff.1 hr).1
 rw [Nat.zero_add,h.box.cell w' x,List.getElem?_toArray,flat_get (m:=5) (fun _=>rfl) hr5,range_get' hi]
 exact hr
theorem twoTM_at {T : Tr} {g0 g1 gp c : Nat} {w : World} (hn : T.n = 2) (hvn : ∀ k, T.vn k = 0) (hen : ∀ k, T.en k = c) (hc : c ≤ 140737488355328) (han : ∀ k i, T.an k i = 0) (hok : T.Ok)
    (h0:Hold w g0 ((List.range c).flatMap fun i=>[Value.int .i64 (T.kind 0 i),.int .i64 (T.peer 0 i),.int .i64 (T.msg 0 i),.int .i64 (T.time 0 i),.slice none 0 0]).toArray)
    (h1:Hold w g1 ((List.range c).flatMap fun i=>[Value.int .i64 (T.kind 1 i),.int .i64 (T.peer 1 i),.int .i64 (T.msg 1 i),.int .i64 (T.time 1 i),.slice none 0 0]).toArray)
    (hp:Hold w gp #[.string (T.name 0),.slice none 0 0,.slice (some ⟨g0,0,none⟩) c c,.string (T.name 1),.slice none 0 0,.slice (some ⟨g1,0,none⟩) c c]):(twoTM T g0 g1 gp c).At w:=by
 have b0:=h0.box
 have b1:=h1.box
 have bp:=hp.box
 have hk2:∀ k,k<(twoTM T g0 g1 gp c).n→k=0∨k=1:=fun k hk=>lt2R (by rw [←hn];exact hk)
 have hie:∀ k i,i<(twoTM T g0 g1 gp c).en k→i<c:=fun k i hi=>by rw [←hen k];exact hi
 have hva:∀ k i,¬i<(twoTM T g0 g1 gp c).vn k:=fun k i h=>by have h2:i<T.vn k:=h;rw [hvn] at h2;omega
 have hab:∀ k i j,¬j<(twoTM T g0 g1 gp c).an k i:=fun k i j h=>by have h2:j<T.an k i:=h;rw [han] at h2;omega
 refine ⟨⟨by show T.n≤_;omega,by show T.n≤2;omega,fun _=>rfl,fun _=>bp.lt,?_,?_,?_⟩,⟨fun k _=>by show T.vn k≤_;rw [hvn];exact Nat.zero_le _,fun k _=>by show T.vn k≤_;rw [hvn];exact Nat.zero_le _,fun k _ h=>absurd h (hva k 0),fun k _ h=>absurd h (hva k 0),fun _ _ k i _ h=>absurd h (hva k i),fun _ _ k i _ h=>absurd h (hva k i)⟩,
  ⟨fun k _=>by show T.en k≤_;rw [hen];exact hc,fun k _=>by show T.en k≤c;rw [hen];exact Nat.le_refl _,?_,?_,?_,?_,?_,?_,?_⟩,⟨fun k i _ _=>by show T.an k i≤_;rw [han];exact Nat.zero_le _,fun k i _ _=>by show T.an k i≤_;rw [han];exact Nat.zero_le _,fun k i _ _ h=>absurd h (hab k i 0),fun k i _ _ h=>absurd h (hab k i 0),fun _ _ k i j _ _ h=>absurd h (hab k i j),fun _ _ k i j _ _ h=>absurd h (hab k i j)⟩,hok⟩
 ·intro w' x k hk
  rcases hk2 k hk with rfl | rfl
  ·exact bp.cell w' x 0
  ·exact bp.cell w' x 3
 ·intro w' x k hk
  rcases hk2 k hk with rfl | rfl
  ·have:=bp.cell w' x 1
   show _=some (Value.slice none (T.vn 0) 0)
   rw [hvn];exact this
  ·have:=bp.cell w' x 4
   show _=some (Value.slice none (T.vn 1) 0)
   rw [hvn];exact this
 ·intro w' x k hk
  rcases hk2 k hk with rfl | rfl
  ·have:=bp.cell w' x 2
   show _=some (Value.slice (some ⟨g0,0,none⟩) (T.en 0) c)
   rw [hen];exact this
  ·have:=bp.cell w' x 5
   show _=some (Value.slice (some ⟨g1,0,none⟩) (T.en 1) c)
   rw [hen];exact this
 ·intro k hk _
  rcases hk2 k hk with rfl | rfl <;> rfl
 ·intro k hk _
  rcases hk2 k hk with rfl | rfl
  ·exact b0.lt
  ·exact b1.lt
 ·intro w' x k i hk hi
  rcases hk2 k hk with rfl | rfl
  ·exact evs_cells h0 w' x i (hie 0 i hi) 0 _ rfl
  ·exact evs_cells h1 w' x i (hie 1 i hi) 0 _ rfl
 ·intro w' x k i hk hi
  rcases hk2 k hk with rfl | rfl
  ·exact evs_cells h0 w' x i (hie 0 i hi) 1 _ rfl
  ·exact evs_cells h1 w' x i (hie 1 i hi) 1 _ rfl
 ·intro w' x k i hk hi
  rcases hk2 k hk with rfl | rfl
  ·exact evs_cells h0 w' x i (hie 0 i hi) 2 _ rfl
  ·exact evs_cells h1 w' x i (hie 1 i hi) 2 _ rfl
 ·intro w' x k i hk hi
  rcases hk2 k hk with rfl | rfl
  ·exact evs_cells h0 w' x i (hie 0 i hi) 3 _ rfl
  ·exact evs_cells h1 w' x i (hie 1 i hi) 3 _ rfl
 ·intro w' x k i hk hi
  show _=some (Value.slice none (T.an k i) 0)
  rw [han]
  rcases hk2 k hk with rfl | rfl
  ·exact evs_cells h0 w' x i (hie 0 i hi) 4 _ rfl
  ·exact evs_cells h1 w' x i (hie 1 i hi) 4 _ rfl
theorem ok45 {T:Tr} (hvn:∀ k,T.vn k=0) (han:∀ k i,T.an k i=0) (hnm:∀ k,(T.name k).size≤9) (h:∀ k i,okI (T.kind k i)∧okI (T.peer k i)∧okI (T.msg k i)∧okI (T.time k i)):T.Ok:=
 ⟨fun k _=>by have:=hnm k;omega,fun k i _ h=>by rw [hvn] at h;omega,fun k i _ h=>by rw [hvn] at h;omega,fun k i _ _=>(h k i).1,fun k i _ _=>(h k i).2.1,fun k i _ _=>(h k i).2.2.1,fun k i _ _=>(h k i).2.2.2,fun k i j _ _ h=>by rw [han] at h;omega,fun k i j _ _ h=>by rw [han] at h;omega⟩
end Go.Proofs.YtkhgpockmaghjaaGreat

namespace Go.Proofs.YtkhgpockmaghjaaGreat
open Go.ChangeShapes Go.WideShapes Go.RowKit Go.Deep
theorem cellsOf_evid:Tryz.prog.cellsOf 79=2:=by kernel_rfl
theorem cellsOf_sync:Tryz.prog.cellsOf 81=4:=by kernel_rfl
theorem bytesOf_sync:Tryz.prog.bytesOf 81=32:=by kernel_rfl
section
variable {H:Type} {enc:TypeId × Value→H} {w:World} {base:Nat} {held:Bool} {fuel:Nat} {cs:List Value} {x:DataW H × List MemPlace}
theorem list_two {α:Type}:∀ {l:List α},l.length=2→∃ a b,l=[a,b]
 | [a,b],_ => ⟨a,b,rfl⟩
theorem list_four {α:Type}:∀ {l:List α},l.length=4→∃ a b c d,l=[a,b,c,d]
 | [a,b,c,d],_ => ⟨a,b,c,d,rfl⟩
theorem open_evid (h:DataW.trod enc Tryz.prog w base (fun _=>true) held fuel 79 cs=some x):∃ a b:Int,cs=[.int .i64 a,.int .i64 b]∧okI a∧okI b:=by
 obtain ⟨ys,n,_,rfl,hlen,hyl,hf⟩:=DataW.trod_struct Tryz.underlying79 h
 rw [cellsOf_evid] at hlen
 have f0:DataW.trod enc Tryz.prog w base (fun _=>true) held n 3 ((cs.drop 0).take (Tryz.prog.cellsOf 3))=ys[0]?:=hf 0 _ rfl
 have f1:DataW.trod enc Tryz.prog w base (fun _=>true) held n 3 ((cs.drop 1).take (Tryz.prog.cellsOf 3))=ys[1]?:=hf 1 _ rfl
 rw [cellsOf_int] at f0 f1
 clear hf h
 obtain ⟨c0,c1,rfl⟩:=list_two hlen
 have l0:(0:Nat)<ys.length:=by rw [hyl];decide
 have l1:(1:Nat)<ys.length:=by rw [hyl];decide
 rw [List.getElem?_eq_getElem l0] at f0
 rw [List.getElem?_eq_getElem l1] at f1
 obtain ⟨a,ea,ha⟩:=open_okI f0
 obtain ⟨b,eb,hb⟩:=open_okI f1
 simp at ea eb
 exact ⟨a,b,by rw [ea,eb],ha,hb⟩
theorem open_sync1 (h:DataW.trod enc Tryz.prog w base (fun _=>true) held fuel 81 cs=some x):∃ a b:Int × Int,cs=[.int .i64 a.1,.int .i64 a.2,.int .i64 b.1,.int .i64 b.2]∧okI a.1∧okI a.2∧okI b.1∧okI b.2:=by
 obtain ⟨ys,n,_,rfl,hlen,hyl,hf⟩:=DataW.trod_struct Tryz.underlying81 h
 rw [cellsOf_sync] at hlen
 have f0:DataW.trod enc Tryz.prog w base (fun _=>true) held n 79 ((cs.drop 0).take (Tryz.prog.cellsOf 79))=ys[0]?:=hf 0 _ rfl
 have f1:DataW.trod enc Tryz.prog w base (fun _=>true) held n 79 ((cs.drop 2).take (Tryz.prog.cellsOf 79))=ys[1]?:=hf 1 _ rfl
 rw [cellsOf_evid] at f0 f1
 clear hf h
 obtain ⟨c0,c1,c2,c3,rfl⟩:=list_four hlen
 have l0:(0:Nat)<ys.length:=by rw [hyl];decide
 have l1:(1:Nat)<ys.length:=by rw [hyl];decide
 rw [List.getElem?_eq_getElem l0] at f0
 rw [List.getElem?_eq_getElem l1] at f1
 obtain ⟨a,b,ea,ha,hb⟩:=open_evid f0
 obtain ⟨c,d,eb,hc,hd⟩:=open_evid f1
 simp at ea eb
 exact ⟨(a,b),(c,d),by rw [ea.1,ea.2,eb.1,eb.2],ha,hb,hc,hd⟩
theorem open_syncs (h:DataW.trod enc Tryz.prog w base (fun _=>true) held fuel 25 cs=some x) (hs:Small Tryz.prog 25 x.1):∃ d:SyD,cs=[d.s.v]∧d.At w:=by
 obtain ⟨a,b,off,len,cap,h1,h2,h3,h4,h5⟩:=open_any Tryz.underlying25 (by rw [cellsOf_sync];decide) h hs
 rw [bytesOf_sync] at h3
 rw [cellsOf_sync] at h5
 have f0:=choose_lt (p:=fun i (y:Syn)=>(∀ j,j<4→w.cell? ⟨b,off+(i*4+j),none⟩=[Value.int .i64 y.1.1,.int .i64 y.1.2,.int .i64 y.2.1,.int .i64 y.2.2][j]?)∧okI y.1.1∧okI y.1.2∧okI y.2.1∧okI y.2.2) fun i hi=>by
  obtain ⟨cs',n,y,q1,q2,q3,q4⟩:=h5 i hi
  obtain ⟨a',b',e,k1,k2,k3,k4⟩:=open_sync1 q3
  subst e
  exact ⟨(a',b'),q2,k1,k2,k3,k4⟩
 obtain ⟨f,g⟩:=f0
 have hS:=SlD.of (w:=w) h2 h3 (by decide) h4
 exact ⟨⟨⟨a,len,cap,b,off⟩,fun i=>(f i).1,fun i=>(f i).2⟩,h1,⟨hS.hn,hS.ha,hS.hb,fun i hi=>(g i hi).1 0 (by decide),fun i hi=>(g i hi).1 1 (by decide),fun i hi=>(g i hi).1 2 (by decide),fun i hi=>(g i hi).1 3 (by decide),fun i hi=>(g i hi).2,h2⟩⟩
end
section
variable {H:Type} {enc:TypeId × Value→H} {W:World}
theorem arg_syncs {r : Reach} {b0 : Nat} {v : Value} {d : DataW H} {p : List MemPlace} (hv : Value.okWide Tryz.prog W r b0 25 v) (h : DataW.Trod enc Tryz.prog W 0 (fun _ => true) true 25 v d p) (hs : Small Tryz.prog 25 d) :
    ∃ D:SyD,v=.slice D.s.a D.s.n D.s.c∧D.At W:=by
 obtain ⟨a0,len,cap,rfl⟩:=okWide_slice Tryz.underlying25 hv
 obtain ⟨fuel,hf⟩:=h
 obtain ⟨D,e,hD⟩:=open_syncs (x:=(d,p)) hf hs
 refine ⟨D,?_,hD⟩
 simpa [Value.cells] using e
end
end Go.Proofs.YtkhgpockmaghjaaGreat

namespace Go.Proofs.YtkhgpockmaghjaaGreat
open Go.RowKit Go.Shelf
theorem Hold.que {w:World} {g n size:Nat} {xs:List Value} (h:Hold w g xs.toArray) (hl:xs.length=n*size) (hn:n≤maxLen):Que w 0 size (.slice (some ⟨g,0,none⟩) n n) n xs:=by
 have b:=h.box
 refine ⟨hl,.inr ⟨g,0,n,rfl,Nat.zero_le _,h.lt,Nat.le_refl _,hn,fun j hj=>?_,fun j hj=>⟨?_,?_⟩⟩⟩
 ·rw [Nat.zero_add,b.cell w (Ext.refl _)];simp
 ·rw [Nat.zero_add,b.cell w (Ext.refl _),Array.getElem?_eq_getElem (by simp;rw [hl];exact hj)];rfl
 ·exact b.frozen w (Ext.refl _) _
theorem Hold.row {w:World} {g a b:Nat} (h:Hold w g #[.int .i64 (a:Int),.int .i64 (b:Int)]):Row.At ⟨[a,b],some ⟨g,0,none⟩,g,0,2⟩ w:=by
 refine ⟨by show (2:Nat)≤_;decide,fun _=>rfl,fun _=>h.lt,fun k hk=>?_⟩
 have hk':k<2:=hk
 rw [Nat.zero_add]
 rcases lt2R hk' with rfl | rfl
 ·exact h.cell0 0
 ·exact h.cell0 1
theorem ex45_ok:ex45.Ok:=ok45 (fun _=>rfl) (fun _ _=>rfl) (fun k=>by show (if k=0 then (⟨#[112]⟩:ByteArray) else ⟨#[113]⟩).size≤9;split <;> decide) (fun k i=>⟨by show okI 1;unfold okI;decide,by show okI 0;unfold okI;decide,by show okI 0;unfold okI;decide,by show okI (if k=0 then 2 else 7);split <;> (unfold okI;decide)⟩)
theorem want45_ok:want45.Ok:=ok45 (fun _=>rfl) (fun _ _=>rfl) (fun k=>by show (if k=0 then (⟨#[112]⟩:ByteArray) else ⟨#[113]⟩).size≤9;split <;> decide) (fun k i=>⟨by show okI (if k=0 then (if i=0 then 1 else 2) else (if i=0 then 3 else 1));split <;> split <;> (unfold okI;decide),by show okI (if k=0 then (if i=0 then 0 else 1) else 0);split <;> first | (split <;> (unfold okI;decide)) | (unfold okI;decide),by show okI 0;unfold okI;decide,by show okI (if k=0 then 2 else 7);split <;> (unfold okI;decide)⟩)
theorem syD45_at {g:Nat} {w:World} (h:Hold w g #[.int .i64 0,.int .i64 1,.int .i64 1,.int .i64 1]):(⟨⟨some ⟨g,0,none⟩,1,1,g,0⟩,fun _=>(0,1),fun _=>(1,1)⟩:SyD).At w:=by
 have i0:∀ i,i<1→i=0:=fun i h=>by omega
 refine ⟨by show (1:Nat)≤_;decide,fun _=>rfl,fun _=>h.lt,fun i hi=>?_,fun i hi=>?_,fun i hi=>?_,fun i hi=>?_,fun i _=>⟨by show okI 0;unfold okI;decide,by show okI 1;unfold okI;decide,by show okI 1;unfold okI;decide,by show okI 1;unfold okI;decide⟩,Nat.le_refl _⟩
 ·obtain rfl:=i0 i hi;exact h.cell0 0
 ·obtain rfl:=i0 i hi;exact h.cell0 1
 ·obtain rfl:=i0 i hi;exact h.cell0 2
 ·obtain rfl:=i0 i hi;exact h.cell0 3
theorem excuts_any (w : World) (T : TM) (hT : T.At w) (e : T.toTr = ex45) (D : SyD) (hD : D.At w) (hl : D.l = L45) :
    Calls Tryz.prog 25 #[T.val,.slice D.s.a D.s.n D.s.c] w fun r w'=>Ext w w'∧∃ (a:Option Addr) (c:Nat) (R:List Row),r=.returned (.tuple #[.slice a 3 c,.int .i64 0])∧RowsQ w' w.heap.size (.slice a 3 c) R∧R.map Row.l=[[0,0],[1,0],[1,1]]:=
 (pcuts_any w T hT (by rw [show T.n=2 from congrArg Tr.n e];decide) D hD).mono fun r w' ⟨hx,h⟩=>by
  rw [e,hl] at h
  rcases h with ⟨q,h1,h2,_⟩ | ⟨_,⟨v,R,h1,h2,h3,_⟩ | ⟨_,M,h2,h3,h4⟩⟩
  ·exact absurd (fault45_uniq h1) h2
  ·obtain ⟨a,c,rfl⟩:=h2.1.slice
   have h5:=h3.uniq cuts45
   have h6:R.length=3:=by have:=congrArg List.length h5;simpa using this
   rw [h6] at h1 h2
   exact ⟨hx,a,c,R,h1,h2,h5⟩
  ·have:=few45 h2 h3;omega
theorem exapply_any (w : World) (T : TM) (hT : T.At w) (e : T.toTr = ex45) (D : SyD) (hD : D.At w) (hl : D.l = L45) :
    Calls Tryz.prog 12 #[T.val,.slice D.s.a D.s.n D.s.c] w fun r w'=>Ext w w'∧∃ U:TM,U.At w'∧r=.returned (.tuple #[U.val,.int .i64 0])∧SameTr U.toTr want45:=
 (papply_any w T hT (by rw [show T.n=2 from congrArg Tr.n e];decide) D hD).mono fun r w' ⟨hx,h⟩=>by
  rw [e,hl,show L45.length=1 from rfl,nd45] at h
  obtain ⟨F,hF⟩:=freeL45 199
  rw [hF] at h
  rcases h with ⟨q,h1,h2,_⟩ | ⟨_,⟨h2,_⟩ | ⟨_,U,h2,h3,h4⟩⟩
  ·exact absurd (fault45_uniq h1) h2
  ·exact absurd h2 big45
  ·exact ⟨hx,U,h2,h4,by rw [h3];exact same45 F⟩
set_option maxHeartbeats 4000000 in
theorem awake45_any (w:World):Calls Tryz.prog 9 #[] w fun e w'=>e=.returned (.bool true)∧Ext w w':=by
 go_enter Tryz.func9,Tryz.ntmps9
 go_upto_region 2 with fail
 refine boxed4 (w:=w) (G:=fun x=>Code.wp _ _ _ _ x) ?_
 intro w1 hx1 hs1 ⟨_,_,_,k0⟩ ⟨_,_,_,k1⟩ ⟨_,_,_,k2⟩ ⟨l3,c3,_,_⟩
 have hA1:=Lib.hid (show (twoTM ex45 w.heap.size (w.heap.size+1) (w.heap.size+1+1) 1).At w1 from twoTM_at rfl (fun _=>rfl) (fun _=>rfl) (by decide) (fun _ _=>rfl) ex45_ok k0 k1 k2)
 have h11:Ext w1 w1:=Ext.refl _
 clear k0 k1 k2 hs1
 go_upto_region 3 with fail
 refine boxed1 (w:=w1) (G:=fun x=>Code.wp _ _ _ _ x) ?_
 intro w2 hx2 hs2 ⟨_,_,_,k4⟩
 have hD2:=Lib.hid (syD45_at (show Hold w2 w1.heap.size _ from k4))
 clear k4 hs2
 obtain ⟨gs,hgs⟩:∃ z,z=w1.heap.size:=⟨_,rfl⟩
 rw [←hgs] at hD2 ⊢
 clear hgs
 have hc:=excuts_any w2 (twoTM ex45 w.heap.size (w.heap.size+1) (w.heap.size+1+1) 1) (hA1.out.ext hx2) rfl _ hD2.out rfl
 go_wp2_with fail
 go_at_call 25
 refine Calls.mono (show Calls _ _ #[.agg #[.slice (some ⟨w.heap.size+1+1,0,none⟩) 2 2],.slice (some ⟨gs,0,none⟩) 1 1] _ _ from hc) ?_
 rintro e w3 ⟨hx3,a3,n3,R,rfl,hR,hRl⟩
 have HR:=Lib.hid (And.intro hR hRl)
 have hx13:=hx2.trans hx3
 clear hR hRl hc
 have hc:=exapply_any w3 (twoTM ex45 w.heap.size (w.heap.size+1) (w.heap.size+1+1) 1) (hA1.out.ext hx13) rfl _ (hD2.out.ext hx3) rfl
 go_wp2_with fail
 go_at_call 12
 refine Calls.mono (show Calls _ _ #[.agg #[.slice (some ⟨w.heap.size+1+1,0,none⟩) 2 2],.slice (some ⟨gs,0,none⟩) 1 1] _ _ from hc) ?_
 rintro e w4 ⟨hx4,U,hU,rfl,hS⟩
 have HU:=Lib.hid (And.intro hU hS)
 have hx14:=hx13.trans hx4
 have hxw4:=hx1.trans hx14
 have HX4:=Lib.hid hx4
 obtain ⟨ua,hua⟩:∃ z,z=U.a:=⟨_,rfl⟩
 obtain ⟨un,hun⟩:∃ z,z=U.n:=⟨_,rfl⟩
 simp only [TM.val,←hua,←hun]
 have HUA:=Lib.hid (And.intro hua hun)
 clear hU hS hc l3 c3 h11 hx4 hx3 hx2 hx13 hua hun
 go_upto_region 5 with fail
 refine boxed1 (w:=w4) (G:=fun x=>Code.wp _ _ _ _ x) ?_
 intro w5 hx5 hs5 ⟨l5,c5,_,_⟩
 have h55:Ext w5 w5:=Ext.refl _
 clear hs5
 go_upto_region 6 with fail
 refine boxed4 (w:=w5) (G:=fun x=>Code.wp _ _ _ _ x) ?_
 intro w6 hx6 hs6 ⟨_,_,_,k0⟩ ⟨_,_,_,k1⟩ ⟨_,_,_,k2⟩ ⟨l6,c6,_,_⟩
 have HW:=Lib.hid (show (twoTM want45 w5.heap.size (w5.heap.size+1) (w5.heap.size+1+1) 2).At w6 from twoTM_at rfl (fun _=>rfl) (fun _=>rfl) (by decide) (fun _ _=>rfl) want45_ok k0 k1 k2)
 have h66:Ext w6 w6:=Ext.refl _
 clear k0 k1 k2 hs6
 obtain ⟨gp,hgp⟩:∃ z,z=w5.heap.size:=⟨_,rfl⟩
 rw [←hgp] at HW ⊢
 rw [←hgp] at l6 c6
 have hx46:=hx5.trans hx6
 have hxw6:=hxw4.trans hx46
 clear hgp
 go_wp2_with fail
 go_at_call 28
 refine boxed4 (w:=w6) (G:=fun x=>Calls _ _ _ x _) ?_
 intro w7 hx7 hs7 ⟨_,_,_,k0⟩ ⟨_,_,_,k1⟩ ⟨_,_,_,k2⟩ ⟨_,_,_,k3⟩
 have hr0:=Hold.row (a:=0) (b:=0) (show Hold w7 w6.heap.size _ from k0)
 have hr1:=Hold.row (a:=1) (b:=0) (show Hold w7 (w6.heap.size+1) _ from k1)
 have hr2:=Hold.row (a:=1) (b:=1) (show Hold w7 (w6.heap.size+1+1) _ from k2)
 have hq:=Hold.que (n:=3) (size:=1) (xs:=[.slice (some ⟨w6.heap.size,0,none⟩) 2 2,.slice (some ⟨w6.heap.size+1,0,none⟩) 2 2,.slice (some ⟨w6.heap.size+1+1,0,none⟩) 2 2]) (show Hold w7 (w6.heap.size+1+1+1) _ from k3) rfl (by unfold maxLen;decide)
 have hq:Que w7 0 1 (.slice (some ⟨w6.heap.size+1+1+1,0,none⟩) 3 3) 3 _:=hq
 have hRL:=congrArg List.length HR.out.2
 rw [List.length_map] at hRL
 refine (rsames_any w7 (.slice a3 3 n3) (.slice (some ⟨w6.heap.size+1+1+1,0,none⟩) 3 3) w2.heap.size 0 R [⟨[0,0],some ⟨w6.heap.size,0,none⟩,w6.heap.size,0,2⟩,⟨[1,0],some ⟨w6.heap.size+1,0,none⟩,w6.heap.size+1,0,2⟩,⟨[1,1],some ⟨w6.heap.size+1+1,0,none⟩,w6.heap.size+1+1,0,2⟩] (HR.out.1.ext (HX4.out.trans (hx46.trans hx7))) ⟨hq,fun r hr=>?_⟩ (by rw [hRL];decide) (by simp)).mono ?_
 ·simp at hr
  rcases hr with rfl | rfl | rfl
  ·exact hr0
  ·exact hr1
  ·exact hr2
 rintro e w8 ⟨b8,rfl,hb8,hx8⟩
 obtain rfl:b8=true:=hb8.2 HR.out.2
 have hx68:=hx7.trans hx8
 have hx58:=hx6.trans hx68
 have hxw8:=hxw6.trans hx68
 clear hb8 k0 k1 k2 k3 hr0 hr1 hr2 hq hRL hs7 hx7 hx8
 have hsm:=rsametr_any w8 U (twoTM want45 gp (gp+1) (gp+1+1) 2) (HU.out.1.ext (hx46.trans hx68)) (HW.out.ext hx68)
 simp only [TM.val] at hsm
 rw [←HUA.out.1,←HUA.out.2] at hsm
 go_wp2_with fail
 go_at_call 14
 refine Calls.mono (show Calls _ _ #[.agg #[.slice ua un U.cap],.agg #[.slice (some ⟨gp+1+1,0,none⟩) 2 2]] _ _ from hsm) ?_
 rintro e w9 ⟨b9,rfl,hb9,hx9⟩
 obtain rfl:b9=true:=hb9.2 HU.out.2
 have hxw9:=hxw8.trans hx9
 clear hb9 hsm
 go_wp2_with fail
 go_ret
 exact ⟨rfl,hxw9⟩
end Go.Proofs.YtkhgpockmaghjaaGreat
