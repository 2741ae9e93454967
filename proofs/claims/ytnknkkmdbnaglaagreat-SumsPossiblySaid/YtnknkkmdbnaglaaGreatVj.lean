/- Contracts and laws in plain Lean for SPos: group Vj. -/
import Derived.Test.YtnknkkmdbnaglaaGreatVi
import Derived.Test.YtnknkkmdbnaglaaGreatVe
import Derived.Test.YtnknkkmdbnaglaaGreatVa
namespace Go.Proofs.YtnknkkmdbnaglaaGreat
open Go.RowKit Go.Shelf
def EqX (T:TM) (D:TmD) (k:Int):EqQ:=fun B m h kd a l c er w'=>(UnitW (T.wfn D.l) (tott T.en T.n)∧EqU T (T.sumAt D.l fun _=>0) (T.wfn D.l) k B m h kd a l c er w')∨
 (¬UnitW (T.wfn D.l) (tott T.en T.n)∧EqN T (T.sumAt D.l fun _=>0) (T.wfn D.l) k B m h kd a l c er w')
theorem EqX.put8 {T : TM} {D : TmD} {k : Int} (B : Nat) (m : Int) (h : Bool) (kd : Int) (a : Option Addr) (l c : Nat) (er : Int) (w1 : World) (b1 : Nat) (v0 v1 v2 v3 v4 v5 v6 v7 : Value) (hb : b1 < B) (hq : EqX T D k B m h kd a l c er w1) :
    EqX T D k B m h kd a l c er (Go.Proofs.YtnknkkmdbnaglaaGreat.put8 w1 b1 v0 v1 v2 v3 v4 v5 v6 v7):=by
 rcases hq with ⟨hu,hq⟩ | ⟨hu,hq⟩
 ·exact .inl ⟨hu,EqU.put8 _ _ _ _ _ _ _ _ _ _ _ _ _ _ _ _ _ _ hb hq⟩
 ·exact .inr ⟨hu,EqN.put8 _ _ _ _ _ _ _ _ _ _ _ _ _ _ _ _ _ _ hb hq⟩
theorem sposx_any (w : World) (T : TM) (hT : T.At w) (D : TmD) (hD : D.At w) (op k : Int) :
    Calls Tryz.prog 71 #[T.val,.slice D.s.a D.s.n D.s.c,.int .i64 op,.int .i64 k] w (SpossPost T D op k (EqX T D k) w):=
 sposs_any w T hT D hD op k (EqX T D k) (fun hO wa wg wo wc W' hS=>by
  by_cases hu:UnitW (T.wfn D.l) (tott T.en T.n)
  ·exact (sequ_any W' (sumOf T D wa wg wo wc) hS k hu).mono fun e w' ⟨hx,m,h,kd,a,l,c,er,he,hq⟩=>⟨hx,m,h,kd,a,l,c,er,he,.inl ⟨hu,hq⟩⟩
  ·exact (seqn_any W' (sumOf T D wa wg wo wc) hS k hu D.s.a D.s.n D.s.c rfl).mono fun e w' ⟨hx,m,h,kd,a,l,c,er,he,hq⟩=>⟨hx,m,h,kd,a,l,c,er,he,.inr ⟨hu,hq⟩⟩) EqX.put8
theorem sorted_uniq {α:Type} {r:α→α→Prop} (irr:∀ a,¬r a a) (tr:∀ a b c,r a b→r b c→r a c):∀ {l m:List α},l.Pairwise r→m.Pairwise r→(∀ x,x∈l↔x∈m)→l=m
 | [],[],_,_,_ => rfl
 | [],b :: m,_,_,h => absurd ((h b).2 List.mem_cons_self) (by simp)
 | a :: l,[],_,_,h => absurd ((h a).1 List.mem_cons_self) (by simp)
 | a :: l,b :: m,h1,h2,h => by
  rw [List.pairwise_cons] at h1 h2
  have hab:a=b:=by
   rcases List.mem_cons.1 ((h a).1 List.mem_cons_self) with e | e
   ·exact e
   ·rcases List.mem_cons.1 ((h b).2 List.mem_cons_self) with e2 | e2
    ·exact e2.symm
    ·exact absurd (tr _ _ _ (h1.1 b e2) (h2.1 a e)) (irr a)
  subst hab
  have hx:∀ x,x∈l↔x∈m:=fun x=>by
   constructor
   ·intro hx
    rcases List.mem_cons.1 ((h x).1 (List.mem_cons_of_mem _ hx)) with e | e
    ·subst e;exact absurd (h1.1 _ hx) (irr _)
    ·exact e
   ·intro hx
    rcases List.mem_cons.1 ((h x).2 (List.mem_cons_of_mem _ hx)) with e | e
    ·subst e;exact absurd (h2.1 _ hx) (irr _)
    ·exact e
  rw [sorted_uniq irr tr h1.2 h2.2 hx]
theorem IsCuts.uniq {T:Tr} {L M:List (List Nat)} (h:IsCuts T L) (k:IsCuts T M):L=M:=
 sorted_uniq (r:=fun a b:List Nat=>befP T.n (fn a) (fn b)) (fun _=>befP_irrefl _ _) (fun _ _ _ h1 h2=>befP_trans h1 h2) h.1 k.1 fun x=>(h.2 x).trans (k.2 x).symm
theorem bef_nodup {n:Nat} {L:List (List Nat)} (h:L.Pairwise fun a b=>befP n (fn a) (fn b)):L.Nodup:=h.imp fun h1 e=>by subst e;exact befP_irrefl _ _ h1
theorem IsCuts.le {T:Tr} {L M:List (List Nat)} (h:IsCuts T L) (k:M.Pairwise fun a b=>befP T.n (fn a) (fn b)) (hm:∀ l∈M,CutL T l):M.length≤L.length:=nodup_le M L (bef_nodup k) fun y hy=>(h.2 y).2 (hm y hy)
def AnsR (n:Nat) (s:(Nat→Nat)→Int) (R:List Row) (op k low high:Int) (least most:Nat→Nat) (U:Prop) (h:Bool) (kd:Int) (l:Nat) (v:Int) (u:Nat→Int):Prop:=
 (HoldsP op low k∧h=true∧kd=1∧v=0∧l=n∧∀ p,p<n→u p=least p)∨
 (¬HoldsP op low k∧(op=10∨op=9)∧HoldsP op high k∧h=true∧kd=1∧v=0∧l=n∧∀ p,p<n→u p=most p)∨
 (op=10∧¬HoldsP op low k∧¬HoldsP op high k∧h=false∧kd=5∧v=k∧l=n∧∀ p,p<n→u p=0)∨
 (op≠10∧¬HoldsP op low k∧(op=9→¬HoldsP op high k)∧(op≠9∨k<low)∧h=false∧kd=5∧v=low∧l=n∧∀ p,p<n→u p=least p)∨
 (op=9∧¬HoldsP op low k∧¬HoldsP op high k∧low≤k∧high<k∧h=false∧kd=5∧v=high∧l=n∧∀ p,p<n→u p=most p)∨
 (op=9∧low<k∧k<high∧U∧h=true∧kd=1∧v=0∧l=0)∨
 (op=9∧low<k∧k<high∧¬U∧h=true∧kd=1∧v=0∧l=n∧∃ i,i<R.length∧s (fR R i)=k∧(∀ j,j<i→s (fR R j)≠k)∧∀ p,p<n→u p=fR R i p)∨
 (op=9∧low<k∧k<high∧¬U∧h=false∧kd=6∧v=0∧l=0∧∀ j,j<R.length→s (fR R j)≠k)
theorem ans_inj {m1 m2 kd1 kd2 v1 v2 e1 e2 : Int} {h1 h2 : Bool} {s1 s2 : Value} (h : Ending.returned (.tuple #[ansV m1 h1 kd1 s1 v1, .int .i64 e1]) = .returned (.tuple #[ansV m2 h2 kd2 s2 v2, .int .i64 e2])) :
    m1=m2∧h1=h2∧kd1=kd2∧s1=s2∧v1=v2∧e1=e2:=by
 simp [ansV] at h
 obtain ⟨⟨h1,h2,h3,h4,h5⟩,h6⟩:=h
 exact ⟨h1,h2,h3,h4,h5,h6⟩
theorem poss_form {op k low high:Int} {n g1 g2:Nat} {Q:EqQ} {e:Ending} {w':World} (h:PossOut op k low high n g1 g2 Q e w'):∃ (m:Int) (h:Bool) (kd:Int) (a:Option Addr) (l c:Nat) (v er:Int),e=.returned (.tuple #[ansV m h kd (.slice a l c) v,.int .i64 er]):=by
 rcases h with ⟨_,_,h⟩ | ⟨_,_,h⟩ | ⟨_,_,h⟩ | ⟨_,_,_,h⟩ | ⟨_,_,_,_,_,h⟩ | ⟨_,_,h⟩ | ⟨_,_,_,h⟩ | ⟨_,_,_,h⟩ | ⟨_,_,_,h⟩ | ⟨_,_,_,_,_,_,_,_,_,_,_,h,_⟩ | ⟨_,_,_,_,h⟩
 all_goals exact ⟨_,_,_,_,_,_,_,_,h⟩
section
variable {T:TM} {D:TmD} {op k v1 v2:Int} {d1 d2:Nat→Nat} {g1 g2:Nat} {w':World} {m:Int} {h:Bool} {kd:Int} {a:Option Addr} {l c:Nat} {v er:Int}
theorem poss_er (ho : op = 9 ∨ op = 10 ∨ op = 11 ∨ op = 12) (hp : PossOut op k (- v1) v2 T.n g1 g2 (EqX T D k) (.returned (.tuple #[ansV m h kd (.slice a l c) v, .int .i64 er])) w') :
    er=0∨(er=16∧op=9∧¬UnitW (T.wfn D.l) (tott T.en T.n)∧m=0∧h=false∧kd=0∧v=0∧l=0):=by
 rcases hp with ⟨_,_,h⟩ | ⟨_,_,h⟩ | ⟨_,_,h⟩ | ⟨_,_,_,h⟩ | ⟨_,_,_,_,_,h⟩ | ⟨_,_,h⟩ | ⟨_,_,_,h⟩ | ⟨_,_,_,h⟩ | ⟨_,_,_,h⟩ | ⟨h9,_,_,B,_,_,_,_,_,_,_,h,hq⟩ | ⟨_,_,_,_,h⟩
 case inr.inr.inr.inr.inr.inr.inr.inr.inr.inl=>
  obtain ⟨rfl,rfl,rfl,h4,rfl,rfl⟩:=ans_inj h
  simp only [Value.slice.injEq] at h4
  obtain ⟨rfl,rfl,rfl⟩:=h4
  rcases hq with ⟨_,_,_,_,h5,_⟩ | ⟨hu,⟨h5,h6,h7,h8,h9',h10,_⟩ | ⟨h5,_⟩⟩
  ·exact .inl h5
  ·exact .inr ⟨h5,h9,hu,h6,h7,h8,rfl,h10⟩
  ·exact .inl h5
 case inr.inr.inr.inr.inr.inr.inr.inr.inr.inr=>omega
 all_goals exact .inl (ans_inj h).2.2.2.2.2
theorem yes_inj {n g:Nat} (hy:YesE n g (.returned (.tuple #[ansV m h kd (.slice a l c) v,.int .i64 er]))):er=0∧m=1∧h=true∧kd=1∧v=0∧a=some ⟨g,0,none⟩∧l=n∧c=n:=by
 obtain ⟨h1,h2,h3,h4,h5,h6⟩:=ans_inj hy
 simp only [Value.slice.injEq] at h4
 exact ⟨h6,h1,h2,h3,h5,h4.1,h4.2.1,h4.2.2⟩
theorem no_inj {n g:Nat} {x:Int} (hy:NoE n g x (.returned (.tuple #[ansV m h kd (.slice a l c) v,.int .i64 er]))):er=0∧m=1∧h=false∧kd=5∧v=x∧a=some ⟨g,0,none⟩∧l=n∧c=n:=by
 obtain ⟨h1,h2,h3,h4,h5,h6⟩:=ans_inj hy
 simp only [Value.slice.injEq] at h4
 exact ⟨h6,h1,h2,h3,h5,h4.1,h4.2.1,h4.2.2⟩
def AnsEq (T:TM) (D:TmD) (k:Int) (w':World) (m:Int) (h:Bool) (kd:Int) (a:Option Addr) (l c:Nat) (v er:Int) (h':Bool) (kd':Int) (l':Nat) (v':Int) (u':Nat→Int):Prop:=
 er=0∧m=1∧h=h'∧kd=kd'∧v=v'∧((∃ g o u,NumAt w' l a g o u∧l=l'∧(h=true→0<l)∧∀ i,i<l→u i=u' i)∨
  (h'=true∧l'=0∧∃ g cc,a=some ⟨g,0,none⟩∧l=T.n∧c=T.n∧IntRow w' g T.n (natV cc)∧T.toTr.CutOk cc∧(T.sumAt D.l fun _=>0)+T.toTr.atC (T.wfn D.l) cc=k))
theorem poss_same (hO : T.SumOk D.l) {R : List Row} (hR : IsCuts T.toTr (R.map Row.l)) (hl : R.length ≤ 5000) (ho : op = 9 ∨ op = 10 ∨ op = 11 ∨ op = 12)
    (hb1:T.toTr.Best (- T.sumAt D.l fun _=>0) (fun v=>- T.wfn D.l v) v1 d1) (hb2:T.toTr.Best (T.sumAt D.l fun _=>0) (T.wfn D.l) v2 d2)
    (hr1:IntRow w' g1 T.n (natV d1)) (hr2:IntRow w' g2 T.n (natV d2)) (hp:PossOut op k (- v1) v2 T.n g1 g2 (EqX T D k) (.returned (.tuple #[ansV m h kd (.slice a l c) v,.int .i64 er])) w')
    {h':Bool} {kd':Int} {l':Nat} {v':Int} {u':Nat→Int} (ha:AnsR T.n (T.sumAt D.l) R op k (- v1) v2 d1 d2 (UnitW (T.wfn D.l) (tott T.en T.n)) h' kd' l' v' u'):AnsEq T D k w' m h kd a l c v er h' kd' l' v' u':=by
 have hn1:=hO.v.n1
 have hn8:=hO.v.n8
 have hlh:- v1≤v2:=by
  have h1:=hb2.above hb1.cut
  have h2:=hb1.val
  rw [Tr.atC_neg'] at h2
  omega
 have hs:∀ i,i<R.length→T.sumAt D.l (fR R i)=(T.sumAt D.l fun _=>0)+T.toTr.atC (T.wfn D.l) (fR R i):=fun i hi=>by
  have h1:CutL T.toTr R[i].l:=(hR.2 _).1 (List.mem_map.2 ⟨_,List.getElem_mem hi,rfl⟩)
  rw [fR_eq hi]
  exact Tr.sumAt_atC hO.known h1.2.le
 have Y1:∀ {g:Nat} {d:Nat→Nat} {h'':Bool},IntRow w' g T.n (natV d)→YesE T.n g (.returned (.tuple #[ansV m h kd (.slice a l c) v,.int .i64 er]))→h'=true→kd'=1→v'=0→l'=T.n→(∀ p,p<T.n→u' p=d p)→AnsEq T D k w' m h kd a l c v er h' kd' l' v' u':=by
  intro g d h'' hr hy e1 e2 e3 e4 e5
  obtain ⟨q1,q2,q3,q4,q5,rfl,rfl,rfl⟩:=yes_inj hy
  exact ⟨q1,q2,q3.trans e1.symm,q4.trans e2.symm,q5.trans e3.symm,.inl ⟨g,0,_,hr.num (by omega),e4.symm,fun _=>hn1,fun i hi=>(e5 i hi).symm⟩⟩
 have N1:∀ {g:Nat} {d:Nat→Int} {x:Int},IntRow w' g T.n d→NoE T.n g x (.returned (.tuple #[ansV m h kd (.slice a l c) v,.int .i64 er]))→h'=false→kd'=5→v'=x→l'=T.n→(∀ p,p<T.n→u' p=d p)→AnsEq T D k w' m h kd a l c v er h' kd' l' v' u':=by
  intro g d x hr hy e1 e2 e3 e4 e5
  obtain ⟨q1,q2,q3,q4,q5,rfl,rfl,rfl⟩:=no_inj hy
  exact ⟨q1,q2,q3.trans e1.symm,q4.trans e2.symm,q5.trans e3.symm,.inl ⟨g,0,_,hr.num (by omega),e4.symm,fun h=>absurd (q3.symm.trans h) (by decide),fun i hi=>(e5 i hi).symm⟩⟩
 unfold AnsR HoldsP at ha
 rcases ha with ⟨a1,a2,a3,a4,a5,a6⟩ | ⟨a1,a0,a1',a2,a3,a4,a5,a6⟩ | ⟨a0,a1,a1',a2,a3,a4,a5,a6⟩ | ⟨a0,a1,a1',a1'',a2,a3,a4,a5,a6⟩ | ⟨a0,a1,a1',a8,a9,a2,a3,a4,a5,a6⟩ | ⟨a0,a8,a9,aU,a2,a3,a4,a5⟩ | ⟨a0,a8,a9,aU,a2,a3,a4,a5,ai,ai1,ai2,ai3,ai4⟩ | ⟨a0,a8,a9,aU,a2,a3,a4,a5,a6⟩
 ·rcases hp with ⟨o,c1,y⟩ | ⟨o,c1,y⟩ | ⟨o,c1,y⟩ | ⟨o,c1,c2,y⟩ | ⟨o,c1,c2,g0,r0,y⟩ | ⟨o,c1,y⟩ | ⟨o,c1,c2,y⟩ | ⟨o,c1,c2,y⟩ | ⟨o,c1,c2,y⟩ | ⟨o,c1,c2,B,_,_,_,_,_,_,_,y,hq⟩ | ⟨c1,c2,c3,c4,y⟩
  ·exact Y1 (h'':=true) hr1 y a2 a3 a4 a5 a6
  ·exfalso;omega
  ·exact Y1 (h'':=true) hr1 y a2 a3 a4 a5 a6
  ·exfalso;omega
  ·exfalso;omega
  ·exact Y1 (h'':=true) hr1 y a2 a3 a4 a5 a6
  all_goals (exfalso;omega)
 ·rcases hp with ⟨o,c1,y⟩ | ⟨o,c1,y⟩ | ⟨o,c1,y⟩ | ⟨o,c1,c2,y⟩ | ⟨o,c1,c2,g0,r0,y⟩ | ⟨o,c1,y⟩ | ⟨o,c1,c2,y⟩ | ⟨o,c1,c2,y⟩ | ⟨o,c1,c2,y⟩ | ⟨o,c1,c2,B,_,_,_,_,_,_,_,y,hq⟩ | ⟨c1,c2,c3,c4,y⟩
  ·exfalso;omega
  ·exfalso;omega
  ·exfalso;omega
  ·exact Y1 (h'':=true) hr2 y a2 a3 a4 a5 a6
  ·exfalso;omega
  ·exfalso;omega
  ·exact Y1 (h'':=true) hr2 y a2 a3 a4 a5 a6
  all_goals (exfalso;omega)
 ·rcases hp with ⟨o,c1,y⟩ | ⟨o,c1,y⟩ | ⟨o,c1,y⟩ | ⟨o,c1,c2,y⟩ | ⟨o,c1,c2,g0,r0,y⟩ | ⟨o,c1,y⟩ | ⟨o,c1,c2,y⟩ | ⟨o,c1,c2,y⟩ | ⟨o,c1,c2,y⟩ | ⟨o,c1,c2,B,_,_,_,_,_,_,_,y,hq⟩ | ⟨c1,c2,c3,c4,y⟩
  ·exfalso;omega
  ·exfalso;omega
  ·exfalso;omega
  ·exfalso;omega
  ·exact N1 r0 y a2 a3 a4 a5 a6
  all_goals (exfalso;omega)
 ·rcases hp with ⟨o,c1,y⟩ | ⟨o,c1,y⟩ | ⟨o,c1,y⟩ | ⟨o,c1,c2,y⟩ | ⟨o,c1,c2,g0,r0,y⟩ | ⟨o,c1,y⟩ | ⟨o,c1,c2,y⟩ | ⟨o,c1,c2,y⟩ | ⟨o,c1,c2,y⟩ | ⟨o,c1,c2,B,_,_,_,_,_,_,_,y,hq⟩ | ⟨c1,c2,c3,c4,y⟩
  ·exfalso;omega
  ·exact N1 hr1 y a2 a3 a4 a5 a6
  ·exfalso;omega
  ·exfalso;omega
  ·exfalso;omega
  ·exfalso;omega
  ·exfalso;omega
  ·exact N1 hr1 y a2 a3 a4 a5 a6
  all_goals (exfalso;omega)
 ·rcases hp with ⟨o,c1,y⟩ | ⟨o,c1,y⟩ | ⟨o,c1,y⟩ | ⟨o,c1,c2,y⟩ | ⟨o,c1,c2,g0,r0,y⟩ | ⟨o,c1,y⟩ | ⟨o,c1,c2,y⟩ | ⟨o,c1,c2,y⟩ | ⟨o,c1,c2,y⟩ | ⟨o,c1,c2,B,_,_,_,_,_,_,_,y,hq⟩ | ⟨c1,c2,c3,c4,y⟩
  ·exfalso;omega
  ·exfalso;omega
  ·exfalso;omega
  ·exfalso;omega
  ·exfalso;omega
  ·exfalso;omega
  ·exfalso;omega
  ·exfalso;omega
  ·exact N1 hr2 y a2 a3 a4 a5 a6
  all_goals (exfalso;omega)
 ·rcases hp with ⟨o,c1,y⟩ | ⟨o,c1,y⟩ | ⟨o,c1,y⟩ | ⟨o,c1,c2,y⟩ | ⟨o,c1,c2,g0,r0,y⟩ | ⟨o,c1,y⟩ | ⟨o,c1,c2,y⟩ | ⟨o,c1,c2,y⟩ | ⟨o,c1,c2,y⟩ | ⟨o,c1,c2,B,_,_,_,_,_,_,_,y,hq⟩ | ⟨c1,c2,c3,c4,y⟩
  case inr.inr.inr.inr.inr.inr.inr.inr.inr.inl=>
   obtain ⟨rfl,rfl,rfl,h4,rfl,rfl⟩:=ans_inj y
   simp only [Value.slice.injEq] at h4
   obtain ⟨rfl,rfl,rfl⟩:=h4
   rcases hq with ⟨hu,q1,q2,q3,q4,⟨cc,g,q5,q6,q7,q8,_,q9,q10⟩ | ho⟩ | ⟨hu,_⟩
   ·exact ⟨q4,q1,q2.trans a2.symm,q3.trans a3.symm,a4.symm,.inr ⟨a2,a5,g,cc,q5,q6,q7,q8,q9,q10⟩⟩
   ·exfalso
    have h1:=hb1.val
    rw [Tr.atC_neg'] at h1
    have h2:=hb2.val
    rcases ho with ho | ho
    ·have:=ho _ hb1.cut;omega
    ·have:=ho _ hb2.cut;omega
   ·exact absurd aU hu
  all_goals (exfalso;omega)
 ·rcases hp with ⟨o,c1,y⟩ | ⟨o,c1,y⟩ | ⟨o,c1,y⟩ | ⟨o,c1,c2,y⟩ | ⟨o,c1,c2,g0,r0,y⟩ | ⟨o,c1,y⟩ | ⟨o,c1,c2,y⟩ | ⟨o,c1,c2,y⟩ | ⟨o,c1,c2,y⟩ | ⟨o,c1,c2,B,_,_,_,_,_,_,_,y,hq⟩ | ⟨c1,c2,c3,c4,y⟩
  case inr.inr.inr.inr.inr.inr.inr.inr.inr.inl=>
   obtain ⟨rfl,rfl,rfl,h4,rfl,rfl⟩:=ans_inj y
   simp only [Value.slice.injEq] at h4
   obtain ⟨rfl,rfl,rfl⟩:=h4
   rcases hq with ⟨hu,_⟩ | ⟨hu,⟨_,_,_,_,_,_,L,hL1,hL2,hL3⟩ | ⟨q1,L,hL,_,⟨_,_,_,_,_,hx⟩ | ⟨q2,q3,q4,i,hi,g,o',q5,q6,q7,q8,_⟩⟩⟩
   ·exact absurd hu aU
   ·have:=hR.le hL1 hL2
    rw [List.length_map] at this;omega
   ·exfalso
    have h1:R[ai].l∈L:=by rw [hL.uniq hR];exact List.mem_map.2 ⟨_,List.getElem_mem ai1,rfl⟩
    have h2:=hx _ h1
    rw [hs ai ai1,fR_eq ai1] at ai2
    exact h2 ai2
   ·have hLR:=hL.uniq hR
    subst hLR
    have hiR:i<R.length:=by rw [List.length_map] at hi;exact hi
    have hval:T.sumAt D.l (fR R i)=k:=by
     rw [hs i hiR,fR_eq hiR]
     rw [List.getElem_map] at q6;exact q6
    have hie:i=ai:=by
     rcases Nat.lt_trichotomy i ai with h1 | h1 | h1
     ·exact absurd hval (ai3 i h1)
     ·exact h1
     ·have h2:=q5 ai (by rw [List.length_map];exact ai1) h1
      rw [List.getElem_map] at h2
      rw [hs ai ai1,fR_eq ai1] at ai2
      exact absurd ai2 h2
    subst hie
    exact ⟨q1,q2,q3.trans a2.symm,q4.trans a3.symm,a4.symm,.inl ⟨g,o',_,by rw [q7];exact q8,q7.trans a5.symm,fun _=>by rw [q7];exact hn1,fun p hp=>by
     rw [ai4 p (by omega),fR_eq hiR,List.getElem_map]⟩⟩
  all_goals (exfalso;omega)
 ·rcases hp with ⟨o,c1,y⟩ | ⟨o,c1,y⟩ | ⟨o,c1,y⟩ | ⟨o,c1,c2,y⟩ | ⟨o,c1,c2,g0,r0,y⟩ | ⟨o,c1,y⟩ | ⟨o,c1,c2,y⟩ | ⟨o,c1,c2,y⟩ | ⟨o,c1,c2,y⟩ | ⟨o,c1,c2,B,_,_,_,_,_,_,_,y,hq⟩ | ⟨c1,c2,c3,c4,y⟩
  rotate_left 9
  ·skip
   obtain ⟨rfl,rfl,rfl,h4,rfl,rfl⟩:=ans_inj y
   simp only [Value.slice.injEq] at h4
   obtain ⟨rfl,rfl,rfl⟩:=h4
   rcases hq with ⟨hu,_⟩ | ⟨hu,⟨_,_,_,_,_,_,L,hL1,hL2,hL3⟩ | ⟨q1,L,hL,_,⟨q2,q3,q4,q5,q6,hx⟩ | ⟨q2,q3,q4,i,hi,g,o',q5,q6,q7,q8,_⟩⟩⟩
   ·exact absurd hu aU
   ·have:=hR.le hL1 hL2
    rw [List.length_map] at this;omega
   ·subst q6
    exact ⟨q1,q2,q3.trans a2.symm,q4.trans a3.symm,a4.symm,.inl ⟨0,0,fun _=>0,⟨by decide,fun h=>absurd h (Nat.not_lt_zero _),fun h=>absurd h (Nat.not_lt_zero _),fun k h=>absurd h (Nat.not_lt_zero _)⟩,a5.symm,fun h=>absurd (q3.symm.trans h) (by decide),fun i h=>absurd h (Nat.not_lt_zero _)⟩⟩
   ·exfalso
    have hLR:=hL.uniq hR
    subst hLR
    have hiR:i<R.length:=by rw [List.length_map] at hi;exact hi
    rw [List.getElem_map] at q6
    refine a6 i hiR ?_
    rw [hs i hiR,fR_eq hiR];exact q6
  all_goals (exfalso;omega)
end
end Go.Proofs.YtnknkkmdbnaglaaGreat

namespace Go.Proofs.YtnknkkmdbnaglaaGreat
open Go.RowKit Go.Shelf
theorem unitR_iff {T:Tr} {ts:List Trm}:RuniP T ts↔UnitW (T.wfn ts) (tott T.en T.n):=by
 constructor
 ·intro h v hv
  unfold Tr.wfn
  split
  ·next hx=>exact h hx.choose.1 hx.choose.2 hx.choose_spec.1.1 hx.choose_spec.1.2
  ·have:iabs 0=0:=rfl
   omega
 ·intro h p i hp hi
  have h1:=h (tott T.en p+i) (tott_lt T.en hp hi)
  rw [Tr.wfn_at hp hi] at h1
  exact h1
theorem sumv_at {T:Tr} {ts:List Trm} (h:T.SumOk ts) (d:Nat→Nat) (hd:T.CutOk d):T.sumAt ts d=(T.sumAt ts fun _=>0)+T.atC (T.wfn ts) d:=Tr.sumAt_atC h.known hd.le
theorem sumv_opp {T:Tr} {ts:List Trm} (h:T.SumOk ts) (d:Nat→Nat) (hd:T.CutOk d):T.sumAt (oppL ts) d=- (T.sumAt ts fun _=>0)+T.atC (fun v=>- T.wfn ts v) d:=by
 rw [Tr.sumAt_opp,sumv_at h d hd,Tr.atC_neg'];omega
theorem rposs_results (tmps : Array Value) (W : World) (b : Nat) (x0 x1 x2 x3 x4 x5 x6 x7 : Value) (t10 : tmps[10]? = some (.pointer (some ⟨b, 0, none⟩))) (h : Hold W b #[x0, x1, x2, x3, x4, x5, x6, x7]) :
    (results Tryz.f74 tmps).run Tryz.prog W=.ok (.agg #[x0,x1,x2,x3,x4,x5,x6,x7]) W:=by
 have c0:=h.cell0 0
 have c1:=h.cell0 1
 have c2:=h.cell0 2
 have c3:=h.cell0 3
 have c4:=h.cell0 4
 have c5:=h.cell0 5
 have c6:=h.cell0 6
 have c7:=h.cell0 7
 simp at c0 c1 c2 c3 c4 c5 c6 c7
 simp [results,Tryz.results74,go_sem,t10,c0,c1,c2,c3,c4,c5,c6,c7]
def RpossPost (T:TM) (D:TmD) (R:List Row) (op k low high:Int) (d1 d2:Nat→Nat) (w:World) (e:Ending) (w':World):Prop:=Ext w w'∧∃ (h:Bool) (kd:Int) (a:Option Addr) (l c:Nat) (v:Int) (g o:Nat) (u:Nat→Int),e=.returned (ansV 1 h kd (.slice a l c) v)∧NumAt w' l a g o u∧AnsR T.n (T.sumAt D.l) R op k low high d1 d2 (UnitW (T.wfn D.l) (tott T.en T.n)) h kd l v u
theorem setm3 {w:World} {p q r:Addr} {v u x:Value} {G:World→Prop} (h:∀ w7,w7=((w.setCell p v).setCell q u).setCell r x→G w7):G (((w.setCell p v).setCell q u).setCell r x):=h _ rfl
set_option maxRecDepth 100000 in
set_option maxHeartbeats 8000000 in
theorem rposs_any (w : World) (T : TM) (hT : T.At w) (D : TmD) (hD : D.At w) (hO : T.SumOk D.l) (op k : Int) (base : Nat) (v : Value) (R : List Row) (hR : RowsQ w base v R) (hcu : IsCuts T.toTr (R.map Row.l)) (hl : R.length ≤ 5000) {v1 v2 : Int} {d1 d2 : Nat → Nat}
    (hb1:T.toTr.Best (- T.sumAt D.l fun _=>0) (fun v=>- T.wfn D.l v) v1 d1) (hb2:T.toTr.Best (T.sumAt D.l fun _=>0) (T.wfn D.l) v2 d2) :
    Calls Tryz.prog 74 #[T.val,v,.slice D.s.a D.s.n D.s.c,.int .i64 op,.int .i64 k] w (RpossPost T D R op k (- v1) v2 d1 d2 w):=by
 obtain ⟨j0,hj0,hy0,hy1,hy2⟩:=info_parts infoInt
 have hV:=hO.v
 have hn8:=hV.n8
 have hn1:=hV.n1
 have hc:∀ x∈R,CutL T.toTr x.l:=fun x hx=>(hcu.2 _).1 (List.mem_map.2 ⟨x,hx,rfl⟩)
 have hr0:0<R.length:=by
  have h1:CutL T.toTr (rowOf T.n fun _=>0):=⟨rowOf_len _ _,(Tr.CutOk.zero T.toTr).congr fun p hp=>fn_rowOf hp⟩
  obtain ⟨x,hx,_⟩:=List.mem_map.1 ((hcu.2 _).2 h1)
  exact List.length_pos_of_mem hx
 obtain ⟨a4,g4,o4,c4,rfl,_,hp4,hget⟩:=hR.get
 obtain ⟨rfl,_,hgl⟩:=hp4 hr0
 have HMIN:=Lib.hid (fun W (x:Ext w W)=>(show Calls Tryz.prog 22 #[T.val,.slice (some ⟨g4,o4,none⟩) R.length c4,.slice D.s.a D.s.n D.s.c] W (fun e w'=>Ext W w'∧∃ g o cap c,e=.returned (.tuple #[.int .i64 (- v1),.slice (some ⟨g,o,none⟩) T.n cap])∧NumAt w' T.n (some ⟨g,o,none⟩) g o (natV c)∧(∀ p,p<T.n→c p=d1 p)∧W.heap.size≤g) from
  (rmin2_any W T (hT.ext x) D (hD.ext x) hO base _ R (hR.ext x) hr0 hl hc).mono fun e w' ⟨hx,nv,g,o,cap,c,he,hn,hm,hg⟩=>by
   obtain ⟨hve,hce⟩:=hm.best hcu (sumv_opp hO) hb1
   subst hve
   exact ⟨hx,g,o,cap,c,he,hn,fun p hp=>(hce p hp).symm,hg⟩))
 have HMAX:=Lib.hid (fun W (x:Ext w W)=>(show Calls Tryz.prog 21 #[T.val,.slice (some ⟨g4,o4,none⟩) R.length c4,.slice D.s.a D.s.n D.s.c] W (fun e w'=>Ext W w'∧∃ g o cap c,e=.returned (.tuple #[.int .i64 v2,.slice (some ⟨g,o,none⟩) T.n cap])∧NumAt w' T.n (some ⟨g,o,none⟩) g o (natV c)∧(∀ p,p<T.n→c p=d2 p)∧W.heap.size≤g) from
  (rmax2_any W T (hT.ext x) D (hD.ext x) hO base _ R (hR.ext x) hr0 hl hc).mono fun e w' ⟨hx,nv,g,o,cap,c,he,hn,hm,hg⟩=>by
   obtain ⟨hve,hce⟩:=hm.best hcu (sumv_at hO) hb2
   subst hve
   exact ⟨hx,g,o,cap,c,he,hn,fun p hp=>(hce p hp).symm,hg⟩))
 have HUN:=Lib.hid (fun W (x:Ext w W)=>(show Calls Tryz.prog 29 #[T.val,.slice D.s.a D.s.n D.s.c] W (BoolPost (UnitW (T.wfn D.l) (tott T.en T.n)) W) from
  (runi_any W T (hT.ext x) D (hD.ext x) hO).mono fun e w' ⟨b,he,hb,hx⟩=>⟨b,he,hb.trans unitR_iff,hx⟩))
 have HNM:=Lib.hid (fun j (hj:j<R.length) W (x:Ext w W)=>(show NumAt W T.n R[j].a R[j].g R[j].o (natV (fR R j)) from by
  have h1:=(hR.2 _ (List.getElem_mem hj)).ext x
  unfold Row.At at h1
  rw [(hc _ (List.getElem_mem hj)).1] at h1
  rw [fR_eq hj];exact h1))
 have HVL:=Lib.hid (fun j (hj:j<R.length) W (x:Ext w W)=>(show Calls Tryz.prog 31 #[T.val,.slice R[j].a T.n R[j].c,.slice D.s.a D.s.n D.s.c] W (fun e w'=>e=.returned (.int .i64 (T.sumAt D.l (fR R j)))∧Ext W w') from by
  have h1:=HNM.out j hj W x
  exact rval39_any W T (hT.ext x) D (hD.ext x) hV hO.known hO.coef hO.len R[j].a R[j].g R[j].o R[j].c (fR R j) ⟨h1.pa,h1.pb,h1.c⟩ (fun p hp=>by rw [fR_eq hj];exact (hc _ (List.getElem_mem hj)).2.le p hp)))
 have HCE:=Lib.hid (fun j (hj:j<R.length) w' (x:Ext w w')=>(show w'.cell? ⟨g4,o4+j,none⟩=some (.slice R[j].a T.n R[j].c) from by
  have h1:=hget j hj w' x
  rw [(hc _ (List.getElem_mem hj)).1] at h1;exact h1))
 have pb4:∀ w',Ext w w'→g4<w'.heap.size:=fun w' x=>Nat.lt_of_lt_of_le hgl x.le
 have HGL:=Lib.hid (show ∀ j,(hj:j<R.length)→R[j].g<w.heap.size from fun j hj=>(HNM.out j hj w (Ext.refl _)).pb hn1)
 unfold RpossPost
 obtain ⟨ta,hta⟩:∃ z,z=T.a:=⟨_,rfl⟩
 obtain ⟨da,hda⟩:∃ z,z=D.s.a:=⟨_,rfl⟩
 obtain ⟨len,hlen⟩:∃ z,z=R.length:=⟨_,rfl⟩
 obtain ⟨low,hlow⟩:∃ z,z=- v1:=⟨_,rfl⟩
 have HLE:=Lib.hid hlen
 have HLH:=Lib.hid (show low≤v2 from by
  have h1:=hb2.above hb1.cut
  have h2:=hb1.val
  rw [Tr.atC_neg'] at h2
  omega)
 simp only [TM.val,←hta] at HMIN HMAX HUN HVL ⊢
 rw [←hda] at HMIN HMAX HUN HVL
 rw [←hlow,←hlen] at HMIN
 rw [←hlen] at HMAX
 rw [←hda,←hlen,←hlow]
 rw [←hlen] at hl
 clear hT hD hO hV hR hc hp4 hget hgl hta hda hlen hcu hb1 hb2 hr0 hlow
 go_enter Tryz.func74,Tryz.ntmps74
 go_upto_region 1 with fail
 refine boxed2 (w:=w) (G:=fun x=>Code.wp _ _ _ _ x) ?_
 intro w1 hx1 hs1 ⟨l0,c0,_,_⟩ ⟨_,_,_,k1⟩
 have hx11:Ext w1 w1:=Ext.refl _
 have HKB:=Lib.hid (show Hold w1 (w.heap.size+1) #[.int .i64 0,.bool false,.int .i64 0,.slice none 0 0,.slice none 0 0,.slice none 0 0,.slice none 0 0,.int .i64 0] from k1)
 have HS1:=Lib.hid hs1
 clear hs1 k1
 go_wp2_with fail
 go_at_call 22
 refine (HMIN.out w1 hx1).mono ?_
 rintro e w2 ⟨hx2,g1,o1,q1,y1,rfl,hn1',he1,hg1⟩
 have hxw2:=hx1.trans hx2
 have HN1:=Lib.hid (And.intro hn1' (And.intro he1 hg1))
 clear hn1' he1 hg1
 go_wp2_with fail
 go_at_call 21
 refine (HMAX.out w2 hxw2).mono ?_
 rintro e w3 ⟨hx3,g2,o2,q2,y2,rfl,hn2',he2,hg2⟩
 have hxw3:=hxw2.trans hx3
 have hx13:=hx2.trans hx3
 have HN2:=Lib.hid (And.intro hn2' (And.intro he2 hg2))
 clear hn2' he2 hg2
 go_upto_region 5 with fail
 refine boxed2 (w:=w3) (G:=fun x=>Code.wp _ _ _ _ x) ?_
 intro w5 hx5 hs5 ⟨l4,c4',_,k4⟩ ⟨l5,c5,_,k5⟩
 have hx15:=hx13.trans hx5
 have hxw5:=hxw3.trans hx5
 have HS:=Lib.hid (show w.heap.size+2≤w3.heap.size from by have:=HS1.out;have:=hx13.le;omega)
 have HG:=Lib.hid (show w.heap.size+2≤g1∧g1<w3.heap.size∧w.heap.size+2≤g2∧g2<w3.heap.size from ⟨by have:=HS1.out;have:=HN1.out.2.2;omega,by have:=HN1.out.1.pb hn1;have:=hx3.le;omega,by have:=HS1.out;have:=HN2.out.2.2;have:=hx2.le;omega,HN2.out.1.pb hn1⟩)
 have HL5:=Lib.hid (show NumAt w5 T.n (some ⟨g1,o1,none⟩) g1 o1 (natV y1) from HN1.out.1.ext (hx3.trans hx5))
 have HM5:=Lib.hid (show NumAt w5 T.n (some ⟨g2,o2,none⟩) g2 o2 (natV y2) from HN2.out.1.ext hx5)
 have HOUT:=Lib.hid (show Hold w5 w3.heap.size #[.int .i64 1,.bool false,.int .i64 0,.slice none 0 0,.slice none 0 0,.slice none 0 0,.slice none 0 0,.int .i64 0] from k4)
 have HY:=Lib.hid (show Hold w5 (w3.heap.size+1) #[.int .i64 1,.bool true,.int .i64 1,.slice none 0 0,.slice none 0 0,.slice none 0 0,.slice none 0 0,.int .i64 0] from k5)
 have hx55:Ext w5 w5:=Ext.refl _
 clear hs5 k4 k5 hx2 hx3 hx13 hxw2 hxw3 hx5 hx11
 go_wp2_with fail
 go_at_call 148
 refine (rholds_any w5 op low k).mono ?_
 rintro e w6 ⟨b,rfl,hb,hx6⟩
 have hx16:=hx15.trans hx6
 cases b with
 | true =>
  have HD:=Lib.hid (hb.1 rfl)
  clear hb
  go_upto_region 7 with fail
  refine setm1 (G:=fun x=>Code.wp _ _ _ _ x) ?_
  intro w7 hw7
  have hx17:Ext w1 w7:=by rw [hw7];exact (hx15.trans hx6).setCell (by show w1.heap.size≤w3.heap.size+1;have:=HS1.out;have:=HS.out;omega) _
  obtain ⟨l7,c7,_,_⟩:=(show Hold w7 (w3.heap.size+1) #[.int .i64 1,.bool true,.int .i64 1,.slice (some ⟨g1,o1,none⟩) T.n q1,.slice none 0 0,.slice none 0 0,.slice none 0 0,.int .i64 0] from by rw [hw7];exact (HY.out.ext hx6).set 3 _).box
  have HK9:=Lib.hid (Hold.all8 (show Hold w7 (w.heap.size+1) #[.int .i64 0,.bool false,.int .i64 0,.slice none 0 0,.slice none 0 0,.slice none 0 0,.slice none 0 0,.int .i64 0] from by rw [hw7];exact (HKB.out.ext (hx15.trans hx6)).other _ _ (by show w.heap.size+1≠w3.heap.size+1;have:=HS.out;omega)) (.int .i64 1) (.bool true) (.int .i64 1) (.slice (some ⟨g1,o1,none⟩) T.n q1) (.slice none 0 0) (.slice none 0 0) (.slice none 0 0) (.int .i64 0))
  have HX7:=Lib.hid (show Ext w w7 from by rw [hw7];exact (hxw5.trans hx6).setCell (by show w.heap.size≤w3.heap.size+1;have:=HS.out;omega) _)
  have HN7:=Lib.hid (show NumAt w7 T.n (some ⟨g1,o1,none⟩) g1 o1 (natV y1) from by rw [hw7];exact (HL5.out.ext hx6).blk (Below.heap_setCell _ _ _ _ (by show g1≠w3.heap.size+1;exact (by have:=HG.out;omega))) (Nat.le_of_eq (World.size_setCell _ _ _).symm))
  have h77:Ext w7 w7:=Ext.refl _
  clear hw7
  go_wp2_with fail
  refine bodyPost_ret (rposs_results _ _ (w.heap.size+1) _ _ _ _ _ _ _ _ rfl HK9.out) rfl ?_
  exact ⟨HX7.out.put8 (by omega) _ _ _ _ _ _ _ _,true,1,_,T.n,_,0,_,_,_,rfl,HN7.out.put8 _ _ _ _ _ _ _ _ _ (by have:=HG.out;omega),(.inl ⟨HD.out,rfl,rfl,rfl,rfl,fun p hp=>by show ((y1 p:Nat):Int)=(d1 p:Int);rw [HN1.out.2.1 p hp]⟩)⟩
 | false =>
  have HD:=Lib.hid (show ¬HoldsP op low k from fun h=>absurd (hb.2 h) (by decide))
  clear hb
  by_cases h910:op=9∨op=10
  case neg=>
   have o9:(op == 9)=false:=by simpa using fun h=>h910 (.inl h)
   have o10:(op == 10)=false:=by simpa using fun h=>h910 (.inr h)
   have o9n:(op != 9)=true:=by simp [bne,o9]
   have HO9:=Lib.hid h910
   clear h910
   go_upto_region 20 with fail
   refine setm3 (G:=fun x=>Code.wp _ _ _ _ x) ?_
   intro w7 hw7
   have hx17:Ext w1 w7:=by rw [hw7];exact (((hx15.trans hx6).setCell (by show w1.heap.size≤w3.heap.size;have:=HS1.out;have:=HS.out;omega) _).setCell (by show w1.heap.size≤w3.heap.size;have:=HS1.out;have:=HS.out;omega) _).setCell (by show w1.heap.size≤w3.heap.size;have:=HS1.out;have:=HS.out;omega) _
   obtain ⟨l7,c7,_,_⟩:=(show Hold w7 w3.heap.size #[.int .i64 1,.bool false,.int .i64 5,.slice (some ⟨g1,o1,none⟩) T.n q1,.slice none 0 0,.slice none 0 0,.slice none 0 0,.int .i64 low] from by rw [hw7];exact (((HOUT.out.ext hx6).set 2 _).set 7 _).set 3 _).box
   have HK9:=Lib.hid (Hold.all8 (show Hold w7 (w.heap.size+1) #[.int .i64 0,.bool false,.int .i64 0,.slice none 0 0,.slice none 0 0,.slice none 0 0,.slice none 0 0,.int .i64 0] from by rw [hw7];exact (((HKB.out.ext (hx15.trans hx6)).other _ _ (by show w.heap.size+1≠w3.heap.size;have:=HS.out;omega)).other _ _ (by show w.heap.size+1≠w3.heap.size;have:=HS.out;omega)).other _ _ (by show w.heap.size+1≠w3.heap.size;have:=HS.out;omega)) (.int .i64 1) (.bool false) (.int .i64 5) (.slice (some ⟨g1,o1,none⟩) T.n q1) (.slice none 0 0) (.slice none 0 0) (.slice none 0 0) (.int .i64 low))
   have HX7:=Lib.hid (show Ext w w7 from by rw [hw7];exact (((hxw5.trans hx6).setCell (by show w.heap.size≤w3.heap.size;have:=HS.out;omega) _).setCell (by show w.heap.size≤w3.heap.size;have:=HS.out;omega) _).setCell (by show w.heap.size≤w3.heap.size;have:=HS.out;omega) _)
   have HN7:=Lib.hid (show NumAt w7 T.n (some ⟨g1,o1,none⟩) g1 o1 (natV y1) from by rw [hw7];exact (((HL5.out.ext hx6).blk (Below.heap_setCell _ _ _ _ (by show g1≠w3.heap.size;have:=HG.out;omega)) (Nat.le_of_eq (World.size_setCell _ _ _).symm)).blk (Below.heap_setCell _ _ _ _ (by show g1≠w3.heap.size;have:=HG.out;omega)) (Nat.le_of_eq (World.size_setCell _ _ _).symm)).blk (Below.heap_setCell _ _ _ _ (by show g1≠w3.heap.size;have:=HG.out;omega)) (Nat.le_of_eq (World.size_setCell _ _ _).symm))
   have h77:Ext w7 w7:=Ext.refl _
   clear hw7
   go_wp2_with fail
   refine bodyPost_ret (rposs_results _ _ (w.heap.size+1) _ _ _ _ _ _ _ _ rfl HK9.out) rfl ?_
   exact ⟨HX7.out.put8 (by omega) _ _ _ _ _ _ _ _,false,5,_,T.n,_,_,_,_,_,rfl,HN7.out.put8 _ _ _ _ _ _ _ _ _ (by have:=HG.out;omega),(.inr (.inr (.inr (.inl ⟨fun h=>HO9.out (.inr h),HD.out,fun h=>absurd (.inl h) HO9.out,.inl fun h=>HO9.out (.inl h),rfl,rfl,rfl,rfl,fun p hp=>by show ((y1 p:Nat):Int)=(d1 p:Int);rw [HN1.out.2.1 p hp]⟩))))⟩
  rcases h910 with rfl | rfl
  ·go_wp2_with fail
   go_at_call 148
   refine (rholds_any w6 9 v2 k).mono ?_
   rintro e w8 ⟨b,rfl,hb,hx8⟩
   have hx58:=hx6.trans hx8
   have hx18:=hx15.trans hx58
   cases b with
   | true =>
    have HH:=Lib.hid (hb.1 rfl)
    clear hb
    go_upto_region 10 with fail
    refine setm1 (G:=fun x=>Code.wp _ _ _ _ x) ?_
    intro w7 hw7
    have hx17:Ext w1 w7:=by rw [hw7];exact (hx15.trans hx58).setCell (by show w1.heap.size≤w3.heap.size+1;have:=HS1.out;have:=HS.out;omega) _
    obtain ⟨l7,c7,_,_⟩:=(show Hold w7 (w3.heap.size+1) #[.int .i64 1,.bool true,.int .i64 1,.slice (some ⟨g2,o2,none⟩) T.n q2,.slice none 0 0,.slice none 0 0,.slice none 0 0,.int .i64 0] from by rw [hw7];exact (HY.out.ext hx58).set 3 _).box
    have HK9:=Lib.hid (Hold.all8 (show Hold w7 (w.heap.size+1) #[.int .i64 0,.bool false,.int .i64 0,.slice none 0 0,.slice none 0 0,.slice none 0 0,.slice none 0 0,.int .i64 0] from by rw [hw7];exact (HKB.out.ext (hx15.trans hx58)).other _ _ (by show w.heap.size+1≠w3.heap.size+1;have:=HS.out;omega)) (.int .i64 1) (.bool true) (.int .i64 1) (.slice (some ⟨g2,o2,none⟩) T.n q2) (.slice none 0 0) (.slice none 0 0) (.slice none 0 0) (.int .i64 0))
    have HX7:=Lib.hid (show Ext w w7 from by rw [hw7];exact (hxw5.trans hx58).setCell (by show w.heap.size≤w3.heap.size+1;have:=HS.out;omega) _)
    have HN7:=Lib.hid (show NumAt w7 T.n (some ⟨g2,o2,none⟩) g2 o2 (natV y2) from by rw [hw7];exact (HM5.out.ext hx58).blk (Below.heap_setCell _ _ _ _ (by show g2≠w3.heap.size+1;exact (by have:=HG.out;omega))) (Nat.le_of_eq (World.size_setCell _ _ _).symm))
    have h77:Ext w7 w7:=Ext.refl _
    clear hw7
    go_wp2_with fail
    refine bodyPost_ret (rposs_results _ _ (w.heap.size+1) _ _ _ _ _ _ _ _ rfl HK9.out) rfl ?_
    exact ⟨HX7.out.put8 (by omega) _ _ _ _ _ _ _ _,true,1,_,T.n,_,0,_,_,_,rfl,HN7.out.put8 _ _ _ _ _ _ _ _ _ (by have:=HG.out;omega),(.inr (.inl ⟨HD.out,.inr rfl,HH.out,rfl,rfl,rfl,rfl,fun p hp=>by show ((y2 p:Nat):Int)=(d2 p:Int);rw [HN2.out.2.1 p hp]⟩))⟩
   | false =>
    have HH:=Lib.hid (show ¬HoldsP 9 v2 k from fun h=>absurd (hb.2 h) (by decide))
    clear hb
    by_cases hkl:k<low
    ·have e1:decide (k<low)=true:=decide_eq_true hkl
     have HKL:=Lib.hid hkl
     clear hkl
     go_upto_region 20 with fail
     refine setm3 (G:=fun x=>Code.wp _ _ _ _ x) ?_
     intro w7 hw7
     have hx17:Ext w1 w7:=by rw [hw7];exact (((hx15.trans hx58).setCell (by show w1.heap.size≤w3.heap.size;have:=HS1.out;have:=HS.out;omega) _).setCell (by show w1.heap.size≤w3.heap.size;have:=HS1.out;have:=HS.out;omega) _).setCell (by show w1.heap.size≤w3.heap.size;have:=HS1.out;have:=HS.out;omega) _
     obtain ⟨l7,c7,_,_⟩:=(show Hold w7 w3.heap.size #[.int .i64 1,.bool false,.int .i64 5,.slice (some ⟨g1,o1,none⟩) T.n q1,.slice none 0 0,.slice none 0 0,.slice none 0 0,.int .i64 low] from by rw [hw7];exact (((HOUT.out.ext hx58).set 2 _).set 7 _).set 3 _).box
     have HK9:=Lib.hid (Hold.all8 (show Hold w7 (w.heap.size+1) #[.int .i64 0,.bool false,.int .i64 0,.slice none 0 0,.slice none 0 0,.slice none 0 0,.slice none 0 0,.int .i64 0] from by rw [hw7];exact (((HKB.out.ext (hx15.trans hx58)).other _ _ (by show w.heap.size+1≠w3.heap.size;have:=HS.out;omega)).other _ _ (by show w.heap.size+1≠w3.heap.size;have:=HS.out;omega)).other _ _ (by show w.heap.size+1≠w3.heap.size;have:=HS.out;omega)) (.int .i64 1) (.bool false) (.int .i64 5) (.slice (some ⟨g1,o1,none⟩) T.n q1) (.slice none 0 0) (.slice none 0 0) (.slice none 0 0) (.int .i64 low))
     have HX7:=Lib.hid (show Ext w w7 from by rw [hw7];exact (((hxw5.trans hx58).setCell (by show w.heap.size≤w3.heap.size;have:=HS.out;omega) _).setCell (by show w.heap.size≤w3.heap.size;have:=HS.out;omega) _).setCell (by show w.heap.size≤w3.heap.size;have:=HS.out;omega) _)
     have HN7:=Lib.hid (show NumAt w7 T.n (some ⟨g1,o1,none⟩) g1 o1 (natV y1) from by rw [hw7];exact (((HL5.out.ext hx58).blk (Below.heap_setCell _ _ _ _ (by show g1≠w3.heap.size;have:=HG.out;omega)) (Nat.le_of_eq (World.size_setCell _ _ _).symm)).blk (Below.heap_setCell _ _ _ _ (by show g1≠w3.heap.size;have:=HG.out;omega)) (Nat.le_of_eq (World.size_setCell _ _ _).symm)).blk (Below.heap_setCell _ _ _ _ (by show g1≠w3.heap.size;have:=HG.out;omega)) (Nat.le_of_eq (World.size_setCell _ _ _).symm))
     have h77:Ext w7 w7:=Ext.refl _
     clear hw7
     go_wp2_with fail
     refine bodyPost_ret (rposs_results _ _ (w.heap.size+1) _ _ _ _ _ _ _ _ rfl HK9.out) rfl ?_
     exact ⟨HX7.out.put8 (by omega) _ _ _ _ _ _ _ _,false,5,_,T.n,_,_,_,_,_,rfl,HN7.out.put8 _ _ _ _ _ _ _ _ _ (by have:=HG.out;omega),(.inr (.inr (.inr (.inl ⟨by decide,HD.out,fun _=>HH.out,.inr HKL.out,rfl,rfl,rfl,rfl,fun p hp=>by show ((y1 p:Nat):Int)=(d1 p:Int);rw [HN1.out.2.1 p hp]⟩))))⟩
    have e1:decide (k<low)=false:=decide_eq_false hkl
    by_cases hkh:v2<k
    ·have e2:decide (v2<k)=true:=decide_eq_true hkh
     have HKL:=Lib.hid (And.intro (Int.not_lt.1 hkl) hkh)
     clear hkl hkh
     go_upto_region 25 with fail
     refine setm3 (G:=fun x=>Code.wp _ _ _ _ x) ?_
     intro w7 hw7
     have hx17:Ext w1 w7:=by rw [hw7];exact (((hx15.trans hx58).setCell (by show w1.heap.size≤w3.heap.size;have:=HS1.out;have:=HS.out;omega) _).setCell (by show w1.heap.size≤w3.heap.size;have:=HS1.out;have:=HS.out;omega) _).setCell (by show w1.heap.size≤w3.heap.size;have:=HS1.out;have:=HS.out;omega) _
     obtain ⟨l7,c7,_,_⟩:=(show Hold w7 w3.heap.size #[.int .i64 1,.bool false,.int .i64 5,.slice (some ⟨g2,o2,none⟩) T.n q2,.slice none 0 0,.slice none 0 0,.slice none 0 0,.int .i64 v2] from by rw [hw7];exact (((HOUT.out.ext hx58).set 2 _).set 7 _).set 3 _).box
     have HK9:=Lib.hid (Hold.all8 (show Hold w7 (w.heap.size+1) #[.int .i64 0,.bool false,.int .i64 0,.slice none 0 0,.slice none 0 0,.slice none 0 0,.slice none 0 0,.int .i64 0] from by rw [hw7];exact (((HKB.out.ext (hx15.trans hx58)).other _ _ (by show w.heap.size+1≠w3.heap.size;have:=HS.out;omega)).other _ _ (by show w.heap.size+1≠w3.heap.size;have:=HS.out;omega)).other _ _ (by show w.heap.size+1≠w3.heap.size;have:=HS.out;omega)) (.int .i64 1) (.bool false) (.int .i64 5) (.slice (some ⟨g2,o2,none⟩) T.n q2) (.slice none 0 0) (.slice none 0 0) (.slice none 0 0) (.int .i64 v2))
     have HX7:=Lib.hid (show Ext w w7 from by rw [hw7];exact (((hxw5.trans hx58).setCell (by show w.heap.size≤w3.heap.size;have:=HS.out;omega) _).setCell (by show w.heap.size≤w3.heap.size;have:=HS.out;omega) _).setCell (by show w.heap.size≤w3.heap.size;have:=HS.out;omega) _)
     have HN7:=Lib.hid (show NumAt w7 T.n (some ⟨g2,o2,none⟩) g2 o2 (natV y2) from by rw [hw7];exact (((HM5.out.ext hx58).blk (Below.heap_setCell _ _ _ _ (by show g2≠w3.heap.size;have:=HG.out;omega)) (Nat.le_of_eq (World.size_setCell _ _ _).symm)).blk (Below.heap_setCell _ _ _ _ (by show g2≠w3.heap.size;have:=HG.out;omega)) (Nat.le_of_eq (World.size_setCell _ _ _).symm)).blk (Below.heap_setCell _ _ _ _ (by show g2≠w3.heap.size;have:=HG.out;omega)) (Nat.le_of_eq (World.size_setCell _ _ _).symm))
     have h77:Ext w7 w7:=Ext.refl _
     clear hw7
     go_wp2_with fail
     refine bodyPost_ret (rposs_results _ _ (w.heap.size+1) _ _ _ _ _ _ _ _ rfl HK9.out) rfl ?_
     exact ⟨HX7.out.put8 (by omega) _ _ _ _ _ _ _ _,false,5,_,T.n,_,_,_,_,_,rfl,HN7.out.put8 _ _ _ _ _ _ _ _ _ (by have:=HG.out;omega),(.inr (.inr (.inr (.inr (.inl ⟨rfl,HD.out,HH.out,HKL.out.1,HKL.out.2,rfl,rfl,rfl,rfl,fun p hp=>by show ((y2 p:Nat):Int)=(d2 p:Int);rw [HN2.out.2.1 p hp]⟩)))))⟩
    have e2:decide (v2<k)=false:=decide_eq_false hkh
    have HKL:=Lib.hid (show low<k∧k<v2 from by
     have h1:=HD.out
     have h2:=HH.out
     unfold HoldsP at h1 h2
     omega)
    clear hkl hkh
    have hun:=HUN.out w8 (hxw5.trans hx58)
    go_wp2_with fail
    go_at_call 29
    refine hun.mono ?_
    rintro e w9 ⟨b,rfl,hb,hx9⟩
    have hx59:=hx58.trans hx9
    have hx19:=hx15.trans hx59
    clear hun
    cases b with
    | true =>
     have HU:=Lib.hid (hb.1 rfl)
     have HK9:=Lib.hid (Hold.all8 (HKB.out.ext hx19) (.int .i64 1) (.bool true) (.int .i64 1) (.slice none 0 0) (.slice none 0 0) (.slice none 0 0) (.slice none 0 0) (.int .i64 0))
     have HX9:=Lib.hid (hxw5.trans hx59)
     clear hb
     go_wp2_with fail
     refine bodyPost_ret (rposs_results _ _ (w.heap.size+1) _ _ _ _ _ _ _ _ rfl HK9.out) rfl ?_
     exact ⟨HX9.out.put8 (by omega) _ _ _ _ _ _ _ _,true,1,none,0,0,0,0,0,fun _=>0,rfl,⟨by decide,fun h=>absurd h (Nat.not_lt_zero _),fun h=>absurd h (Nat.not_lt_zero _),fun k h=>absurd h (Nat.not_lt_zero _)⟩,.inr (.inr (.inr (.inr (.inr (.inl ⟨rfl,HKL.out.1,HKL.out.2,HU.out,rfl,rfl,rfl,rfl⟩)))))⟩
    | false =>
     have HU:=Lib.hid (show ¬UnitW (T.wfn D.l) (tott T.en T.n) from fun h=>absurd (hb.2 h) (by decide))
     clear hb
     go_wp2_with fail
     go_loopg [17] len (fun gg v17 wr=>∃ i:Nat,i≤len∧gg=len - i∧v17=.int .i64 i∧Ext w5 wr∧∀ j,j<i→T.toTr.sumAt D.l (fR R j)≠k)
     case atStart=>exact ⟨0,by omega,rfl,rfl,hx59,fun j h=>absurd h (Nat.not_lt_zero _)⟩
     case round=>
      obtain ⟨i,hi,rfl,rfl,hx5r,hall⟩:=hrel
      have hx1i:=hx15.trans hx5r
      have hxwi:=hxw5.trans hx5r
      have HALL:=Lib.hid hall
      clear hall hx19 hx59 hx18 hx58 hx16
      by_cases hli:i<len
      ·have hli':(i:Int)<(len:Int):=by omega
       have hiR:i<R.length:=by rw [←HLE.out];exact hli
       have hcell:=HCE.out i hiR
       have hvl:=HVL.out i hiR wr.drew hxwi.drew
       obtain ⟨ra,hra⟩:∃ z,z=R[i].a:=⟨_,rfl⟩
       obtain ⟨rc,hrc⟩:∃ z,z=R[i].c:=⟨_,rfl⟩
       obtain ⟨rg,hrg⟩:∃ z,z=R[i].g:=⟨_,rfl⟩
       obtain ⟨ro,hro⟩:∃ z,z=R[i].o:=⟨_,rfl⟩
       have HNR:=Lib.hid (show NumAt w5 T.n ra rg ro (natV (fR R i)) from by rw [hra,hrg,hro];exact HNM.out i hiR w5 hxw5)
       have HRG:=Lib.hid (show rg<w.heap.size from by rw [hrg];exact HGL.out i hiR)
       obtain rfl:ra=some ⟨rg,ro,none⟩:=HNR.out.pa hn1
       rw [←hra,←hrc] at hvl hcell
       obtain ⟨s,hs⟩:∃ z,z=T.toTr.sumAt D.l (fR R i):=⟨_,rfl⟩
       have HSV:=Lib.hid hs
       rw [←hs] at hvl
       clear hra hrc hrg hro hs
       go_upto_region 31 with fail
       refine wp_region_held_drew (S:=fun w'=>Ext wr w') (by kernel_rfl) (Ext.refl _).drew (fun hHeld=>?_)
       refine hQ 0 (v:=?_) rfl (y:=.inl ⟨by rfl,?_⟩) (h:=?_)
       rotate_left
       ·(intro w' hSw;(try dsimp only at hSw);have hS1:=hx1i.trans hSw;have hS0:=hxwi.trans hSw;have hSS:=Ext.refl w';go_simp;try with_reducible rfl)
       try simp only [Act.put,zA,zB,zC]
       refine hQ 1 (v:=?_) rfl (y:=.inl ⟨by rfl,?_⟩) (h:=?_)
       rotate_left
       ·(intro w' hSw;(try dsimp only at hSw);have hS1:=hx1i.trans hSw;have hS0:=hxwi.trans hSw;have hSS:=Ext.refl w';go_simp;try with_reducible rfl)
       try simp only [Act.put,zA,zB,zC]
       refine hQ 2 (v:=?_) rfl (y:=.inl ⟨by rfl,?_⟩) (h:=?_)
       rotate_left
       ·(intro w' hSw;(try dsimp only at hSw);have hS1:=hx1i.trans hSw;have hS0:=hxwi.trans hSw;have hSS:=Ext.refl w';go_simp;try with_reducible rfl)
       try simp only [Act.put,zA,zB,zC]
       refine hQ 3 (v:=?_) rfl (y:=.inl ⟨by rfl,?_⟩) (h:=?_)
       rotate_left
       ·(intro w' hSw;(try dsimp only at hSw);have hS1:=hx1i.trans hSw;have hS0:=hxwi.trans hSw;have hSS:=Ext.refl w';go_simp;try with_reducible rfl)
       try simp only [Act.put,zA,zB,zC]
       refine hQ 4 (v:=?_) rfl (y:=.inl ⟨by rfl,?_⟩) (h:=?_)
       rotate_left
       ·(intro w' hSw;(try dsimp only at hSw);have hS1:=hx1i.trans hSw;have hS0:=hxwi.trans hSw;have hSS:=Ext.refl w';go_simp;try with_reducible rfl)
       try simp only [Act.put,zA,zB,zC]
       refine hQ 5 (v:=?_) rfl (y:=.inl ⟨by rfl,?_⟩) (h:=?_)
       rotate_left
       ·(intro w' hSw;(try dsimp only at hSw);have hS1:=hx1i.trans hSw;have hS0:=hxwi.trans hSw;have hSS:=Ext.refl w';go_simp;try with_reducible rfl)
       try simp only [Act.put,zA,zB,zC]
       refine hQ 7 (v:=?_) rfl (y:=.inl ⟨by rfl,?_⟩) (h:=?_)
       rotate_left
       ·(intro w' hSw;(try dsimp only at hSw);have hS1:=hx1i.trans hSw;have hS0:=hxwi.trans hSw;have hSS:=Ext.refl w';go_simp;try with_reducible rfl)
       try simp only [Act.put,zA,zB,zC]
       refine wpAnyH_ready (rs:=[6]) (by kernel_rfl) (by simp) ?_
       refine AllReadyH.cons rfl (fun K hK=>?_) AllReadyH.nil
       go_simp
       go_at_call 31
       refine hvl.mono ?_
       rintro e w2' ⟨rfl,hx2'⟩
       have hxr2:Ext wr w2':=(Ext.refl wr).drew.trans hx2'
       refine hK.out _ _ ?_ (fun hHeld2=>?_)
       ·exact hxr2
       clear hK K
       try simp only [Act.put,zA,zB,zC]
       refine hQ 8 (v:=?_) rfl (y:=.inl ⟨by rfl,?_⟩) (h:=?_)
       rotate_left
       ·(intro w' hSw;(try dsimp only at hSw);have hS1:=hx1i.trans hSw;have hS0:=hxwi.trans hSw;have hSS:=Ext.refl w';go_simp;try with_reducible rfl)
       try simp only [Act.put,zA,zB,zC]
       refine wpAnyH_done (by kernel_rfl) ?_ _
       have hx52:=hx5r.trans hxr2
       have hxw2:=hxw5.trans hx52
       clear hHeld hHeld2 hvl hx2'
       by_cases he:s=k
       ·have dk:(s == k)=true:=by simpa using he
        have HEQ:=Lib.hid (show T.toTr.sumAt D.l (fR R i)=k from by rw [←HSV.out];exact he)
        clear he
        go_upto_region 33 with fail
        refine setm1 (G:=fun x=>Code.wp _ _ _ _ x) ?_
        intro w7 hw7
        have hx17:Ext w1 w7:=by rw [hw7];exact (hx15.trans hx52).setCell (by show w1.heap.size≤w3.heap.size+1;have:=HS1.out;have:=HS.out;omega) _
        obtain ⟨l7,c7,_,_⟩:=(show Hold w7 (w3.heap.size+1) #[.int .i64 1,.bool true,.int .i64 1,.slice (some ⟨rg,ro,none⟩) T.n rc,.slice none 0 0,.slice none 0 0,.slice none 0 0,.int .i64 0] from by rw [hw7];exact (HY.out.ext hx52).set 3 _).box
        have HK9:=Lib.hid (Hold.all8 (show Hold w7 (w.heap.size+1) #[.int .i64 0,.bool false,.int .i64 0,.slice none 0 0,.slice none 0 0,.slice none 0 0,.slice none 0 0,.int .i64 0] from by rw [hw7];exact (HKB.out.ext (hx15.trans hx52)).other _ _ (by show w.heap.size+1≠w3.heap.size+1;have:=HS.out;omega)) (.int .i64 1) (.bool true) (.int .i64 1) (.slice (some ⟨rg,ro,none⟩) T.n rc) (.slice none 0 0) (.slice none 0 0) (.slice none 0 0) (.int .i64 0))
        have HX7:=Lib.hid (show Ext w w7 from by rw [hw7];exact (hxw5.trans hx52).setCell (by show w.heap.size≤w3.heap.size+1;have:=HS.out;omega) _)
        have HN7:=Lib.hid (show NumAt w7 T.n (some ⟨rg,ro,none⟩) rg ro (natV (fR R i)) from by rw [hw7];exact (HNR.out.ext hx52).blk (Below.heap_setCell _ _ _ _ (by show rg≠w3.heap.size+1;exact (by have:=HRG.out;have:=HS.out;omega))) (Nat.le_of_eq (World.size_setCell _ _ _).symm))
        have h77:Ext w7 w7:=Ext.refl _
        clear hw7
        go_wp2_with fail
        refine bodyPost_ret (rposs_results _ _ (w.heap.size+1) _ _ _ _ _ _ _ _ rfl HK9.out) rfl ?_
        exact ⟨HX7.out.put8 (by omega) _ _ _ _ _ _ _ _,true,1,_,T.n,_,0,_,_,_,rfl,HN7.out.put8 _ _ _ _ _ _ _ _ _ (by have:=HRG.out;omega),(.inr (.inr (.inr (.inr (.inr (.inr (.inl ⟨rfl,HKL.out.1,HKL.out.2,HU.out,rfl,rfl,rfl,rfl,i,hiR,HEQ.out,HALL.out,fun _ _=>rfl⟩)))))))⟩
       ·have dk:(s == k)=false:=by simpa using he
        have HEQ:=Lib.hid (show ∀ j,j<i+1→T.toTr.sumAt D.l (fR R j)≠k from fun j hj=>by
         by_cases e:j=i
         ·subst e;rw [←HSV.out];exact he
         ·exact HALL.out j (by omega))
        clear he
        go_wp2_with fail
        go_roundg (len - (i+1))
        case rel=>exact ⟨i+1,by omega,rfl,by go_num,hx52,HEQ.out⟩
        case measure=>omega
      ·obtain rfl:i=len:=by omega
       go_upto_region 35 with fail
       refine setm1 (G:=fun x=>Code.wp _ _ _ _ x) ?_
       intro w7 hw7
       have hx17:Ext w1 w7:=by rw [hw7];exact hx1i.setCell (by show w1.heap.size≤w3.heap.size;have:=HS1.out;have:=HS.out;omega) _
       obtain ⟨l7,c7,_,_⟩:=(show Hold w7 w3.heap.size #[.int .i64 1,.bool false,.int .i64 6,.slice none 0 0,.slice none 0 0,.slice none 0 0,.slice none 0 0,.int .i64 0] from by rw [hw7];exact (HOUT.out.ext hx5r).set 2 _).box
       have HK9:=Lib.hid (Hold.all8 (show Hold w7 (w.heap.size+1) #[.int .i64 0,.bool false,.int .i64 0,.slice none 0 0,.slice none 0 0,.slice none 0 0,.slice none 0 0,.int .i64 0] from by rw [hw7];exact (HKB.out.ext hx1i).other _ _ (by show w.heap.size+1≠w3.heap.size;have:=HS.out;omega)) (.int .i64 1) (.bool false) (.int .i64 6) (.slice none 0 0) (.slice none 0 0) (.slice none 0 0) (.slice none 0 0) (.int .i64 0))
       have HX7:=Lib.hid (show Ext w w7 from by rw [hw7];exact hxwi.setCell (by show w.heap.size≤w3.heap.size;have:=HS.out;omega) _)
       have h77:Ext w7 w7:=Ext.refl _
       clear hw7
       go_wp2_with fail
       refine bodyPost_ret (rposs_results _ _ (w.heap.size+1) _ _ _ _ _ _ _ _ rfl HK9.out) rfl ?_
       exact ⟨HX7.out.put8 (by omega) _ _ _ _ _ _ _ _,false,6,none,0,0,0,0,0,fun _=>0,rfl,⟨by decide,fun h=>absurd h (Nat.not_lt_zero _),fun h=>absurd h (Nat.not_lt_zero _),fun k h=>absurd h (Nat.not_lt_zero _)⟩,.inr (.inr (.inr (.inr (.inr (.inr (.inr ⟨rfl,HKL.out.1,HKL.out.2,HU.out,rfl,rfl,rfl,rfl,fun j hj=>HALL.out j (by rw [HLE.out];exact hj)⟩))))))⟩
  ·go_wp2_with fail
   go_at_call 148
   refine (rholds_any w6 10 v2 k).mono ?_
   rintro e w8 ⟨b,rfl,hb,hx8⟩
   have hx58:=hx6.trans hx8
   have hx18:=hx15.trans hx58
   cases b with
   | true =>
    have HH:=Lib.hid (hb.1 rfl)
    clear hb
    go_upto_region 10 with fail
    refine setm1 (G:=fun x=>Code.wp _ _ _ _ x) ?_
    intro w7 hw7
    have hx17:Ext w1 w7:=by rw [hw7];exact (hx15.trans hx58).setCell (by show w1.heap.size≤w3.heap.size+1;have:=HS1.out;have:=HS.out;omega) _
    obtain ⟨l7,c7,_,_⟩:=(show Hold w7 (w3.heap.size+1) #[.int .i64 1,.bool true,.int .i64 1,.slice (some ⟨g2,o2,none⟩) T.n q2,.slice none 0 0,.slice none 0 0,.slice none 0 0,.int .i64 0] from by rw [hw7];exact (HY.out.ext hx58).set 3 _).box
    have HK9:=Lib.hid (Hold.all8 (show Hold w7 (w.heap.size+1) #[.int .i64 0,.bool false,.int .i64 0,.slice none 0 0,.slice none 0 0,.slice none 0 0,.slice none 0 0,.int .i64 0] from by rw [hw7];exact (HKB.out.ext (hx15.trans hx58)).other _ _ (by show w.heap.size+1≠w3.heap.size+1;have:=HS.out;omega)) (.int .i64 1) (.bool true) (.int .i64 1) (.slice (some ⟨g2,o2,none⟩) T.n q2) (.slice none 0 0) (.slice none 0 0) (.slice none 0 0) (.int .i64 0))
    have HX7:=Lib.hid (show Ext w w7 from by rw [hw7];exact (hxw5.trans hx58).setCell (by show w.heap.size≤w3.heap.size+1;have:=HS.out;omega) _)
    have HN7:=Lib.hid (show NumAt w7 T.n (some ⟨g2,o2,none⟩) g2 o2 (natV y2) from by rw [hw7];exact (HM5.out.ext hx58).blk (Below.heap_setCell _ _ _ _ (by show g2≠w3.heap.size+1;exact (by have:=HG.out;omega))) (Nat.le_of_eq (World.size_setCell _ _ _).symm))
    have h77:Ext w7 w7:=Ext.refl _
    clear hw7
    go_wp2_with fail
    refine bodyPost_ret (rposs_results _ _ (w.heap.size+1) _ _ _ _ _ _ _ _ rfl HK9.out) rfl ?_
    exact ⟨HX7.out.put8 (by omega) _ _ _ _ _ _ _ _,true,1,_,T.n,_,0,_,_,_,rfl,HN7.out.put8 _ _ _ _ _ _ _ _ _ (by have:=HG.out;omega),(.inr (.inl ⟨HD.out,.inl rfl,HH.out,rfl,rfl,rfl,rfl,fun p hp=>by show ((y2 p:Nat):Int)=(d2 p:Int);rw [HN2.out.2.1 p hp]⟩))⟩
   | false =>
    have HH:=Lib.hid (show ¬HoldsP 10 v2 k from fun h=>absurd (hb.2 h) (by decide))
    clear hb
    go_upto_region 14 with fail
    refine setm2 (G:=fun x=>Code.wp _ _ _ _ x) ?_
    intro w7 hw7
    have hx17:Ext w1 w7:=by rw [hw7];exact (hx18.setCell (by show w1.heap.size≤w3.heap.size;have:=HS1.out;have:=HS.out;omega) _).setCell (by show w1.heap.size≤w3.heap.size;have:=HS1.out;have:=HS.out;omega) _
    have HO7:=Lib.hid (show Hold w7 w3.heap.size #[.int .i64 1,.bool false,.int .i64 5,.slice none 0 0,.slice none 0 0,.slice none 0 0,.slice none 0 0,.int .i64 k] from by rw [hw7];exact ((HOUT.out.ext hx58).set 2 _).set 7 _)
    have HK7:=Lib.hid (show Hold w7 (w.heap.size+1) #[.int .i64 0,.bool false,.int .i64 0,.slice none 0 0,.slice none 0 0,.slice none 0 0,.slice none 0 0,.int .i64 0] from by rw [hw7];exact ((HKB.out.ext hx18).other _ _ (by show w.heap.size+1≠w3.heap.size;have:=HS.out;omega)).other _ _ (by show w.heap.size+1≠w3.heap.size;have:=HS.out;omega))
    have HX7:=Lib.hid (show Ext w w7 from by rw [hw7];exact ((hxw5.trans hx58).setCell (by show w.heap.size≤w3.heap.size;have:=HS.out;omega) _).setCell (by show w.heap.size≤w3.heap.size;have:=HS.out;omega) _)
    have HLE7:=Lib.hid (show w3.heap.size<w7.heap.size from HO7.out.lt)
    clear hw7
    go_upto_region 15 with (at_make;refine wpList_make_full _ rfl _ _ 28 rfl w7.heap.size 3 j0 (.int .i64 0) 1 Tryz.underlying28 hj0 hy0 hy1 .i64 .i64 _ _ T.n rfl rfl rfl rfl (by rw [hy2];omega) (by unfold maxLen;omega) (Nat.le_refl _) ?_;intro w9 hown9 hg9;have hx79:Ext w7 w9:=(Below.refl _ _).grown hg9 (Nat.le_refl _) (by simp);have hx19:=hx17.trans hx79;obtain ⟨l9,c9,f9,_⟩:=(HO7.out.ext hx79).box;have hx99:Ext w9 w9:=Ext.refl _)
    have HI9:=Lib.hid (IntRow.made hown9)
    refine setm1 (G:=fun x=>Code.wp _ _ _ _ x) ?_
    intro w10 hw10
    have hx110:Ext w1 w10:=by rw [hw10];exact hx19.setCell (by show w1.heap.size≤w3.heap.size;have:=HS1.out;have:=HS.out;omega) _
    obtain ⟨l10,c10,_,_⟩:=(show Hold w10 w3.heap.size #[.int .i64 1,.bool false,.int .i64 5,.slice (some ⟨w7.heap.size,0,none⟩) T.n T.n,.slice none 0 0,.slice none 0 0,.slice none 0 0,.int .i64 k] from by rw [hw10];exact (HO7.out.ext hx79).set 3 _).box
    have HK9:=Lib.hid (Hold.all8 (show Hold w10 (w.heap.size+1) #[.int .i64 0,.bool false,.int .i64 0,.slice none 0 0,.slice none 0 0,.slice none 0 0,.slice none 0 0,.int .i64 0] from by rw [hw10];exact (HK7.out.ext hx79).other _ _ (by show w.heap.size+1≠w3.heap.size;have:=HS.out;omega)) (.int .i64 1) (.bool false) (.int .i64 5) (.slice (some ⟨w7.heap.size,0,none⟩) T.n T.n) (.slice none 0 0) (.slice none 0 0) (.slice none 0 0) (.int .i64 k))
    have HX10:=Lib.hid (show Ext w w10 from by rw [hw10];exact (HX7.out.trans hx79).setCell (by show w.heap.size≤w3.heap.size;have:=HS.out;omega) _)
    have HN10:=Lib.hid (show NumAt w10 T.n (some ⟨w7.heap.size,0,none⟩) w7.heap.size 0 (fun _=>0) from by rw [hw10];exact (HI9.out.num (by omega)).blk (Below.heap_setCell _ _ _ _ (by show w7.heap.size≠w3.heap.size;have:=HLE7.out;omega)) (Nat.le_of_eq (World.size_setCell _ _ _).symm))
    have h1010:Ext w10 w10:=Ext.refl _
    clear hw10 hown9 hg9 l9 c9 f9
    go_wp2_with fail
    refine bodyPost_ret (rposs_results _ _ (w.heap.size+1) _ _ _ _ _ _ _ _ rfl HK9.out) rfl ?_
    exact ⟨HX10.out.put8 (by omega) _ _ _ _ _ _ _ _,false,5,_,T.n,_,_,_,_,_,rfl,HN10.out.put8 _ _ _ _ _ _ _ _ _ (by have:=HLE7.out;have:=HS.out;omega),.inr (.inr (.inl ⟨rfl,HD.out,HH.out,rfl,rfl,rfl,rfl,fun _ _=>rfl⟩))⟩
end Go.Proofs.YtnknkkmdbnaglaaGreat
