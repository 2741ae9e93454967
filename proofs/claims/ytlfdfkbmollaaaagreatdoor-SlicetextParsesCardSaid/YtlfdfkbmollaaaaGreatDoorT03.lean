/- Contracts and laws in plain Lean for RApp: group T03. -/
import Derived.Test.YtlfdfkbmollaaaaGreatDoorT02
set_option maxRecDepth 100000
namespace Go.Proofs.YtlfdfkbmollaaaaGreatDoor
open Go.RowKit
theorem hQ {P : Program} {Q : Exit → Act → World → Prop} {md : Region.Mode} {S : World → Prop} {l : List Oper} (i : Nat) {oi : Oper} {v : Value} {fuel : Nat} {listed : Array Bool} {a : Act} {w : World} (hi : l[i]? = some oi)
    (hs : Region.noSelect l.toArray = true := by kernel_rfl) (hf : Region.free md l.toArray listed i = true := by kernel_rfl) (hr : (Region.ready md l.toArray listed).contains i = true := by kernel_rfl)
    (hQ : ∀ c a w, Q (.panic c) (a.put oi.dst v) w → Q (.panic c) a w := by exact fun _ _ _ h => h) (y : YieldsIf P l.toArray S oi v a) (hS : S w := by assumption)
    (h : wpAnyH P md l.toArray Q S fuel (listed.setIfInBounds i true) (a.put oi.dst v) w) : wpAnyH P md l.toArray Q S (fuel + 1) listed a w :=
 heldTake i hi hs hf hr hQ y hS h
theorem zA {α : Type _} (l : List α) (i : Nat) (a : α) : l.toArray.setIfInBounds i a = (l.set i a).toArray := List.setIfInBounds_toArray l i a
theorem zB {α : Type _} (x : α) (l : List α) (a : α) : (x :: l).set 0 a = a :: l := rfl
theorem zC {α : Type _} (x : α) (l : List α) (n : Nat) (a : α) : (x :: l).set (n + 1) a = x :: l.set n a := rfl
end Go.Proofs.YtlfdfkbmollaaaaGreatDoor
namespace Go.Proofs.YtlfdfkbmollaaaaGreatDoor
open Go.RowKit Go.Shelf
def Tr.VarOk (T:Tr) (k i:Nat):Prop:=nameB (T.vname k i)=true∧anyB (fun j=>strEq (T.vname k j) (T.vname k i)) i=false∧inB (T.vinit k i) (-1073741824) 1073741824=true
def Tr.PrOk (T:Tr) (k:Nat):Prop:=nameB (T.name k)=true∧anyB (fun j=>strEq (T.name j) (T.name k)) k=false∧T.vn k≤8∧(∀ i,i<T.vn k→T.VarOk k i)∧T.en k≤64
def ErrPost (p:Prop) (w:World) (e:Ending) (w':World):Prop:=∃ c:Int,e=.returned (.int .i64 c)∧(c=0↔p)∧Ext w w'
theorem ErrPost.bad {p:Prop} {w w':World} {c:Int} (hc:c≠0) (hp:¬p) (hx:Ext w w'):ErrPost p w (.returned (.int .i64 c)) w':=⟨c,rfl,⟨fun h=>absurd h hc,fun h=>absurd h hp⟩,hx⟩
theorem ErrPost.good {p:Prop} {w w':World} (hp:p) (hx:Ext w w'):ErrPost p w (.returned (.int .i64 0)) w':=⟨0,rfl,⟨fun _=>hp,fun _=>rfl⟩,hx⟩
theorem hasPr (w : World) (T : TM) (hT : T.At w) (q : Nat) (hq : q ≤ T.n) (cap : Nat) (g : Nat) (lb : Array Value) (p : Nat → Bool) (eg : Enters Tryz.prog g)
    (hp:∀ i,i<q→∀ w',Ext w w'→Calls Tryz.prog g (#[T.pr i]++lb) w' fun e w''=>e=.returned (.bool (p i))∧Ext w' w'') :
    Calls Tryz.prog 176 #[.slice (some ⟨T.b,T.off,none⟩) q cap,.func (.func g) #[] lb] w fun e w'=>e=.returned (.bool (anyB p q))∧Ext w w':=
 has_Proc w _ T.b T.off q cap (fun i=>.string (T.name i)) (fun i=>.slice (T.va i) (T.vn i) (T.vc i)) (fun i=>.slice (T.ea i) (T.en i) (T.ec i))
  g lb p (by have:=hT.P.hn;omega) (fun _=>rfl) (fun w' hx i hi=>hT.P.p0 w' hx i (by omega)) (fun w' hx i hi=>hT.P.p1 w' hx i (by omega)) (fun w' hx i hi=>hT.P.p2 w' hx i (by omega)) eg hp
theorem hasVr (w : World) (T : TM) (hT : T.At w) (k : Nat) (hk : k < T.n) (q : Nat) (hq : q ≤ T.vn k) (cap : Nat) (g : Nat) (lb : Array Value) (p : Nat → Bool) (eg : Enters Tryz.prog g)
    (hp:∀ i,i<q→∀ w',Ext w w'→Calls Tryz.prog g (#[.agg #[.string (T.vname k i),.int .i64 (T.vinit k i)]]++lb) w' fun e w''=>e=.returned (.bool (p i))∧Ext w' w'') :
    Calls Tryz.prog 178 #[.slice (some ⟨T.vb k,T.vo k,none⟩) q cap,.func (.func g) #[] lb] w fun e w'=>e=.returned (.bool (anyB p q))∧Ext w w':=
 has_Var w _ (T.vb k) (T.vo k) q cap (fun i=>.string (T.vname k i)) (fun i=>.int .i64 (T.vinit k i))
  g lb p (by have:=hT.V.hv k hk;omega) (fun _=>rfl) (fun w' hx i hi=>hT.V.v0 w' hx k i hk (by omega)) (fun w' hx i hi=>hT.V.v1 w' hx k i hk (by omega)) eg hp
set_option maxHeartbeats 1000000 in
theorem processFault_any (w : World) (T : TM) (hT : T.At w) (p : Nat) (hp : p < T.n) :
    Calls Tryz.prog 130 #[T.val,.int .i64 p] w (ErrPost (T.PrOk p) w):=by
 have hp':(p:Int)<(T.n:Int):=by omega
 have pa:=hT.P.pa (by omega)
 have pb:=hT.P.pb (by omega)
 have p0:=hT.P.p0
 have p1:=hT.P.p1
 have p2:=hT.P.p2
 have hnm:=hT.ok.name p hp
 have hcap:¬T.cap=0:=by have:=hT.P.pc;omega
 have hcap':(p:Int)≤(T.cap:Int):=by have:=hT.P.pc;omega
 have HT:=Lib.hid hT
 clear hT
 go_enter Tryz.func130,Tryz.ntmps130
 go_upto_region 1 with fail
 refine boxed1 (w:=w) (G:=fun x=>Code.wp _ _ _ _ x) ?_
 intro w1 hx1 hs1 ⟨l0,c0,_,_⟩
 have hxx:Ext w1 w1:=Ext.refl _
 go_upto_region 2 with fail
 refine boxed1 (w:=w1) (G:=fun x=>Code.wp _ _ _ _ x) ?_
 intro w2 hx2 hs2 bx
 rw [hs1] at bx
 obtain ⟨l1,c1,_,_⟩:=bx
 have HS:=Lib.hid (show w.heap.size+2≤w2.heap.size by omega)
 have hxw:Ext w w2:=hx1.trans hx2
 have hx22:Ext w2 w2:=Ext.refl _
 clear hs1 hs2 hxx
 have hPr:=hasPr w2 T (HT.out.ext hxw) p (by omega) T.cap 177 #[.pointer (some ⟨w.heap.size+1,0,none⟩)] (fun j=>strEq (T.name j) (T.name p)) (enters_of Tryz.func177 (by kernel_rfl) rfl)
  (fun i hi w' hx'=>by exact processFault1 w' (T.name i) (T.name p) _ _ _ (c1 w' hx' 0))
 cases e1:nameB (T.name p) with
 | false =>
  clear hPr
  go_wp2_with (go_at_call 175;refine (isName_any _ _ hnm).mono ?_;rintro e w' ⟨rfl,rfl⟩)
  go_ret
  exact ErrPost.bad (by decide) (fun h=>by rw [h.1] at e1;cases e1) hxw
 | true =>
  cases e2:anyB (fun j=>strEq (T.name j) (T.name p)) p with
  | true =>
   rw [e2] at hPr
   go_wp2_with (first | (go_at_call 175;refine (isName_any _ _ hnm).mono ?_;rintro e w' ⟨rfl,rfl⟩) | (go_at_call 176;refine hPr.mono ?_;rintro e w' ⟨rfl,hx'⟩))
   go_ret
   exact ErrPost.bad (by decide) (fun h=>by rw [h.2.1] at e2;cases e2) (hxw.trans hx')
  | false =>
   rw [e2] at hPr
   by_cases h8:T.vn p≤8
   ·have h8':decide ((8:Int)<(T.vn p:Int))=false:=by simp;omega
    have v0:=HT.out.V.v0
    have v1:=HT.out.V.v1
    by_cases hv0:0<T.vn p
    ·have va:=HT.out.V.va p hp hv0
     have vb:=HT.out.V.vb p hp hv0
     go_wp2_with (first | (go_at_call 175;refine (isName_any _ _ hnm).mono ?_;rintro e w' ⟨rfl,rfl⟩) | (go_at_call 176;refine hPr.mono ?_;rintro e w3 ⟨rfl,hx3⟩;clear hPr))
     have h23:Ext w2 w3:=hx3
     go_loopw [34] (fun v wr=>∃ i:Nat,i≤T.vn p∧v=.int .i64 i∧Ext w2 wr∧∀ j,j<i→T.VarOk p j) (fun v _=>T.vn p - (intOf v).toNat)
     case atStart=>exact ⟨0,Nat.zero_le _,rfl,h23,fun j hj=>absurd hj (Nat.not_lt_zero _)⟩
     case round=>
      obtain ⟨i,hi,rfl,hxr,hok⟩:=hrel
      have HOK:=Lib.hid hok
      clear hok
      have hxr':Ext w wr:=hxw.trans hxr
      by_cases hlt:i<T.vn p
      ·have hlt':(i:Int)<(T.vn p:Int):=by omega
       have hvn:=HT.out.ok.vname p i hp hlt
       have hvc:¬T.vc p=0:=by have:=HT.out.V.vc p hp;omega
       have hvc':(i:Int)≤(T.vc p:Int):=by have:=HT.out.V.vc p hp;omega
       go_upto_region 9 with fail
       refine boxed1 (w:=wr) (G:=fun x=>Code.wp _ _ _ _ x) ?_
       intro w4 hx4 hs4 ⟨l4,c4,_,_⟩
       clear hs4
       have hx24:Ext w2 w4:=hxr.trans hx4
       have hxw4:Ext w w4:=hxr'.trans hx4
       have hx44:Ext w4 w4:=Ext.refl _
       have hVr:=hasVr w4 T (HT.out.ext hxw4) p hp i (by omega) (T.vc p) 179 #[.pointer (some ⟨wr.heap.size,0,none⟩)] (fun j=>strEq (T.vname p j) (T.vname p i)) (enters_of Tryz.func179 (by kernel_rfl) rfl)
        (fun j hj w' hx'=>by exact processFault2 w' (T.vname p j) (T.vname p i) _ _ (c4 w' hx' 0))
       cases e3:nameB (T.vname p i) with
       | false =>
        clear hVr
        go_wp2_with (go_at_call 175;refine (isName_any _ _ hvn).mono ?_;rintro e w' ⟨rfl,rfl⟩)
        go_ret
        exact ErrPost.bad (by decide) (fun h=>by rw [(h.2.2.2.1 i hlt).1] at e3;cases e3) hxw4
       | true =>
        cases e4:anyB (fun j=>strEq (T.vname p j) (T.vname p i)) i with
        | true =>
         rw [e4] at hVr
         go_wp2_with (first | (go_at_call 175;refine (isName_any _ _ hvn).mono ?_;rintro e w' ⟨rfl,rfl⟩) | (go_at_call 178;refine hVr.mono ?_;rintro e w5 ⟨rfl,hx5⟩;clear hVr))
         go_ret
         exact ErrPost.bad (by decide) (fun h=>by rw [(h.2.2.2.1 i hlt).2.1] at e4;cases e4) (hxw4.trans hx5)
        | false =>
         rw [e4] at hVr
         cases e5:inB (T.vinit p i) (-1073741824) 1073741824 with
         | false =>
          go_wp2_with (first | (go_at_call 175;refine (isName_any _ _ hvn).mono ?_;rintro e w' ⟨rfl,rfl⟩) | (go_at_call 178;refine hVr.mono ?_;rintro e w5 ⟨rfl,hx5⟩;clear hVr) | (go_at_call 129;refine (in_any _ _ _ _).mono ?_;rintro e w' ⟨rfl,rfl⟩))
          go_ret
          exact ErrPost.bad (by decide) (fun h=>by rw [(h.2.2.2.1 i hlt).2.2] at e5;cases e5) (hxw4.trans hx5)
         | true =>
          go_wp2_with (first | (go_at_call 175;refine (isName_any _ _ hvn).mono ?_;rintro e w' ⟨rfl,rfl⟩) | (go_at_call 178;refine hVr.mono ?_;rintro e w5 ⟨rfl,hx5⟩;clear hVr) | (go_at_call 129;refine (in_any _ _ _ _).mono ?_;rintro e w' ⟨rfl,rfl⟩))
          go_roundw
          case rel=>exact ⟨i+1,by omega,by go_num,hx24.trans hx5,fun j hj=>by
           by_cases ej:j=i
           ·subst ej;exact ⟨e3,e4,e5⟩
           ·exact HOK.out j (by omega)⟩
          case measure=>simp [intOf];omega
      ·have HOK2:=Lib.hid (show ∀ j,j<T.vn p→T.VarOk p j from fun j hj=>HOK.out j (by omega))
       by_cases h64:T.en p≤64
       ·go_wp2
        go_ret
        exact ErrPost.good ⟨e1,e2,h8,HOK2.out,h64⟩ hxr'
       ·go_wp2
        go_ret
        exact ErrPost.bad (by decide) (fun h=>h64 h.2.2.2.2) hxr'
    ·skip
     go_wp2_with (first | (go_at_call 175;refine (isName_any _ _ hnm).mono ?_;rintro e w' ⟨rfl,rfl⟩) | (go_at_call 176;refine hPr.mono ?_;rintro e w3 ⟨rfl,hx3⟩;clear hPr))
     have h23:Ext w2 w3:=hx3
     go_loopw [34] (fun v wr=>∃ i:Nat,i≤T.vn p∧v=.int .i64 i∧Ext w2 wr∧∀ j,j<i→T.VarOk p j) (fun v _=>T.vn p - (intOf v).toNat)
     case atStart=>exact ⟨0,Nat.zero_le _,rfl,h23,fun j hj=>absurd hj (Nat.not_lt_zero _)⟩
     case round=>
      obtain ⟨i,hi,rfl,hxr,hok⟩:=hrel
      have HOK:=Lib.hid hok
      clear hok
      have hxr':Ext w wr:=hxw.trans hxr
      by_cases hlt:i<T.vn p
      ·exact absurd hlt (by omega)
      ·have HOK2:=Lib.hid (show ∀ j,j<T.vn p→T.VarOk p j from fun j hj=>HOK.out j (by omega))
       by_cases h64:T.en p≤64
       ·go_wp2
        go_ret
        exact ErrPost.good ⟨e1,e2,h8,HOK2.out,h64⟩ hxr'
       ·go_wp2
        go_ret
        exact ErrPost.bad (by decide) (fun h=>h64 h.2.2.2.2) hxr'
   ·go_wp2_with (first | (go_at_call 175;refine (isName_any _ _ hnm).mono ?_;rintro e w' ⟨rfl,rfl⟩) | (go_at_call 176;refine hPr.mono ?_;rintro e w' ⟨rfl,hx'⟩;have hxw':=hxw.trans hx'))
    go_ret
    exact ErrPost.bad (by decide) (fun h=>h8 h.2.2.1) hxw'
def Tr.AsgOk (T:Tr) (p i j:Nat):Prop:=inB (T.avar p i j) 0 ((T.vn p:Int) - 1)=true∧inB (T.aval p i j) (-1073741824) 1073741824=true∧anyB (fun l=>T.avar p i l == T.avar p i j) j=false
def Tr.last (T:Tr) (p i:Nat):Int:=if i=0 then 0 else T.time p (i - 1)
def Tr.EvOk (T:Tr) (p i:Nat):Prop:=FormedP T p (T.kind p i) (T.peer p i) (T.msg p i)∧inB (T.time p i) 0 1099511627776=true∧T.last p i≤T.time p i∧T.an p i≤8∧∀ j,j<T.an p i→T.AsgOk p i j
theorem hasAs (w : World) (T : TM) (hT : T.At w) (k i : Nat) (hk : k < T.n) (hi : i < T.en k) (q : Nat) (hq : q ≤ T.an k i) (cap : Nat) (g : Nat) (lb : Array Value) (p : Nat → Bool) (eg : Enters Tryz.prog g)
    (hp:∀ j,j<q→∀ w',Ext w w'→Calls Tryz.prog g (#[.agg #[.int .i64 (T.avar k i j),.int .i64 (T.aval k i j)]]++lb) w' fun e w''=>e=.returned (.bool (p j))∧Ext w' w'') :
    Calls Tryz.prog 182 #[.slice (some ⟨T.ab k i,T.ao k i,none⟩) q cap,.func (.func g) #[] lb] w fun e w'=>e=.returned (.bool (anyB p q))∧Ext w w':=
 has_Assign w _ (T.ab k i) (T.ao k i) q cap (fun j=>.int .i64 (T.avar k i j)) (fun j=>.int .i64 (T.aval k i j))
  g lb p (by have:=hT.A.ha k i hk hi;omega) (fun _=>rfl) (fun w' hx j hj=>hT.A.a0 w' hx k i j hk hi (by omega)) (fun w' hx j hj=>hT.A.a1 w' hx k i j hk hi (by omega)) eg hp
set_option maxHeartbeats 1000000 in
theorem eventFault_any (w : World) (T : TM) (hT : T.At w) (p i : Nat) (hp : p < T.n) (hi : i < T.en p) :
    Calls Tryz.prog 132 #[T.val,.agg #[.int .i64 p,.int .i64 (i+1)],T.ev p i] w (ErrPost (T.EvOk p i) w):=by
 have hp':(p:Int)<(T.n:Int):=by omega
 have pa:=hT.P.pa (by omega)
 have pb:=hT.P.pb (by omega)
 have p0:=hT.P.p0
 have p1:=hT.P.p1
 have p2:=hT.P.p2
 have ea:=hT.E.ea p hp (by omega)
 have eb:=hT.E.eb p hp (by omega)
 have e3:=hT.E.e3
 have hen:=hT.E.he p hp
 have HT:=Lib.hid hT
 clear hT
 go_enter Tryz.func132,Tryz.ntmps132
 go_upto_region 1 with fail
 refine boxed3 (w:=w) (G:=fun x=>Code.wp _ _ _ _ x) ?_
 intro w1 hx1 hs1 ⟨l0,c0,_,_⟩ ⟨l1,c1,_,_⟩ ⟨l2,c2,_,_⟩
 have hxx:Ext w1 w1:=Ext.refl _
 go_upto_region 2 with fail
 refine boxed1 (w:=w1) (G:=fun x=>Code.wp _ _ _ _ x) ?_
 intro w2 hx2 hs2 bx
 rw [hs1] at bx
 replace l0:=fun w' (h:Ext w2 w')=>l0 w' (hx2.trans h)
 replace l1:=fun w' (h:Ext w2 w')=>l1 w' (hx2.trans h)
 replace l2:=fun w' (h:Ext w2 w')=>l2 w' (hx2.trans h)
 replace c0:=fun w' (h:Ext w2 w')=>c0 w' (hx2.trans h)
 replace c1:=fun w' (h:Ext w2 w')=>c1 w' (hx2.trans h)
 replace c2:=fun w' (h:Ext w2 w')=>c2 w' (hx2.trans h)
 obtain ⟨l3,c3,_,_⟩:=bx
 have HS:=Lib.hid (show w.heap.size+4≤w2.heap.size by omega)
 have hxw:Ext w w2:=hx1.trans hx2
 have hx22:Ext w2 w2:=Ext.refl _
 clear hs1 hs2 hxx
 obtain ⟨i',rfl⟩ | rfl:(∃ i',i=i'+1)∨i=0:=by cases i with | zero=>exact .inr rfl | succ n=>exact .inl ⟨n,rfl⟩
 ·have hi':i'<T.en p:=by omega
  have HL:Hid (T.last p (i'+1)=T.time p i'):=by simp [Hid,Tr.last]
  go_upto_region 5 with fail
  by_cases hf:FormedP T.toTr p (T.kind p (i'+1)) (T.peer p (i'+1)) (T.msg p (i'+1))
  ·have hF : Calls Tryz.prog 181 #[.agg #[.slice (some ⟨T.b, T.off, none⟩) T.n T.cap], .int .i64 p, T.ev p (i'+1)] w2 fun e w' => e = .returned (.bool true) ∧ Ext w2 w' := by
     rw [←pa]
     exact (formed_any w2 T (HT.out.ext hxw) p _ _ _ _ _).mono fun e w' ⟨b,he,hb,hx⟩=>⟨by rw [he,hb.2 hf],hx⟩
   cases e5:inB (T.time p (i'+1)) 0 1099511627776 with
   | false =>
    go_wp2_with (first | (go_at_call 181;refine hF.mono ?_;rintro e w3 ⟨rfl,hx3⟩;clear hF;have hxw3:=hxw.trans hx3) | (go_at_call 129;refine (in_any _ _ _ _).mono ?_;rintro e w' ⟨rfl,rfl⟩))
    go_ret
    exact ErrPost.bad (by decide) (fun h=>by rw [h.2.1] at e5;cases e5) hxw3
   | true =>
    by_cases hla:(T.time p i')≤T.time p (i'+1)
    ·by_cases h8:T.an p (i'+1)≤8
     ·have h8':decide ((8:Int)<(T.an p (i'+1):Int))=false:=by simp;omega
      have hla':decide (T.time p (i'+1)<(T.time p i'))=false:=by simp;omega
      have a0:=HT.out.A.a0
      have a1:=HT.out.A.a1
      by_cases ha0:0<T.an p (i'+1)
      ·have aa:=HT.out.A.aa p (i'+1) hp hi ha0
       have ab:=HT.out.A.ab p (i'+1) hp hi ha0
       simp only [TM.ev,aa] at hF
       go_wp2_with (first | (go_at_call 181;refine hF.mono ?_;rintro e w3 ⟨rfl,hx3⟩;clear hF;have hxw3:=hxw.trans hx3) | (go_at_call 129;refine (in_any _ _ _ _).mono ?_;rintro e w' ⟨rfl,rfl⟩))
       go_loopw [54] (fun v wr=>∃ j:Nat,j≤T.an p (i'+1)∧v=.int .i64 j∧Ext w2 wr∧∀ l,l<j→T.AsgOk p (i'+1) l) (fun v _=>T.an p (i'+1) - (intOf v).toNat)
       case atStart=>exact ⟨0,Nat.zero_le _,rfl,hx3,fun j hj=>absurd hj (Nat.not_lt_zero _)⟩
       case round=>
        obtain ⟨j,hj,rfl,hxr,hok⟩:=hrel
        have HOK:=Lib.hid hok
        clear hok
        have hxr':Ext w wr:=hxw.trans hxr
        by_cases hlt:j<T.an p (i'+1)
        ·have hlt':(j:Int)<(T.an p (i'+1):Int):=by omega
         have hvc:¬T.ac p (i'+1)=0:=by have:=HT.out.A.ac p (i'+1) hp hi;omega
         have hvc':(j:Int)≤(T.ac p (i'+1):Int):=by have:=HT.out.A.ac p (i'+1) hp hi;omega
         have hvn:=HT.out.V.hv p hp
         go_upto_region 14 with fail
         refine boxed1 (w:=wr) (G:=fun x=>Code.wp _ _ _ _ x) ?_
         intro w4 hx4 hs4 ⟨l4,c4,_,_⟩
         clear hs4
         have hx24:Ext w2 w4:=hxr.trans hx4
         have hxw4:Ext w w4:=hxr'.trans hx4
         have hx44:Ext w4 w4:=Ext.refl _
         have hAs:=hasAs w4 T (HT.out.ext hxw4) p (i'+1) hp hi j (by omega) (T.ac p (i'+1)) 183 #[.pointer (some ⟨wr.heap.size,0,none⟩)] (fun l=>T.avar p (i'+1) l == T.avar p (i'+1) j) (enters_of Tryz.func183 (by kernel_rfl) rfl)
          (fun l hl w' hx'=>by exact eventFault1 w' (T.avar p (i'+1) l) (T.avar p (i'+1) j) _ _ (c4 w' hx' 0))
         cases e6:inB (T.avar p (i'+1) j) 0 ((T.vn p:Int) - 1) with
         | false =>
          clear hAs
          go_wp2_with (go_at_call 129;refine (in_any _ _ _ _).mono ?_;rintro e w' ⟨rfl,rfl⟩)
          go_ret
          exact ErrPost.bad (by decide) (fun h=>by rw [(h.2.2.2.2 j hlt).1] at e6;cases e6) hxw4
         | true =>
          cases e7:inB (T.aval p (i'+1) j) (-1073741824) 1073741824 with
          | false =>
           clear hAs
           go_wp2_with (go_at_call 129;refine (in_any _ _ _ _).mono ?_;rintro e w' ⟨rfl,rfl⟩)
           go_ret
           exact ErrPost.bad (by decide) (fun h=>by rw [(h.2.2.2.2 j hlt).2.1] at e7;cases e7) hxw4
          | true =>
           cases e8:anyB (fun l=>T.avar p (i'+1) l == T.avar p (i'+1) j) j with
           | true =>
            rw [e8] at hAs
            go_wp2_with (first | (go_at_call 129;refine (in_any _ _ _ _).mono ?_;rintro e w' ⟨rfl,rfl⟩) | (go_at_call 182;refine hAs.mono ?_;rintro e w5 ⟨rfl,hx5⟩;clear hAs))
            go_ret
            exact ErrPost.bad (by decide) (fun h=>by rw [(h.2.2.2.2 j hlt).2.2] at e8;cases e8) (hxw4.trans hx5)
           | false =>
            rw [e8] at hAs
            go_wp2_with (first | (go_at_call 129;refine (in_any _ _ _ _).mono ?_;rintro e w' ⟨rfl,rfl⟩) | (go_at_call 182;refine hAs.mono ?_;rintro e w5 ⟨rfl,hx5⟩;clear hAs))
            go_roundw
            case rel=>exact ⟨j+1,by omega,by go_num,hx24.trans hx5,fun l hl=>by
             by_cases el:l=j
             ·subst el;exact ⟨e6,e7,e8⟩
             ·exact HOK.out l (by omega)⟩
            case measure=>simp [intOf];omega
        ·have HOK2:=Lib.hid (show ∀ l,l<T.an p (i'+1)→T.AsgOk p (i'+1) l from fun l hl=>HOK.out l (by omega))
         go_wp2
         go_ret
         exact ErrPost.good ⟨hf,e5,by rw [HL.out];exact hla,h8,HOK2.out⟩ hxr'
      ·skip
       go_wp2_with (first | (go_at_call 181;refine hF.mono ?_;rintro e w3 ⟨rfl,hx3⟩;clear hF;have hxw3:=hxw.trans hx3) | (go_at_call 129;refine (in_any _ _ _ _).mono ?_;rintro e w' ⟨rfl,rfl⟩))
       go_loopw [54] (fun v wr=>∃ j:Nat,j≤T.an p (i'+1)∧v=.int .i64 j∧Ext w2 wr∧∀ l,l<j→T.AsgOk p (i'+1) l) (fun v _=>T.an p (i'+1) - (intOf v).toNat)
       case atStart=>exact ⟨0,Nat.zero_le _,rfl,hx3,fun j hj=>absurd hj (Nat.not_lt_zero _)⟩
       case round=>
        obtain ⟨j,hj,rfl,hxr,hok⟩:=hrel
        have HOK:=Lib.hid hok
        clear hok
        have hxr':Ext w wr:=hxw.trans hxr
        by_cases hlt:j<T.an p (i'+1)
        ·exact absurd hlt (by omega)
        ·have HOK2:=Lib.hid (show ∀ l,l<T.an p (i'+1)→T.AsgOk p (i'+1) l from fun l hl=>HOK.out l (by omega))
         go_wp2
         go_ret
         exact ErrPost.good ⟨hf,e5,by rw [HL.out];exact hla,h8,HOK2.out⟩ hxr'
     ·go_wp2_with (first | (go_at_call 181;refine hF.mono ?_;rintro e w3 ⟨rfl,hx3⟩;clear hF;have hxw3:=hxw.trans hx3) | (go_at_call 129;refine (in_any _ _ _ _).mono ?_;rintro e w' ⟨rfl,rfl⟩))
      go_ret
      exact ErrPost.bad (by decide) (fun h=>h8 h.2.2.2.1) hxw3
    ·go_wp2_with (first | (go_at_call 181;refine hF.mono ?_;rintro e w3 ⟨rfl,hx3⟩;clear hF;have hxw3:=hxw.trans hx3) | (go_at_call 129;refine (in_any _ _ _ _).mono ?_;rintro e w' ⟨rfl,rfl⟩))
     go_ret
     exact ErrPost.bad (by decide) (fun h=>by have:=h.2.2.1;rw [HL.out] at this;omega) hxw3
  ·have hF : Calls Tryz.prog 181 #[.agg #[.slice (some ⟨T.b, T.off, none⟩) T.n T.cap], .int .i64 p, T.ev p (i'+1)] w2 fun e w' => e = .returned (.bool false) ∧ Ext w2 w' := by
     rw [←pa]
     exact (formed_any w2 T (HT.out.ext hxw) p _ _ _ _ _).mono fun e w' ⟨b,he,hb,hx⟩=>⟨by rw [he,Bool.eq_false_iff.2 (fun h=>hf (hb.1 h))],hx⟩
   go_wp2_with (go_at_call 181;refine hF.mono ?_;rintro e w3 ⟨rfl,hx3⟩;clear hF)
   go_ret
   exact ErrPost.bad (by decide) (fun h=>hf h.1) (hxw.trans hx3)
 ·have HL:Hid (T.last p 0=0):=by simp [Hid,Tr.last]
  go_upto_region 5 with fail
  by_cases hf:FormedP T.toTr p (T.kind p (0)) (T.peer p (0)) (T.msg p (0))
  ·have hF : Calls Tryz.prog 181 #[.agg #[.slice (some ⟨T.b, T.off, none⟩) T.n T.cap], .int .i64 p, T.ev p (0)] w2 fun e w' => e = .returned (.bool true) ∧ Ext w2 w' := by
     rw [←pa]
     exact (formed_any w2 T (HT.out.ext hxw) p _ _ _ _ _).mono fun e w' ⟨b,he,hb,hx⟩=>⟨by rw [he,hb.2 hf],hx⟩
   cases e5:inB (T.time p (0)) 0 1099511627776 with
   | false =>
    go_wp2_with (first | (go_at_call 181;refine hF.mono ?_;rintro e w3 ⟨rfl,hx3⟩;clear hF;have hxw3:=hxw.trans hx3) | (go_at_call 129;refine (in_any _ _ _ _).mono ?_;rintro e w' ⟨rfl,rfl⟩))
    go_ret
    exact ErrPost.bad (by decide) (fun h=>by rw [h.2.1] at e5;cases e5) hxw3
   | true =>
    by_cases hla:(0:Int)≤T.time p (0)
    ·by_cases h8:T.an p (0)≤8
     ·have h8':decide ((8:Int)<(T.an p (0):Int))=false:=by simp;omega
      have hla':decide (T.time p (0)<(0:Int))=false:=by simp;omega
      have a0:=HT.out.A.a0
      have a1:=HT.out.A.a1
      by_cases ha0:0<T.an p (0)
      ·have aa:=HT.out.A.aa p (0) hp hi ha0
       have ab:=HT.out.A.ab p (0) hp hi ha0
       simp only [TM.ev,aa] at hF
       go_wp2_with (first | (go_at_call 181;refine hF.mono ?_;rintro e w3 ⟨rfl,hx3⟩;clear hF;have hxw3:=hxw.trans hx3) | (go_at_call 129;refine (in_any _ _ _ _).mono ?_;rintro e w' ⟨rfl,rfl⟩))
       go_loopw [54] (fun v wr=>∃ j:Nat,j≤T.an p (0)∧v=.int .i64 j∧Ext w2 wr∧∀ l,l<j→T.AsgOk p (0) l) (fun v _=>T.an p (0) - (intOf v).toNat)
       case atStart=>exact ⟨0,Nat.zero_le _,rfl,hx3,fun j hj=>absurd hj (Nat.not_lt_zero _)⟩
       case round=>
        obtain ⟨j,hj,rfl,hxr,hok⟩:=hrel
        have HOK:=Lib.hid hok
        clear hok
        have hxr':Ext w wr:=hxw.trans hxr
        by_cases hlt:j<T.an p (0)
        ·have hlt':(j:Int)<(T.an p (0):Int):=by omega
         have hvc:¬T.ac p (0)=0:=by have:=HT.out.A.ac p (0) hp hi;omega
         have hvc':(j:Int)≤(T.ac p (0):Int):=by have:=HT.out.A.ac p (0) hp hi;omega
         have hvn:=HT.out.V.hv p hp
         go_upto_region 14 with fail
         refine boxed1 (w:=wr) (G:=fun x=>Code.wp _ _ _ _ x) ?_
         intro w4 hx4 hs4 ⟨l4,c4,_,_⟩
         clear hs4
         have hx24:Ext w2 w4:=hxr.trans hx4
         have hxw4:Ext w w4:=hxr'.trans hx4
         have hx44:Ext w4 w4:=Ext.refl _
         have hAs:=hasAs w4 T (HT.out.ext hxw4) p (0) hp hi j (by omega) (T.ac p (0)) 183 #[.pointer (some ⟨wr.heap.size,0,none⟩)] (fun l=>T.avar p (0) l == T.avar p (0) j) (enters_of Tryz.func183 (by kernel_rfl) rfl)
          (fun l hl w' hx'=>by exact eventFault1 w' (T.avar p (0) l) (T.avar p (0) j) _ _ (c4 w' hx' 0))
         cases e6:inB (T.avar p (0) j) 0 ((T.vn p:Int) - 1) with
         | false =>
          clear hAs
          go_wp2_with (go_at_call 129;refine (in_any _ _ _ _).mono ?_;rintro e w' ⟨rfl,rfl⟩)
          go_ret
          exact ErrPost.bad (by decide) (fun h=>by rw [(h.2.2.2.2 j hlt).1] at e6;cases e6) hxw4
         | true =>
          cases e7:inB (T.aval p (0) j) (-1073741824) 1073741824 with
          | false =>
           clear hAs
           go_wp2_with (go_at_call 129;refine (in_any _ _ _ _).mono ?_;rintro e w' ⟨rfl,rfl⟩)
           go_ret
           exact ErrPost.bad (by decide) (fun h=>by rw [(h.2.2.2.2 j hlt).2.1] at e7;cases e7) hxw4
          | true =>
           cases e8:anyB (fun l=>T.avar p (0) l == T.avar p (0) j) j with
           | true =>
            rw [e8] at hAs
            go_wp2_with (first | (go_at_call 129;refine (in_any _ _ _ _).mono ?_;rintro e w' ⟨rfl,rfl⟩) | (go_at_call 182;refine hAs.mono ?_;rintro e w5 ⟨rfl,hx5⟩;clear hAs))
            go_ret
            exact ErrPost.bad (by decide) (fun h=>by rw [(h.2.2.2.2 j hlt).2.2] at e8;cases e8) (hxw4.trans hx5)
           | false =>
            rw [e8] at hAs
            go_wp2_with (first | (go_at_call 129;refine (in_any _ _ _ _).mono ?_;rintro e w' ⟨rfl,rfl⟩) | (go_at_call 182;refine hAs.mono ?_;rintro e w5 ⟨rfl,hx5⟩;clear hAs))
            go_roundw
            case rel=>exact ⟨j+1,by omega,by go_num,hx24.trans hx5,fun l hl=>by
             by_cases el:l=j
             ·subst el;exact ⟨e6,e7,e8⟩
             ·exact HOK.out l (by omega)⟩
            case measure=>simp [intOf];omega
        ·have HOK2:=Lib.hid (show ∀ l,l<T.an p (0)→T.AsgOk p (0) l from fun l hl=>HOK.out l (by omega))
         go_wp2
         go_ret
         exact ErrPost.good ⟨hf,e5,by rw [HL.out];exact hla,h8,HOK2.out⟩ hxr'
      ·skip
       go_wp2_with (first | (go_at_call 181;refine hF.mono ?_;rintro e w3 ⟨rfl,hx3⟩;clear hF;have hxw3:=hxw.trans hx3) | (go_at_call 129;refine (in_any _ _ _ _).mono ?_;rintro e w' ⟨rfl,rfl⟩))
       go_loopw [54] (fun v wr=>∃ j:Nat,j≤T.an p (0)∧v=.int .i64 j∧Ext w2 wr∧∀ l,l<j→T.AsgOk p (0) l) (fun v _=>T.an p (0) - (intOf v).toNat)
       case atStart=>exact ⟨0,Nat.zero_le _,rfl,hx3,fun j hj=>absurd hj (Nat.not_lt_zero _)⟩
       case round=>
        obtain ⟨j,hj,rfl,hxr,hok⟩:=hrel
        have HOK:=Lib.hid hok
        clear hok
        have hxr':Ext w wr:=hxw.trans hxr
        by_cases hlt:j<T.an p (0)
        ·exact absurd hlt (by omega)
        ·have HOK2:=Lib.hid (show ∀ l,l<T.an p (0)→T.AsgOk p (0) l from fun l hl=>HOK.out l (by omega))
         go_wp2
         go_ret
         exact ErrPost.good ⟨hf,e5,by rw [HL.out];exact hla,h8,HOK2.out⟩ hxr'
     ·go_wp2_with (first | (go_at_call 181;refine hF.mono ?_;rintro e w3 ⟨rfl,hx3⟩;clear hF;have hxw3:=hxw.trans hx3) | (go_at_call 129;refine (in_any _ _ _ _).mono ?_;rintro e w' ⟨rfl,rfl⟩))
      go_ret
      exact ErrPost.bad (by decide) (fun h=>h8 h.2.2.2.1) hxw3
    ·go_wp2_with (first | (go_at_call 181;refine hF.mono ?_;rintro e w3 ⟨rfl,hx3⟩;clear hF;have hxw3:=hxw.trans hx3) | (go_at_call 129;refine (in_any _ _ _ _).mono ?_;rintro e w' ⟨rfl,rfl⟩))
     go_ret
     exact ErrPost.bad (by decide) (fun h=>by have:=h.2.2.1;rw [HL.out] at this;omega) hxw3
  ·have hF : Calls Tryz.prog 181 #[.agg #[.slice (some ⟨T.b, T.off, none⟩) T.n T.cap], .int .i64 p, T.ev p (0)] w2 fun e w' => e = .returned (.bool false) ∧ Ext w2 w' := by
     rw [←pa]
     exact (formed_any w2 T (HT.out.ext hxw) p _ _ _ _ _).mono fun e w' ⟨b,he,hb,hx⟩=>⟨by rw [he,Bool.eq_false_iff.2 (fun h=>hf (hb.1 h))],hx⟩
   go_wp2_with (go_at_call 181;refine hF.mono ?_;rintro e w3 ⟨rfl,hx3⟩;clear hF)
   go_ret
   exact ErrPost.bad (by decide) (fun h=>hf h.1) (hxw.trans hx3)
end Go.Proofs.YtlfdfkbmollaaaaGreatDoor
