/- Contracts and laws in plain Lean for SPos: group Uy. -/
import Derived.Test.YtnknkkmdbnaglaaGreatUn
import Derived.Test.YtnknkkmdbnaglaaGreatUk
import Derived.Deep.LoopGhost
import Derived.Test.YtnknkkmdbnaglaaGreatUt
import Derived.Test.YtnknkkmdbnaglaaGreatUv
import Derived.Test.YtnknkkmdbnaglaaGreatKa
import Derived.Test.YtnknkkmdbnaglaaGreatUw
set_option maxRecDepth 100000
namespace Go.Proofs.YtnknkkmdbnaglaaGreat
open Go.RowKit Go.Shelf
set_option maxHeartbeats 1000000 in
theorem rcnt_any (w:World) (T:TM) (hT:T.At w) (hV:T.toTr.Valid):Calls Tryz.prog 32 #[T.val] w fun e w'=>e=.returned (.int .i64 (tot T.en T.n:Nat))∧Ext w w':=by
 have hR:=fun W (h:Ext w W)=>rvalid_any W T (hT.ext h)
 have hn8:=hV.n8
 have HTS:=Lib.hid (show ∀ k,k≤T.n→tot T.en k≤k*64 from fun k hk=>tot_small (f:=T.en) (n:=k) (c:=64) fun j hj=>hV.en64 (by omega))
 have HE8:=Lib.hid (fun k (hk:k<T.n)=>hV.en64 hk)
 have HV:=Lib.hid hV
 have HT:=Lib.hid hT
 simp only [TM.val] at hR ⊢
 have HR:=Lib.hid hR
 obtain ⟨ta,hta⟩:∃ a,a=T.a:=⟨_,rfl⟩
 rw [←hta]
 have HTA:=Lib.hid hta
 clear hT hV hR hta
 go_enter Tryz.func32,Tryz.ntmps32
 go_upto_region 1 with fail
 refine boxed1 (w:=w) (G:=fun x=>Code.wp _ _ _ _ x) ?_
 intro w1 hx1 hs1 ⟨l0,c0,_,_⟩
 have hx11:Ext w1 w1:=Ext.refl _
 clear hs1
 have hcall:=HR.out w1 hx1
 rw [←HTA.out] at hcall
 have HCA:=Lib.hid hcall
 clear hcall
 go_wp2_with fail
 go_at_call 57
 refine HCA.out.mono ?_
 rintro e w2 ⟨b,rfl,hb,hx2⟩
 obtain rfl:b=true:=hb.2 HV.out
 have hx12:Ext w1 w2:=hx2
 clear hb
 go_wp2_with fail
 go_loopg [3,4] T.n (fun gg v3 v4 wr=>∃ k:Nat,k≤T.n∧gg=T.n - k∧v4=.int .i64 k∧v3=.int .i64 (tot T.en k:Nat)∧Ext w1 wr)
 case atStart=>exact ⟨0,by omega,rfl,rfl,rfl,hx12⟩
 case round=>
  obtain ⟨k,hk,rfl,rfl,rfl,hxr⟩:=hrel
  by_cases hlt:k<T.n
  ·have hlt':(k:Int)<(T.n:Int):=by omega
   obtain rfl:ta=some ⟨T.b,T.off,none⟩:=by rw [HTA.out];exact HT.out.P.pa (by omega)
   have pb:=HT.out.P.pb (by omega)
   have p2:∀ w',Ext w w'→w'.cell? ⟨T.b,T.off+k*3+2,none⟩=_:=fun w' h=>HT.out.P.p2 w' h k hlt
   have hx0r:=hx1.trans hxr
   have h1:=HTS.out k (by omega)
   have h2:=HE8.out k hlt
   go_wp2_with fail
   go_roundg (T.n - (k+1))
   case rel=>exact ⟨k+1,by omega,rfl,by go_num,congrArg (Value.int .i64) (by show (_:Int)=((tot T.en k+T.en k:Nat):Int);omega),hxr⟩
   case measure=>omega
  ·obtain rfl:k=T.n:=by omega
   go_wp2_with fail
   go_ret
   exact ⟨rfl,hx1.trans hxr⟩
set_option maxHeartbeats 2000000 in
theorem rvar39_any (w : World) (T : TM) (hT : T.At w) (x : Trm) :
    Calls Tryz.prog 81 #[T.val,trmV x] w fun e w'=>e=.returned (.int .i64 (T.toTr.tix x))∧Ext w w':=by
 obtain ⟨p,nm,c⟩:=x
 have HT:=Lib.hid hT
 obtain ⟨ta,hta⟩:∃ a,a=T.a:=⟨_,rfl⟩
 have HTA:=Lib.hid hta
 simp only [TM.val,trmV]
 rw [←hta]
 clear hT hta
 go_enter Tryz.func81,Tryz.ntmps81
 go_upto_region 1 with fail
 refine boxed2 (w:=w) (G:=fun x=>Code.wp _ _ _ _ x) ?_
 intro w1 hx1 hs1 ⟨l0,c0,_,_⟩ ⟨l1,c1,_,_⟩
 have hx11:Ext w1 w1:=Ext.refl _
 clear hs1
 by_cases h0:p<0
 ·have HR:=Lib.hid (show T.toTr.tix (p,nm,c)=-1 from by unfold Tr.tix;rw [if_neg (by dsimp only;omega)])
  have d0:decide (p<0)=true:=decide_eq_true h0
  go_wp2_with fail
  go_ret
  exact ⟨ret_int HR.out.symm,hx1⟩
 ·have d0:decide (p<0)=false:=decide_eq_false h0
  by_cases h1:(T.n:Int)≤p
  ·have HR:=Lib.hid (show T.toTr.tix (p,nm,c)=-1 from by unfold Tr.tix;rw [if_neg (by dsimp only;omega)])
   have d1:decide ((T.n:Int)≤p)=true:=decide_eq_true h1
   go_wp2_with fail
   go_ret
   exact ⟨ret_int HR.out.symm,hx1⟩
  ·have d1:decide ((T.n:Int)≤p)=false:=decide_eq_false h1
   obtain ⟨k,rfl⟩:∃ k:Nat,p=k:=⟨p.toNat,by omega⟩
   have hk:k<T.n:=by omega
   have hk':(k:Int)<(T.n:Int):=by omega
   have HR:=Lib.hid (show T.toTr.tix ((k:Int),nm,c)=T.toTr.varI k nm from by unfold Tr.tix;rw [if_pos (by dsimp only;omega)];rfl)
   have hvn:=HT.out.V.hv k hk
   obtain rfl:ta=some ⟨T.b,T.off,none⟩:=by rw [HTA.out];exact HT.out.P.pa (by omega)
   have pb:=HT.out.P.pb (by omega)
   obtain ⟨va,hva⟩:∃ a,a=T.va k:=⟨_,rfl⟩
   have p1:∀ w',Ext w w'→w'.cell? ⟨T.b,T.off+k*3+1,none⟩=some (.slice va (T.vn k) (T.vc k)):=fun w' h=>by rw [hva];exact HT.out.P.p1 w' h k hk
   have HVA:=Lib.hid hva
   clear hva h0 h1
   go_wp2_with fail
   go_loopg [6] (T.vn k) (fun gg v wr=>∃ i:Nat,i≤T.vn k∧gg=T.vn k - i∧v=.int .i64 i∧Ext w1 wr∧∀ j,j<i→strEq (T.vname k j) nm=false)
   case atStart=>exact ⟨0,by omega,rfl,rfl,hx11,fun j hj=>by omega⟩
   case round=>
    obtain ⟨i,hi,rfl,rfl,hxr,hno⟩:=hrel
    have HNO:=Lib.hid hno
    clear hno
    have hx0r:=hx1.trans hxr
    by_cases hlt:i<T.vn k
    ·have hlt':(i:Int)<(T.vn k:Int):=by omega
     obtain rfl:va=some ⟨T.vb k,T.vo k,none⟩:=by rw [HVA.out];exact HT.out.V.va k hk (by omega)
     have vb:=HT.out.V.vb k hk (by omega)
     have v0:∀ w',Ext w w'→w'.cell? ⟨T.vb k,T.vo k+i*2,none⟩=some (.string (T.vname k i)):=fun w' h=>HT.out.V.v0 w' h k i hk hlt
     cases he:((T.vname k i).toList == nm.toList) with
     | true =>
      have HE:=Lib.hid (show strEq (T.vname k i) nm=true from he)
      go_upto_region 7 with fail
      go_quiet (fail)
      have hq:=hx0r.drewN nq
      go_wp2_with fail
      go_ret
      exact ⟨ret_int ((idxI_hit hlt HE.out HNO.out).symm.trans HR.out.symm),hq⟩
     | false =>
      have HE:=Lib.hid (show strEq (T.vname k i) nm=false from he)
      go_upto_region 7 with fail
      go_quiet (fail)
      have hq:=hxr.drewN nq
      go_wp2_with fail
      go_roundg (T.vn k - (i+1))
      case rel=>exact ⟨i+1,by omega,rfl,by go_num,hq,fun j hj=>by
       by_cases e:j=i
       ·subst e;exact HE.out
       ·exact HNO.out j (by omega)⟩
      case measure=>omega
    ·have hie:i=T.vn k:=by omega
     have HR2:=Lib.hid (show T.toTr.varI k nm=-1 from idxI_none (by rw [←hie];exact HNO.out))
     subst hie
     go_wp2_with fail
     go_ret
     exact ⟨ret_int (HR2.out.symm.trans HR.out.symm),hx0r⟩
set_option maxHeartbeats 2000000 in
theorem rat39_any (w : World) (T : TM) (hT : T.At w) (p v : Nat) (hp : p < T.n) (hv : v < T.vn p) (k : Nat) (hk : k ≤ T.en p) (h64 : T.en p ≤ 64) (ha8 : ∀ i, i < T.en p → T.an p i ≤ 8) :
    Calls Tryz.prog 94 #[T.val,.int .i64 p,.int .i64 v,.int .i64 k] w fun e w'=>e=.returned (.int .i64 (T.st p v k))∧Ext w w':=by
 have hp':(p:Int)<(T.n:Int):=by omega
 have hv':(v:Int)<(T.vn p:Int):=by omega
 have pa:=hT.P.pa (by omega)
 have pb:=hT.P.pb (by omega)
 have p1:∀ w',Ext w w'→w'.cell? ⟨T.b,T.off+p*3+1,none⟩=some (.slice (T.va p) (T.vn p) (T.vc p)):=fun w' h=>hT.P.p1 w' h p hp
 rw [hT.V.va p hp (by omega)] at p1
 have vb:=hT.V.vb p hp (by omega)
 have v1:∀ w',Ext w w'→w'.cell? ⟨T.vb p,T.vo p+v*2+1,none⟩=some (.int .i64 (T.vinit p v)):=fun w' h=>hT.V.v1 w' h p v hp hv
 obtain ⟨ea,hea⟩:∃ z,z=T.ea p:=⟨_,rfl⟩
 have p2:∀ w',Ext w w'→w'.cell? ⟨T.b,T.off+p*3+2,none⟩=some (.slice ea (T.en p) (T.ec p)):=fun w' h=>by rw [hea];exact hT.P.p2 w' h p hp
 have HEA:=Lib.hid hea
 have HT:=Lib.hid hT
 have HA8:=Lib.hid ha8
 simp only [TM.val,pa]
 clear hT hea ha8 pa
 go_enter Tryz.func94,Tryz.ntmps94
 go_upto_region 1 with fail
 refine boxed1 (w:=w) (G:=fun x=>Code.wp _ _ _ _ x) ?_
 intro w1 hx1 hs1 ⟨l0,c0,_,_⟩
 have hx11:Ext w1 w1:=Ext.refl _
 clear hs1
 go_wp2_with fail
 go_loopg [9,10] k (fun gg v9 v10 wr=>∃ i:Nat,i≤k∧gg=k - i∧v10=.int .i64 i∧v9=.int .i64 (T.st p v i)∧Ext w1 wr)
 case atStart=>exact ⟨0,by omega,rfl,rfl,rfl,hx11⟩
 case round=>
  obtain ⟨i,hi,rfl,rfl,rfl,hxr⟩:=hrel
  have hx0r:=hx1.trans hxr
  by_cases hlt:i<k
  ·have hlt':(i:Int)<(k:Int):=by omega
   have hie:i<T.en p:=by omega
   have hie':(i:Int)<(T.en p:Int):=by omega
   obtain rfl:ea=some ⟨T.eb p,T.eo p,none⟩:=by rw [HEA.out];exact HT.out.E.ea p hp (by omega)
   have eb:=HT.out.E.eb p hp (by omega)
   obtain ⟨aa,haa⟩:∃ z,z=T.aa p i:=⟨_,rfl⟩
   have e4:∀ w',Ext w w'→w'.cell? ⟨T.eb p,T.eo p+i*5+4,none⟩=some (.slice aa (T.an p i) (T.ac p i)):=fun w' x=>by rw [haa];exact HT.out.E.e4 w' x p i hp hie
   have HAA:=Lib.hid haa
   have ha8:=HA8.out i hie
   have HS0:=Lib.hid (show T.st p v i=T.stJ p v i (T.st p v i) 0 from rfl)
   have HS1:=Lib.hid (show T.stJ p v i (T.st p v i) (T.an p i)=T.st p v (i+1) from rfl)
   rw [HS0.out]
   clear haa
   go_wp2_with fail
   go_loopg [9,12] (T.an p i) (fun gg v9 v12 wr=>∃ j:Nat,j≤T.an p i∧gg=T.an p i - j∧v12=.int .i64 j∧v9=.int .i64 (T.stJ p v i (T.st p v i) j)∧Ext w1 wr)
   case atStart=>exact ⟨0,by omega,rfl,rfl,rfl,hxr⟩
   case round=>
    obtain ⟨j,hj,rfl,rfl,rfl,hxj⟩:=hrel
    have hx0j:=hx1.trans hxj
    by_cases hlj:j<T.an p i
    ·have hlj':(j:Int)<(T.an p i:Int):=by omega
     obtain rfl:aa=some ⟨T.ab p i,T.ao p i,none⟩:=by rw [HAA.out];exact HT.out.A.aa p i hp hie (by omega)
     have ab:=HT.out.A.ab p i hp hie (by omega)
     obtain ⟨av,hav⟩:∃ z,z=T.avar p i j:=⟨_,rfl⟩
     have a0:∀ w',Ext w w'→w'.cell? ⟨T.ab p i,T.ao p i+j*2,none⟩=some (.int .i64 av):=fun w' x=>by rw [hav];exact HT.out.A.a0 w' x p i j hp hie hlj
     have a1:∀ w',Ext w w'→w'.cell? ⟨T.ab p i,T.ao p i+j*2+1,none⟩=some (.int .i64 (T.aval p i j)):=fun w' x=>HT.out.A.a1 w' x p i j hp hie hlj
     have HSJ:=Lib.hid (show T.stJ p v i (T.st p v i) (j+1)=if av=(v:Int) then T.aval p i j else T.stJ p v i (T.st p v i) j from by rw [hav];rfl)
     clear hav
     by_cases he:av=(v:Int)
     ·subst he
      go_wp2_with fail
      go_roundg (T.an p i - (j+1))
      case rel=>exact ⟨j+1,by omega,rfl,by go_num,by rw [HSJ.out];first | rw [if_pos rfl] | simp,hxj⟩
      case measure=>omega
     ·have d1:(av == (v:Int))=false:=by simpa using he
      go_wp2_with fail
      go_roundg (T.an p i - (j+1))
      case rel=>exact ⟨j+1,by omega,rfl,by go_num,by rw [HSJ.out,if_neg he],hxj⟩
      case measure=>omega
    ·obtain rfl:j=T.an p i:=by omega
     rw [HS1.out]
     go_wp2_with fail
     go_roundg (k - (i+1))
     case rel=>exact ⟨i+1,by omega,rfl,by go_num,rfl,hxj⟩
     case measure=>omega
  ·obtain rfl:i=k:=by omega
   go_wp2_with fail
   go_ret
   exact ⟨rfl,hx0r⟩
set_option maxHeartbeats 400000 in
theorem rabs39_any (n : Int) (w : World) (h1 : -4611686018427387904 ≤ n) (h2 : n ≤ 4611686018427387904) :
    Calls Tryz.prog 82 #[.int .i64 n] w fun e w'=>e=.returned (.int .i64 (iabs n))∧w=w':=by
 have hw:IntKind.i64.wrap (-n)=-n:=IntWalk.i64_in _ (by omega)
 have hw2:IntKind.i64.wrap (0 - n)=-n:=by rw [IntWalk.i64_in _ (by omega)];omega
 have hi:iabs n=if n<0 then - n else n:=rfl
 go_enter Tryz.func82,Tryz.ntmps82
 by_cases h:n<0
 ·rw [if_pos h] at hi
  have d:decide (n < -n)=true:=decide_eq_true (by omega)
  go_wp2
  go_ret
  exact ⟨ret_int (by first | rfl | rw [hi]),rfl⟩
 ·rw [if_neg h] at hi
  have d:decide (n < -n)=false:=decide_eq_false (by omega)
  go_wp2
  go_ret
  exact ⟨ret_int (by first | rfl | rw [hi]),rfl⟩
def Tr.sumJ (T:Tr) (ts:List Trm) (c:Nat→Nat) (j:Nat):Int:=T.sumAt (ts.take j) c
theorem Tr.sumJ_next {T:Tr} {ts:List Trm} {c:Nat→Nat} {j:Nat} {x:Trm} (h:ts[j]?=some x) {p v:Nat} (hp:x.1=(p:Int)) (hv:T.varI p x.2.1=(v:Int)):T.sumJ ts c (j+1)=T.sumJ ts c j+x.2.2*T.st p v (c p):=by
 unfold Tr.sumJ Tr.sumAt valC
 rw [List.map_take,List.map_take,lsum_take (a:=T.tedg x) (by rw [List.getElem?_map,h];rfl)]
 have e1:(T.tedg x).1=p:=by show x.1.toNat=p;omega
 have e2:(T.tedg x).2.1=v:=by show (T.varI x.1.toNat x.2.1).toNat=v;rw [show x.1.toNat=p by omega,hv,Int.toNat_natCast]
 rw [e1,e2];rfl
theorem Tr.sumJ_all {T:Tr} {ts:List Trm} {c:Nat→Nat} {j:Nat} (h:ts.length≤j):T.sumJ ts c j=T.sumAt ts c:=by unfold Tr.sumJ;rw [List.take_of_length_le h]
theorem Tr.sumJ_abs {T:Tr} (hV:T.Valid) {ts:List Trm} (hk:T.known ts) (hc:coefs ts) (hl:ts.length≤64) {c:Nat→Nat} (hcl:∀ p,p<T.n→c p≤T.en p) (j:Nat):(T.sumJ ts c j).natAbs≤72057594037927936:=Tr.sumAt_abs hV (hk.take j) (hc.take j) (take_len64 hl j) hcl
set_option maxHeartbeats 4000000 in
theorem rval39_any (w : World) (T : TM) (hT : T.At w) (D : TmD) (hD : D.At w) (hV : T.toTr.Valid) (hk : T.known D.l) (hc : coefs D.l) (hl : D.l.length ≤ 64) (a : Option Addr) (g o cap : Nat) (c : Nat → Nat) (hC : CutAt w T.n a g o c) (hcl : ∀ p, p < T.n → c p ≤ T.en p) :
    Calls Tryz.prog 31 #[T.val,.slice a T.n cap,.slice D.s.a D.s.n D.s.c] w fun e w'=>e=.returned (.int .i64 (T.sumAt D.l c))∧Ext w w':=by
 have HC:=Lib.hid hC
 have HCL:=Lib.hid hcl
 have HSA:=Lib.hid (fun j=>Tr.sumJ_abs hV hk hc hl hcl j)
 have HS0:=Lib.hid (show T.toTr.sumJ D.l c 0=0 from rfl)
 have hn8:=hV.n8
 clear hC hcl
 have hdn:=hD.hn
 have HT:=Lib.hid hT
 have HD:=Lib.hid hD
 have HV:=Lib.hid hV
 have HKN:=Lib.hid hk
 have HCF:=Lib.hid hc
 have HL64:=Lib.hid hl
 have HIX:=Lib.hid (fun W (h:Ext w W) x=>rvar39_any W T (hT.ext h) x)
 obtain ⟨ta,hta⟩:∃ z,z=T.a:=⟨_,rfl⟩
 have HTA:=Lib.hid hta
 obtain ⟨da,hda⟩:∃ z,z=D.s.a:=⟨_,rfl⟩
 have HDA:=Lib.hid hda
 obtain ⟨n,hn⟩:∃ n,n=D.s.n:=⟨_,rfl⟩
 have HN:=Lib.hid hn
 have HLN:=Lib.hid (show D.l.length=n from by rw [D.len,hn])
 simp only [TM.val] at HIX ⊢
 rw [←hta] at HIX
 rw [←hta,←hda,←hn]
 rw [←hn] at hdn
 clear hT hD hV hk hc hl hta hda hn
 have HSN:=Lib.hid (Tr.sumJ_all (T:=T.toTr) (ts:=D.l) (c:=c) (j:=n) (by rw [HLN.out];exact Nat.le_refl _))
 go_enter Tryz.func31,Tryz.ntmps31
 go_upto_region 1 with fail
 refine boxed1 (w:=w) (G:=fun x=>Code.wp _ _ _ _ x) ?_
 intro w1 hx1 hs1 ⟨l0,c0,_,_⟩
 have hx11:Ext w1 w1:=Ext.refl _
 clear hs1
 go_wp2_with fail
 go_loopg [7,8] n (fun gg v7 v8 wr=>∃ j:Nat,j≤n∧gg=n - j∧v8=.int .i64 j∧v7=.int .i64 (T.toTr.sumJ D.l c j)∧Ext w1 wr)
 case atStart=>exact ⟨0,by omega,rfl,rfl,by rw [HS0.out],hx11⟩
 case round=>
  obtain ⟨j,hj,rfl,rfl,rfl,hxr⟩:=hrel
  have hxw:=hx1.trans hxr
  by_cases hlt:j<n
  ·have hlt':(j:Int)<(n:Int):=by omega
   have hjs:j<D.s.n:=by rw [←HN.out];exact hlt
   obtain ⟨v,hp0,hpn,hvn,hvi,htx⟩:=Tr.tix_at (HKN.out (D.at j) (TmD.mem.2 ⟨j,hjs,rfl⟩))
   obtain rfl:da=some ⟨D.s.b,D.s.o,none⟩:=by rw [HDA.out];exact HD.out.ha (by omega)
   have hdb:∀ w',Ext w w'→D.s.b<w'.heap.size:=fun w' x=>Nat.lt_of_lt_of_le (HD.out.hb (by omega)) x.le
   obtain ⟨nm,hnm⟩:∃ z',z'=D.nm j:=⟨_,rfl⟩
   obtain ⟨cc,hcc'⟩:∃ z',z'=D.c j:=⟨_,rfl⟩
   obtain ⟨pp,hpp⟩:∃ z',z'=D.p j:=⟨_,rfl⟩
   have q0:∀ w',Ext w w'→w'.cell? ⟨D.s.b,D.s.o+j*3,none⟩=some (.int .i64 pp):=fun w' x=>by rw [hpp];exact (HD.out.ext x).c0 j hjs
   have q1:∀ w',Ext w w'→w'.cell? ⟨D.s.b,D.s.o+j*3+1,none⟩=some (.string nm):=fun w' x=>by rw [hnm];exact (HD.out.ext x).c1 j hjs
   have q2:∀ w',Ext w w'→w'.cell? ⟨D.s.b,D.s.o+j*3+2,none⟩=some (.int .i64 cc):=fun w' x=>by rw [hcc'];exact (HD.out.ext x).c2 j hjs
   have e21:(D.at j).1=pp:=hpp.symm
   have e22:(D.at j).2.1=nm:=hnm.symm
   have e23:(D.at j).2.2=cc:=hcc'.symm
   rw [e21] at hp0 hpn hvn hvi
   rw [e22] at hvi
   have hcc:=HCF.out (D.at j) (TmD.mem.2 ⟨j,hjs,rfl⟩)
   rw [e23] at hcc
   obtain ⟨p,rfl⟩:∃ p:Nat,pp=p:=⟨pp.toNat,by omega⟩
   rw [Int.toNat_natCast] at hpn hvn hvi
   have hix:=HIX.out
   have HIXT:=Lib.hid (fun W (h:Ext w W)=>(show Calls Tryz.prog 81 #[.agg #[.slice ta T.n T.cap],.agg #[.int .i64 (p:Int),.string nm,.int .i64 cc]] W fun e w'=>e=.returned (.int .i64 (v:Int))∧Ext W w' from by
    have:=hix W h (D.at j)
    rw [htx] at this
    simp only [trmV] at this
    rw [e21,e22,e23] at this
    exact this))
   have HATT:=Lib.hid (fun W (h:Ext w W) k (hk:k≤T.en p)=>(show Calls Tryz.prog 94 #[.agg #[.slice ta T.n T.cap],.int .i64 p,.int .i64 v,.int .i64 k] W fun e w'=>e=.returned (.int .i64 (T.st p v k))∧Ext W w' from by
    have:=rat39_any W T (HT.out.ext h) p v hpn hvn k hk (HV.out.en64 hpn) (fun i hi=>HV.out.an8 hpn hi)
    simp only [TM.val] at this
    rw [←HTA.out] at this
    exact this))
   have HE:=Lib.hid (And.intro e21 (And.intro e22 (And.intro e23 (And.intro hvi (And.intro hpn hvn)))))
   clear hix htx hnm hcc' hpp e21 e22 e23 hp0 hvi
   have hsn:=Tr.sumJ_next (T:=T.toTr) (c:=c) (D.get hjs) HE.out.1 (by rw [HE.out.2.1];exact HE.out.2.2.2.1)
   rw [HE.out.2.2.1] at hsn
   have hb1:=HSA.out j
   have hb2:=HSA.out (j+1)
   rw [hsn] at hb2
   have HSN2:=Lib.hid hsn
   obtain ⟨sj,hsj⟩:∃ z,z=T.toTr.sumJ D.l c j:=⟨_,rfl⟩
   obtain ⟨ck,hck⟩:∃ z,z=c p:=⟨_,rfl⟩
   rw [←hck] at hb2 HSN2
   have hcp:=HCL.out p hpn
   rw [←hck] at hcp
   obtain ⟨sv,hsv⟩:∃ z,z=T.st p v ck:=⟨_,rfl⟩
   rw [←hsj] at hb1 hb2 HSN2 ⊢
   rw [←hsv] at hb2 HSN2
   have HSV:=Lib.hid hsv
   have hw1:IntKind.i64.wrap (cc*sv)=cc*sv:=IntWalk.i64_in _ (by omega)
   have hw2:IntKind.i64.wrap (sj+cc*sv)=sj+cc*sv:=IntWalk.i64_in _ (by omega)
   obtain rfl:=HC.out.pa (by omega)
   have gb:∀ w',Ext w w'→g<w'.heap.size:=fun w' x=>Nat.lt_of_lt_of_le (HC.out.pb (by omega)) x.le
   have gc:∀ w',Ext w w'→w'.cell? ⟨g,o+p,none⟩=some (.int .i64 (ck:Int)):=fun w' x=>by rw [hck];exact x.cell (HC.out.c p hpn)
   have hpn':(p:Int)<(T.n:Int):=by omega
   clear hsn hsj hck hsv
   go_upto_region 6 with fail
   refine boxed1 (w:=wr) (G:=fun x=>Code.wp _ _ _ _ x) ?_
   intro w4 hx4 hs4 ⟨l4,c4,_,_⟩
   have hxw4:=hxw.trans hx4
   have hx14:=hxr.trans hx4
   have hx44:Ext w4 w4:=Ext.refl _
   clear hs4 q0 q1 q2 hdb
   refine wp_region_held_drew (S:=fun w'=>Ext w4 w') (by kernel_rfl) (Ext.refl _).drew (fun hHeld=>?_)
   refine hQ 0 (v:=?_) rfl (y:=.inl ⟨by rfl,?_⟩) (h:=?_)
   rotate_left
   ·(intro w' hSw;(try dsimp only at hSw);have hS1:=hx14.trans hSw;have hS0:=hxw4.trans hSw;go_simp;try with_reducible rfl)
   try simp only [Act.put,zA,zB,zC]
   refine hQ 1 (v:=?_) rfl (y:=.inl ⟨by rfl,?_⟩) (h:=?_)
   rotate_left
   ·(intro w' hSw;(try dsimp only at hSw);have hS1:=hx14.trans hSw;have hS0:=hxw4.trans hSw;go_simp;try with_reducible rfl)
   try simp only [Act.put,zA,zB,zC]
   refine hQ 2 (v:=?_) rfl (y:=.inl ⟨by rfl,?_⟩) (h:=?_)
   rotate_left
   ·(intro w' hSw;(try dsimp only at hSw);have hS1:=hx14.trans hSw;have hS0:=hxw4.trans hSw;go_simp;try with_reducible rfl)
   try simp only [Act.put,zA,zB,zC]
   refine hQ 3 (v:=?_) rfl (y:=.inl ⟨by rfl,?_⟩) (h:=?_)
   rotate_left
   ·(intro w' hSw;(try dsimp only at hSw);have hS1:=hx14.trans hSw;have hS0:=hxw4.trans hSw;go_simp;try with_reducible rfl)
   try simp only [Act.put,zA,zB,zC]
   refine hQ 4 (v:=?_) rfl (y:=.inl ⟨by rfl,?_⟩) (h:=?_)
   rotate_left
   ·(intro w' hSw;(try dsimp only at hSw);have hS1:=hx14.trans hSw;have hS0:=hxw4.trans hSw;go_simp;try with_reducible rfl)
   try simp only [Act.put,zA,zB,zC]
   refine hQ 5 (v:=?_) rfl (y:=.inl ⟨by rfl,?_⟩) (h:=?_)
   rotate_left
   ·(intro w' hSw;(try dsimp only at hSw);have hS1:=hx14.trans hSw;have hS0:=hxw4.trans hSw;go_simp;try with_reducible rfl)
   try simp only [Act.put,zA,zB,zC]
   refine hQ 6 (v:=?_) rfl (y:=.inl ⟨by rfl,?_⟩) (h:=?_)
   rotate_left
   ·(intro w' hSw;(try dsimp only at hSw);have hS1:=hx14.trans hSw;have hS0:=hxw4.trans hSw;go_simp;try with_reducible rfl)
   try simp only [Act.put,zA,zB,zC]
   refine hQ 7 (v:=?_) rfl (y:=.inl ⟨by rfl,?_⟩) (h:=?_)
   rotate_left
   ·(intro w' hSw;(try dsimp only at hSw);have hS1:=hx14.trans hSw;have hS0:=hxw4.trans hSw;go_simp;try with_reducible rfl)
   try simp only [Act.put,zA,zB,zC]
   refine hQ 9 (v:=?_) rfl (y:=.inl ⟨by rfl,?_⟩) (h:=?_)
   rotate_left
   ·(intro w' hSw;(try dsimp only at hSw);have hS1:=hx14.trans hSw;have hS0:=hxw4.trans hSw;go_simp;try with_reducible rfl)
   try simp only [Act.put,zA,zB,zC]
   refine hQ 10 (v:=?_) rfl (y:=.inl ⟨by rfl,?_⟩) (h:=?_)
   rotate_left
   ·(intro w' hSw;(try dsimp only at hSw);have hS1:=hx14.trans hSw;have hS0:=hxw4.trans hSw;go_simp;try with_reducible rfl)
   try simp only [Act.put,zA,zB,zC]
   refine hQ 11 (v:=?_) rfl (y:=.inl ⟨by rfl,?_⟩) (h:=?_)
   rotate_left
   ·(intro w' hSw;(try dsimp only at hSw);have hS1:=hx14.trans hSw;have hS0:=hxw4.trans hSw;go_simp;try with_reducible rfl)
   try simp only [Act.put,zA,zB,zC]
   refine hQ 12 (v:=?_) rfl (y:=.inl ⟨by rfl,?_⟩) (h:=?_)
   rotate_left
   ·(intro w' hSw;(try dsimp only at hSw);have hS1:=hx14.trans hSw;have hS0:=hxw4.trans hSw;go_simp;try with_reducible rfl)
   try simp only [Act.put,zA,zB,zC]
   refine hQ 13 (v:=?_) rfl (y:=.inl ⟨by rfl,?_⟩) (h:=?_)
   rotate_left
   ·(intro w' hSw;(try dsimp only at hSw);have hS1:=hx14.trans hSw;have hS0:=hxw4.trans hSw;go_simp;try with_reducible rfl)
   try simp only [Act.put,zA,zB,zC]
   refine wpAnyH_ready (rs:=[8]) (by kernel_rfl) (by simp) ?_
   refine AllReadyH.cons rfl (fun K hK=>?_) AllReadyH.nil
   go_simp
   go_at_call 81
   refine (HIXT.out _ hxw4.drew).mono ?_
   rintro e w5 ⟨rfl,hx5⟩
   have hx45:Ext w4 w5:=(Ext.refl w4).drew.trans hx5
   refine hK.out _ _ ?_ (fun hHeld2=>?_)
   ·exact hx45
   clear hK K
   try simp only [Act.put,zA,zB,zC]
   refine wpAnyH_ready (rs:=[14]) (by kernel_rfl) (by simp) ?_
   refine AllReadyH.cons rfl (fun K hK=>?_) AllReadyH.nil
   go_simp
   go_at_call 94
   refine (HATT.out _ (hxw4.trans hx45) ck hcp).mono ?_
   rw [←HSV.out]
   rintro e w6 ⟨rfl,hx6⟩
   have hx46:Ext w4 w6:=hx45.trans hx6
   refine hK.out _ _ ?_ (fun hHeld3=>?_)
   ·exact hx46
   clear hK K
   try simp only [Act.put,zA,zB,zC]
   refine hQ 15 (v:=?_) rfl (y:=.inl ⟨by rfl,?_⟩) (h:=?_)
   rotate_left
   ·(intro w' hSw;(try dsimp only at hSw);have hS1:=hx14.trans hSw;have hS0:=hxw4.trans hSw;go_simp;try with_reducible rfl)
   try simp only [Act.put,zA,zB,zC]
   refine hQ 16 (v:=?_) rfl (y:=.inl ⟨by rfl,?_⟩) (h:=?_)
   rotate_left
   ·(intro w' hSw;(try dsimp only at hSw);have hS1:=hx14.trans hSw;have hS0:=hxw4.trans hSw;go_simp;try with_reducible rfl)
   try simp only [Act.put,zA,zB,zC]
   refine wpAnyH_ready (rs:=[17]) (by kernel_rfl) (by simp) ?_
   refine AllReadyH.cons rfl (fun K hK=>?_) AllReadyH.nil
   go_simp
   refine hK.out _ _ ?_ (fun hHeld4=>?_)
   ·exact hx46
   clear hK K
   try simp only [Act.put,zA,zB,zC]
   refine wpAnyH_done (by kernel_rfl) ?_ _
   clear hHeld hHeld2 hHeld3 hHeld4 l4 c4
   go_wp2_with fail
   go_roundg (n - (j+1))
   case rel=>exact ⟨j+1,by omega,rfl,by go_num,by rw [HSN2.out],hx14.trans hx46⟩
   case measure=>omega
  ·obtain rfl:j=n:=by omega
   rw [HSN.out]
   go_wp2_with fail
   go_ret
   exact ⟨rfl,hxw⟩
set_option maxHeartbeats 4000000 in
theorem rwt39_any (w : World) (T : TM) (hT : T.At w) (D : TmD) (hD : D.At w) (hV : T.toTr.Valid) (hk : T.known D.l) (hc : coefs D.l) (hl : D.l.length ≤ 64) (q i i1 : Nat) (hq : q < T.n) (hi : i < T.en q) (h1 : i1 = i + 1) :
    Calls Tryz.prog 83 #[T.val,.slice D.s.a D.s.n D.s.c,.int .i64 q,.int .i64 (i1:Int)] w fun e w'=>e=.returned (.int .i64 (T.wt D.l q i))∧Ext w w':=by
 have HSA:=Lib.hid (fun j=>Tr.wtJ_abs hV hk hc hl hi j)
 have HS0:=Lib.hid (show T.toTr.wtJ D.l q i 0=0 from by simp [Tr.wtJ,Tr.wt,wgt,lsum])
 have hn8:=hV.n8
 have hen:=hV.en64 hq
 have HI1:=Lib.hid h1
 have hw3:IntKind.i64.wrap ((i1:Int) - 1)=(i:Int):=by rw [IntWalk.i64_in _ (by omega)];omega
 clear h1
 have hdn:=hD.hn
 have HT:=Lib.hid hT
 have HD:=Lib.hid hD
 have HV:=Lib.hid hV
 have HKN:=Lib.hid hk
 have HCF:=Lib.hid hc
 have HL64:=Lib.hid hl
 have HIX:=Lib.hid (fun W (h:Ext w W) x=>rvar39_any W T (hT.ext h) x)
 obtain ⟨ta,hta⟩:∃ z,z=T.a:=⟨_,rfl⟩
 have HTA:=Lib.hid hta
 obtain ⟨da,hda⟩:∃ z,z=D.s.a:=⟨_,rfl⟩
 have HDA:=Lib.hid hda
 obtain ⟨n,hn⟩:∃ n,n=D.s.n:=⟨_,rfl⟩
 have HN:=Lib.hid hn
 have HLN:=Lib.hid (show D.l.length=n from by rw [D.len,hn])
 simp only [TM.val] at HIX ⊢
 rw [←hta] at HIX
 rw [←hta,←hda,←hn]
 rw [←hn] at hdn
 clear hT hD hV hk hc hl hta hda hn
 have HSN:=Lib.hid (Tr.wtJ_all (T:=T.toTr) (ts:=D.l) (p:=q) (i:=i) (j:=n) (by rw [HLN.out];exact Nat.le_refl _))
 go_enter Tryz.func83,Tryz.ntmps83
 go_upto_region 1 with fail
 refine boxed1 (w:=w) (G:=fun x=>Code.wp _ _ _ _ x) ?_
 intro w1 hx1 hs1 ⟨l0,c0,_,_⟩
 have hx11:Ext w1 w1:=Ext.refl _
 clear hs1
 go_wp2_with fail
 go_loopg [9,10] n (fun gg v9 v10 wr=>∃ j:Nat,j≤n∧gg=n - j∧v10=.int .i64 j∧v9=.int .i64 (T.toTr.wtJ D.l q i j)∧Ext w1 wr)
 case atStart=>exact ⟨0,by omega,rfl,rfl,by rw [HS0.out],hx11⟩
 case round=>
  obtain ⟨j,hj,rfl,rfl,rfl,hxr⟩:=hrel
  have hxw:=hx1.trans hxr
  by_cases hlt:j<n
  ·have hlt':(j:Int)<(n:Int):=by omega
   have hjs:j<D.s.n:=by rw [←HN.out];exact hlt
   obtain ⟨v,hp0,hpn,hvn,hvi,htx⟩:=Tr.tix_at (HKN.out (D.at j) (TmD.mem.2 ⟨j,hjs,rfl⟩))
   obtain rfl:da=some ⟨D.s.b,D.s.o,none⟩:=by rw [HDA.out];exact HD.out.ha (by omega)
   have hdb:∀ w',Ext w w'→D.s.b<w'.heap.size:=fun w' x=>Nat.lt_of_lt_of_le (HD.out.hb (by omega)) x.le
   obtain ⟨nm,hnm⟩:∃ z',z'=D.nm j:=⟨_,rfl⟩
   obtain ⟨cc,hcc'⟩:∃ z',z'=D.c j:=⟨_,rfl⟩
   obtain ⟨pp,hpp⟩:∃ z',z'=D.p j:=⟨_,rfl⟩
   have q0:∀ w',Ext w w'→w'.cell? ⟨D.s.b,D.s.o+j*3,none⟩=some (.int .i64 pp):=fun w' x=>by rw [hpp];exact (HD.out.ext x).c0 j hjs
   have q1:∀ w',Ext w w'→w'.cell? ⟨D.s.b,D.s.o+j*3+1,none⟩=some (.string nm):=fun w' x=>by rw [hnm];exact (HD.out.ext x).c1 j hjs
   have q2:∀ w',Ext w w'→w'.cell? ⟨D.s.b,D.s.o+j*3+2,none⟩=some (.int .i64 cc):=fun w' x=>by rw [hcc'];exact (HD.out.ext x).c2 j hjs
   have e21:(D.at j).1=pp:=hpp.symm
   have e22:(D.at j).2.1=nm:=hnm.symm
   have e23:(D.at j).2.2=cc:=hcc'.symm
   rw [e21] at hp0 hpn hvn hvi
   rw [e22] at hvi
   have hcc:=HCF.out (D.at j) (TmD.mem.2 ⟨j,hjs,rfl⟩)
   rw [e23] at hcc
   obtain ⟨p,rfl⟩:∃ p:Nat,pp=p:=⟨pp.toNat,by omega⟩
   rw [Int.toNat_natCast] at hpn hvn hvi
   have hix:=HIX.out
   have HIXT:=Lib.hid (fun W (h:Ext w W)=>(show Calls Tryz.prog 81 #[.agg #[.slice ta T.n T.cap],.agg #[.int .i64 (p:Int),.string nm,.int .i64 cc]] W fun e w'=>e=.returned (.int .i64 (v:Int))∧Ext W w' from by
    have:=hix W h (D.at j)
    rw [htx] at this
    simp only [trmV] at this
    rw [e21,e22,e23] at this
    exact this))
   have HATT:=Lib.hid (fun W (h:Ext w W) k (hk:k≤T.en p)=>(show Calls Tryz.prog 94 #[.agg #[.slice ta T.n T.cap],.int .i64 p,.int .i64 v,.int .i64 k] W fun e w'=>e=.returned (.int .i64 (T.st p v k))∧Ext W w' from by
    have:=rat39_any W T (HT.out.ext h) p v hpn hvn k hk (HV.out.en64 hpn) (fun i hi=>HV.out.an8 hpn hi)
    simp only [TM.val] at this
    rw [←HTA.out] at this
    exact this))
   have HE:=Lib.hid (And.intro e21 (And.intro e22 (And.intro e23 (And.intro hvi (And.intro hpn hvn)))))
   clear hix htx hnm hcc' hpp e21 e22 e23 hp0 hvi
   go_upto_region 6 with fail
   refine boxed1 (w:=wr) (G:=fun x=>Code.wp _ _ _ _ x) ?_
   intro w4 hx4 hs4 ⟨l4,c4,_,_⟩
   have hxw4:=hxw.trans hx4
   have hx14:=hxr.trans hx4
   have hx44:Ext w4 w4:=Ext.refl _
   clear hs4 q0 q1 q2 hdb
   by_cases hpq:p=q
   ·subst hpq
    have d5:((p:Int) == (p:Int))=true:=by simp
    have hsn:=Tr.wtJ_yes (T:=T.toTr) (i:=i) (D.get hjs) HE.out.1 (by rw [HE.out.2.1];exact HE.out.2.2.2.1)
    rw [HE.out.2.2.1] at hsn
    have hb1:=HSA.out j
    have hb2:=HSA.out (j+1)
    rw [hsn] at hb2
    have HSN2:=Lib.hid hsn
    obtain ⟨sj,hsj⟩:∃ z,z=T.toTr.wtJ D.l p i j:=⟨_,rfl⟩
    obtain ⟨s1,hs1'⟩:∃ z,z=T.st p v (i+1):=⟨_,rfl⟩
    obtain ⟨s0,hs0'⟩:∃ z,z=T.st p v i:=⟨_,rfl⟩
    have hr1:=HV.out.val_range hpn hvn (T.toTr.st_of p v (i+1) (by omega))
    have hr0:=HV.out.val_range hpn hvn (T.toTr.st_of p v i (by omega))
    rw [←hsj] at hb1 hb2 HSN2 ⊢
    rw [←hs1',←hs0'] at hb2 HSN2
    rw [←hs1'] at hr1
    rw [←hs0'] at hr0
    have HS1':=Lib.hid hs1'
    have HS0':=Lib.hid hs0'
    have hw0:IntKind.i64.wrap (s1 - s0)=s1 - s0:=IntWalk.i64_in _ (by omega)
    have hw1:IntKind.i64.wrap (cc*(s1 - s0))=cc*(s1 - s0):=IntWalk.i64_in _ (by omega)
    have hw2:IntKind.i64.wrap (sj+cc*(s1 - s0))=sj+cc*(s1 - s0):=IntWalk.i64_in _ (by omega)
    clear hsn hsj hs1' hs0' hb1 hb2
    go_wp2_with fail
    go_at_call 81
    refine (HIXT.out _ hxw4).mono ?_
    rintro e w5 ⟨rfl,hx5⟩
    have hx45:=hx44.trans hx5
    have hx15:=hx14.trans hx5
    go_upto_region 8 with fail
    refine wp_region_held_drew (S:=fun w'=>Ext w4 w') (by kernel_rfl) hx45.drew (fun hHeld=>?_)
    refine hQ 0 (v:=?_) rfl (y:=.inl ⟨by rfl,?_⟩) (h:=?_)
    rotate_left
    ·(intro w' hSw;(try dsimp only at hSw);have hS1:=hx14.trans hSw;have hS0:=hxw4.trans hSw;go_simp;try with_reducible rfl)
    try simp only [Act.put,zA,zB,zC]
    refine hQ 1 (v:=?_) rfl (y:=.inl ⟨by rfl,?_⟩) (h:=?_)
    rotate_left
    ·(intro w' hSw;(try dsimp only at hSw);have hS1:=hx14.trans hSw;have hS0:=hxw4.trans hSw;go_simp;try with_reducible rfl)
    try simp only [Act.put,zA,zB,zC]
    refine hQ 2 (v:=?_) rfl (y:=.inl ⟨by rfl,?_⟩) (h:=?_)
    rotate_left
    ·(intro w' hSw;(try dsimp only at hSw);have hS1:=hx14.trans hSw;have hS0:=hxw4.trans hSw;go_simp;try with_reducible rfl)
    try simp only [Act.put,zA,zB,zC]
    refine hQ 3 (v:=?_) rfl (y:=.inl ⟨by rfl,?_⟩) (h:=?_)
    rotate_left
    ·(intro w' hSw;(try dsimp only at hSw);have hS1:=hx14.trans hSw;have hS0:=hxw4.trans hSw;go_simp;try with_reducible rfl)
    try simp only [Act.put,zA,zB,zC]
    refine hQ 4 (v:=?_) rfl (y:=.inl ⟨by rfl,?_⟩) (h:=?_)
    rotate_left
    ·(intro w' hSw;(try dsimp only at hSw);have hS1:=hx14.trans hSw;have hS0:=hxw4.trans hSw;go_simp;try with_reducible rfl)
    try simp only [Act.put,zA,zB,zC]
    refine hQ 5 (v:=?_) rfl (y:=.inl ⟨by rfl,?_⟩) (h:=?_)
    rotate_left
    ·(intro w' hSw;(try dsimp only at hSw);have hS1:=hx14.trans hSw;have hS0:=hxw4.trans hSw;go_simp;try with_reducible rfl)
    try simp only [Act.put,zA,zB,zC]
    refine hQ 6 (v:=?_) rfl (y:=.inl ⟨by rfl,?_⟩) (h:=?_)
    rotate_left
    ·(intro w' hSw;(try dsimp only at hSw);have hS1:=hx14.trans hSw;have hS0:=hxw4.trans hSw;go_simp;try with_reducible rfl)
    try simp only [Act.put,zA,zB,zC]
    refine hQ 8 (v:=?_) rfl (y:=.inl ⟨by rfl,?_⟩) (h:=?_)
    rotate_left
    ·(intro w' hSw;(try dsimp only at hSw);have hS1:=hx14.trans hSw;have hS0:=hxw4.trans hSw;go_simp;try with_reducible rfl)
    try simp only [Act.put,zA,zB,zC]
    refine hQ 9 (v:=?_) rfl (y:=.inl ⟨by rfl,?_⟩) (h:=?_)
    rotate_left
    ·(intro w' hSw;(try dsimp only at hSw);have hS1:=hx14.trans hSw;have hS0:=hxw4.trans hSw;go_simp;try with_reducible rfl)
    try simp only [Act.put,zA,zB,zC]
    refine hQ 10 (v:=?_) rfl (y:=.inl ⟨by rfl,?_⟩) (h:=?_)
    rotate_left
    ·(intro w' hSw;(try dsimp only at hSw);have hS1:=hx14.trans hSw;have hS0:=hxw4.trans hSw;go_simp;try with_reducible rfl)
    try simp only [Act.put,zA,zB,zC]
    refine hQ 11 (v:=?_) rfl (y:=.inl ⟨by rfl,?_⟩) (h:=?_)
    rotate_left
    ·(intro w' hSw;(try dsimp only at hSw);have hS1:=hx14.trans hSw;have hS0:=hxw4.trans hSw;go_simp;try with_reducible rfl)
    try simp only [Act.put,zA,zB,zC]
    refine hQ 12 (v:=?_) rfl (y:=.inl ⟨by rfl,?_⟩) (h:=?_)
    rotate_left
    ·(intro w' hSw;(try dsimp only at hSw);have hS1:=hx14.trans hSw;have hS0:=hxw4.trans hSw;go_simp;try with_reducible rfl)
    try simp only [Act.put,zA,zB,zC]
    refine wpAnyH_ready (rs:=[7]) (by kernel_rfl) (by simp) ?_
    refine AllReadyH.cons rfl (fun K hK=>?_) AllReadyH.nil
    go_simp
    go_at_call 94
    refine (HATT.out _ (hxw4.trans hx45.drew) i1 (by have:=HI1.out;omega)).mono ?_
    rw [show T.st p v i1=s1 from by rw [HI1.out];exact HS1'.out.symm]
    rintro e w6 ⟨rfl,hx6⟩
    have hx46:Ext w4 w6:=hx45.drew.trans hx6
    refine hK.out _ _ ?_ (fun hHeld3=>?_)
    ·exact hx46
    clear hK K
    try simp only [Act.put,zA,zB,zC]
    refine wpAnyH_ready (rs:=[13]) (by kernel_rfl) (by simp) ?_
    refine AllReadyH.cons rfl (fun K hK=>?_) AllReadyH.nil
    go_simp
    go_at_call 94
    refine (HATT.out _ (hxw4.trans hx46) i (by omega)).mono ?_
    rw [←HS0'.out]
    rintro e w7 ⟨rfl,hx7⟩
    have hx47:Ext w4 w7:=hx46.trans hx7
    refine hK.out _ _ ?_ (fun hHeld4=>?_)
    ·exact hx47
    clear hK K
    try simp only [Act.put,zA,zB,zC]
    refine hQ 14 (v:=?_) rfl (y:=.inl ⟨by rfl,?_⟩) (h:=?_)
    rotate_left
    ·(intro w' hSw;(try dsimp only at hSw);have hS1:=hx14.trans hSw;have hS0:=hxw4.trans hSw;go_simp;try with_reducible rfl)
    try simp only [Act.put,zA,zB,zC]
    refine hQ 15 (v:=?_) rfl (y:=.inl ⟨by rfl,?_⟩) (h:=?_)
    rotate_left
    ·(intro w' hSw;(try dsimp only at hSw);have hS1:=hx14.trans hSw;have hS0:=hxw4.trans hSw;go_simp;try with_reducible rfl)
    try simp only [Act.put,zA,zB,zC]
    refine hQ 16 (v:=?_) rfl (y:=.inl ⟨by rfl,?_⟩) (h:=?_)
    rotate_left
    ·(intro w' hSw;(try dsimp only at hSw);have hS1:=hx14.trans hSw;have hS0:=hxw4.trans hSw;go_simp;try with_reducible rfl)
    try simp only [Act.put,zA,zB,zC]
    refine wpAnyH_ready (rs:=[17]) (by kernel_rfl) (by simp) ?_
    refine AllReadyH.cons rfl (fun K hK=>?_) AllReadyH.nil
    go_simp
    refine hK.out _ _ ?_ (fun hHeld5=>?_)
    ·exact hx47
    clear hK K
    try simp only [Act.put,zA,zB,zC]
    refine wpAnyH_done (by kernel_rfl) ?_ _
    clear hHeld hHeld3 hHeld4 hHeld5 l4 c4
    go_wp2_with fail
    go_roundg (n - (j+1))
    case rel=>exact ⟨j+1,by omega,rfl,by go_num,by rw [HSN2.out],hx14.trans hx47⟩
    case measure=>omega
   ·have d5:((p:Int) == (q:Int))=false:=by simpa using fun h:(p:Int)=q=>hpq (by omega)
    have HSN2:=Lib.hid (Tr.wtJ_no (T:=T.toTr) (i:=i) (p:=q) (D.get hjs) (by rw [HE.out.1];omega) (by rw [HE.out.1];omega))
    go_wp2_with fail
    go_roundg (n - (j+1))
    case rel=>exact ⟨j+1,by omega,rfl,by go_num,by rw [HSN2.out],hx14⟩
    case measure=>omega
  ·obtain rfl:j=n:=by omega
   rw [HSN.out]
   go_wp2_with fail
   go_ret
   exact ⟨rfl,hxw⟩
theorem step_make_full {P : Program} {w : World} {ops : Array Oper} {o : Oper} {a : Act} {K : Act → World → Prop} {Q : Exit → Act → World → Prop} {E : Prop}
    (hg:o.guard=none) (l c:Operand) (t:TypeId) (hop:o.op=Op.makeSlice t l c)
    (base:Nat) (e:TypeId) (i:TypeInfo) (z:Value) (size:Nat) (h1:P.underlying t=some (.slice e)) (h2:P.info? e=some i) (h3:i.zero=some z) (h4:i.size=size)
    (kl kc:IntKind) (L C:Int) (n:Nat) (hl:a.eval l=.int kl L) (hc:a.eval c=.int kc C) (hL:L=(n:Int)) (hC:C=(n:Int)) (b2:i.bytes*n≤281474976710656) (b3:n≤maxLen) (b4:base≤w.heap.size)
    (hK:∀ w',w'.ownsRow base e size (.slice (some ⟨w.heap.size,0,none⟩) n n) n (madeCells z.cells (n*size)).toList→w.grownBy w' none→K (a.put o.dst (.slice (some ⟨w.heap.size,0,none⟩) n n)) w') :
    if Region.wanted o (yielded ops a.tmps)=true then Oper.wp P o a w K Q else E:=by
 have hw:Region.wanted o (yielded ops a.tmps)=true:=by simp [Region.wanted,hg]
 rw [if_pos hw]
 obtain ⟨w',hrun,r1,r2⟩:=run_make_full (P:=P) w base t e i z size h1 h2 h3 h4 kl kc n b2 b3 b4
 subst hL
 subst hC
 unfold Oper.wp
 simp [execOp,hop,hl,hc,hrun,Result.andThen]
 exact hK w' r1 r2
def Rflt39Post (T:TM) (D:TmD) (w:World) (e:Ending) (w':World):Prop:=Ext w w'∧∃ c:Int,T.SumFault D.l c∧e=.returned (.int .i64 c)
theorem Tr.mass_mono (T:Tr) (ts:List Trm) (p i:Nat):T.mass ts p i≤T.mass ts p (i+1):=by
 rw [Tr.mass_next]
 have:=iabs_nonneg (T.wt ts p i)
 omega
set_option maxHeartbeats 8000000 in
theorem rflt39_any (w:World) (T:TM) (hT:T.At w) (D:TmD) (hD:D.At w):Calls Tryz.prog 19 #[T.val,.slice D.s.a D.s.n D.s.c] w (Rflt39Post T D w):=by
 obtain ⟨j0,hj0,hy0,hy1,hy2⟩:=info_parts infoInt
 have hdn:=hD.hn
 have HT:=Lib.hid hT
 have HD:=Lib.hid hD
 have HVa:=Lib.hid (fun W (h:Ext w W)=>rvalid_any W T (hT.ext h))
 have HIX:=Lib.hid (fun W (h:Ext w W) x=>rvar39_any W T (hT.ext h) x)
 have HCT:=Lib.hid (fun W (h:Ext w W) (hV:T.toTr.Valid)=>rcnt_any W T (hT.ext h) hV)
 have HVL:=Lib.hid (fun W (h:Ext w W) (hV:T.toTr.Valid) hk hc hl g (hC:CutAt W T.n (some ⟨g,0,none⟩) g 0 fun _=>0)=>rval39_any W T (hT.ext h) D (hD.ext h) hV hk hc hl (some ⟨g,0,none⟩) g 0 T.n (fun _=>0) hC (fun _ _=>Nat.zero_le _))
 have HWT:=Lib.hid (fun W (h:Ext w W) (hV:T.toTr.Valid) hk hc hl (q i:Nat) hq hi=>(show Calls Tryz.prog 83 #[T.val,.slice D.s.a D.s.n D.s.c,.int .i64 q,.int .i64 ((i:Int)+1)] W fun e w'=>e=.returned (.int .i64 (T.wt D.l q i))∧Ext W w' from by
  have h1:=rwt39_any W T (hT.ext h) D (hD.ext h) hV hk hc hl q i (i+1) hq hi rfl
  rw [show ((i+1:Nat):Int)=(i:Int)+1 from by omega] at h1
  exact h1))
 obtain ⟨ta,hta⟩:∃ z,z=T.a:=⟨_,rfl⟩
 have HTA:=Lib.hid hta
 obtain ⟨da,hda⟩:∃ z,z=D.s.a:=⟨_,rfl⟩
 have HDA:=Lib.hid hda
 obtain ⟨n,hn⟩:∃ n,n=D.s.n:=⟨_,rfl⟩
 have HN:=Lib.hid hn
 have HLN:=Lib.hid (show D.l.length=n from by rw [D.len,hn])
 unfold Rflt39Post
 simp only [TM.val] at HVa HIX HCT HVL HWT ⊢
 rw [←hta] at HVa HIX HCT HVL HWT
 rw [←hda,←hn] at HVL HWT
 rw [←hta,←hda,←hn]
 rw [←hn] at hdn
 clear hT hD hta hda hn
 go_enter Tryz.func19,Tryz.ntmps19
 go_upto_region 1 with fail
 refine boxed1 (w:=w) (G:=fun x=>Code.wp _ _ _ _ x) ?_
 intro w1 hx1 hs1 ⟨l0,c0,_,_⟩
 have hx11:Ext w1 w1:=Ext.refl _
 clear hs1
 go_wp2_with fail
 go_at_call 57
 refine (HVa.out w1 hx1).mono ?_
 rintro e w2 ⟨bv,rfl,hbv,hx2⟩
 have hxw2:=hx1.trans hx2
 have HB:=Lib.hid hbv
 clear hbv
 cases bv with
 | false =>
  go_wp2_with fail
  go_ret
  exact ⟨hxw2,_,(.inl ⟨fun h=>absurd (HB.out.2 h) (by decide),rfl⟩),rfl⟩
 | true =>
 have HV:=Lib.hid (HB.out.1 rfl)
 by_cases h64:64<n
 ·have d1:decide ((64:Int)<(n:Int))=true:=decide_eq_true (by omega)
  have d1':decide (64<n)=true:=decide_eq_true h64
  go_wp2_with fail
  go_ret
  exact ⟨hxw2,_,(.inr (.inl ⟨HV.out,by rw [HLN.out];exact h64,rfl⟩)),rfl⟩
 have d1:decide ((64:Int)<(n:Int))=false:=decide_eq_false (by omega)
 have d1':decide (64<n)=false:=decide_eq_false h64
 have HL64:=Lib.hid (show D.l.length≤64 from by rw [HLN.out];omega)
 go_wp2_with fail
 go_loopg [5] n (fun gg v5 wr=>∃ j:Nat,j≤n∧gg=n - j∧v5=.int .i64 j∧Ext w1 wr∧∀ i,i<j→0≤T.toTr.tix (D.at i))
 case atStart=>exact ⟨0,by omega,rfl,rfl,hx2,fun i h=>by omega⟩
 case round=>
  obtain ⟨j,hj,rfl,rfl,hxr,hall⟩:=hrel
  have HALL:=Lib.hid hall
  have hxw:=hx1.trans hxr
  clear hall
  by_cases hlt:j<n
  ·have hlt':(j:Int)<(n:Int):=by omega
   have hjs:j<D.s.n:=by rw [←HN.out];exact hlt
   obtain rfl:da=some ⟨D.s.b,D.s.o,none⟩:=by rw [HDA.out];exact HD.out.ha (by omega)
   have hdb:∀ w',Ext w w'→D.s.b<w'.heap.size:=fun w' x=>Nat.lt_of_lt_of_le (HD.out.hb (by omega)) x.le
   have q0:∀ w',Ext w w'→w'.cell? ⟨D.s.b,D.s.o+j*3,none⟩=some (.int .i64 (D.p j)):=fun w' x=>(HD.out.ext x).c0 j hjs
   have q1:∀ w',Ext w w'→w'.cell? ⟨D.s.b,D.s.o+j*3+1,none⟩=some (.string (D.nm j)):=fun w' x=>(HD.out.ext x).c1 j hjs
   have q2:∀ w',Ext w w'→w'.cell? ⟨D.s.b,D.s.o+j*3+2,none⟩=some (.int .i64 (D.c j)):=fun w' x=>(HD.out.ext x).c2 j hjs
   have hix:=fun W (h:Ext w W)=>(show Calls Tryz.prog 81 #[.agg #[.slice ta T.n T.cap],.agg #[.int .i64 (D.p j),.string (D.nm j),.int .i64 (D.c j)]] W fun e w'=>e=.returned (.int .i64 (T.toTr.tix (D.at j)))∧Ext W w' from HIX.out W h (D.at j))
   have HIXJ:=Lib.hid hix
   obtain ⟨tx,htx⟩:∃ z,z=T.toTr.tix (D.at j):=⟨_,rfl⟩
   rw [←htx] at HIXJ
   have HTX:=Lib.hid htx
   clear hix htx
   have hx14:=hxr
   have hxw4:=hxw
   go_upto_region 8 with fail
   refine wp_region_held_drew (S:=fun w'=>Ext wr w') (by kernel_rfl) (Ext.refl _).drew (fun hHeld=>?_)
   refine hQ 0 (v:=?_) rfl (y:=.inl ⟨by rfl,?_⟩) (h:=?_)
   rotate_left
   ·(intro w' hSw;(try dsimp only at hSw);have hS1:=hx14.trans hSw;have hS0:=hxw4.trans hSw;go_simp;try with_reducible rfl)
   try simp only [Act.put,zA,zB,zC]
   refine hQ 1 (v:=?_) rfl (y:=.inl ⟨by rfl,?_⟩) (h:=?_)
   rotate_left
   ·(intro w' hSw;(try dsimp only at hSw);have hS1:=hx14.trans hSw;have hS0:=hxw4.trans hSw;go_simp;try with_reducible rfl)
   try simp only [Act.put,zA,zB,zC]
   refine hQ 2 (v:=?_) rfl (y:=.inl ⟨by rfl,?_⟩) (h:=?_)
   rotate_left
   ·(intro w' hSw;(try dsimp only at hSw);have hS1:=hx14.trans hSw;have hS0:=hxw4.trans hSw;go_simp;try with_reducible rfl)
   try simp only [Act.put,zA,zB,zC]
   refine hQ 3 (v:=?_) rfl (y:=.inl ⟨by rfl,?_⟩) (h:=?_)
   rotate_left
   ·(intro w' hSw;(try dsimp only at hSw);have hS1:=hx14.trans hSw;have hS0:=hxw4.trans hSw;go_simp;try with_reducible rfl)
   try simp only [Act.put,zA,zB,zC]
   refine hQ 4 (v:=?_) rfl (y:=.inl ⟨by rfl,?_⟩) (h:=?_)
   rotate_left
   ·(intro w' hSw;(try dsimp only at hSw);have hS1:=hx14.trans hSw;have hS0:=hxw4.trans hSw;go_simp;try with_reducible rfl)
   try simp only [Act.put,zA,zB,zC]
   refine wpAnyH_ready (rs:=[5]) (by kernel_rfl) (by simp) ?_
   refine AllReadyH.cons rfl (fun K hK=>?_) AllReadyH.nil
   go_simp
   go_at_call 81
   refine (HIXJ.out _ hxw.drew).mono ?_
   rintro e w5 ⟨rfl,hx5⟩
   have hxr5:Ext wr w5:=(Ext.refl wr).drew.trans hx5
   refine hK.out _ _ ?_ (fun hHeld2=>?_)
   ·exact hxr5
   clear hK K
   try simp only [Act.put,zA,zB,zC]
   have hxw5:=hxw.trans hxr5
   have hx15:=hxr.trans hxr5
   by_cases hneg:tx<0
   ·have d2:decide (tx<0)=true:=decide_eq_true hneg
    refine hQ 6 (v:=?_) rfl (y:=.inl ⟨by rfl,?_⟩) (h:=?_)
    rotate_left
    ·(intro w' hSw;(try dsimp only at hSw);have hS1:=hx14.trans hSw;have hS0:=hxw4.trans hSw;go_simp;try with_reducible rfl)
    try simp only [Act.put,zA,zB,zC]
    refine wpAnyH_done (by kernel_rfl) ?_ _
    clear hHeld hHeld2
    go_wp2_with fail
    go_ret
    exact ⟨hxw5,_,(.inr (.inr (.inl ⟨HV.out,HL64.out,fun h=>absurd (h _ (TmD.mem.2 ⟨j,hjs,rfl⟩)) (by rw [←HTX.out];omega),rfl⟩))),rfl⟩
   ·have d2:decide (tx<0)=false:=decide_eq_false hneg
    refine hQ 6 (v:=?_) rfl (y:=.inl ⟨by rfl,?_⟩) (h:=?_)
    rotate_left
    ·(intro w' hSw;(try dsimp only at hSw);have hS1:=hx14.trans hSw;have hS0:=hxw4.trans hSw;go_simp;try with_reducible rfl)
    try simp only [Act.put,zA,zB,zC]
    refine wpAnyH_done (by kernel_rfl) ?_ _
    clear hHeld hHeld2
    go_wp2_with fail
    go_roundg (n - (j+1))
    case rel=>exact ⟨j+1,by omega,rfl,by go_num,hx15,fun i hi=>by
     by_cases e:i=j
     ·subst e;rw [←HTX.out];omega
     ·exact HALL.out i (by omega)⟩
    case measure=>omega
  ·obtain rfl:j=n:=by omega
   have HKN:=Lib.hid (show T.known D.l from fun x hx=>by
    obtain ⟨i,hi,rfl⟩:=TmD.mem.1 hx
    exact HALL.out i (by rw [HN.out];exact hi))
   clear hxw2 hx2
   go_wp2_with fail
   go_loopg [6] j (fun gg v6 wr=>∃ z:Nat,z≤j∧gg=j - z∧v6=.int .i64 z∧Ext w1 wr∧∀ i,i<z→-1048576≤D.c i∧D.c i≤1048576)
   case atStart=>exact ⟨0,by omega,rfl,rfl,hxr,fun i h=>by omega⟩
   case round=>
    obtain ⟨z,hz,rfl,rfl,hxz,hall⟩:=hrel
    have HALL2:=Lib.hid hall
    have hxwz:=hx1.trans hxz
    clear hall
    by_cases hlt:z<j
    ·have hlt':(z:Int)<(j:Int):=by omega
     have hjs:z<D.s.n:=by rw [←HN.out];exact hlt
     obtain rfl:da=some ⟨D.s.b,D.s.o,none⟩:=by rw [HDA.out];exact HD.out.ha (by omega)
     have hdb:∀ w',Ext w w'→D.s.b<w'.heap.size:=fun w' x=>Nat.lt_of_lt_of_le (HD.out.hb (by omega)) x.le
     obtain ⟨cc,hcc⟩:∃ c,c=D.c z:=⟨_,rfl⟩
     have q2:∀ w',Ext w w'→w'.cell? ⟨D.s.b,D.s.o+z*3+2,none⟩=some (.int .i64 cc):=fun w' x=>by rw [hcc];exact (HD.out.ext x).c2 z hjs
     have HCC:=Lib.hid hcc
     clear hcc
     by_cases h1:1048576<cc
     ·have d2:decide (1048576<cc)=true:=decide_eq_true h1
      go_wp2_with fail
      go_ret
      exact ⟨hxwz,_,(.inr (.inr (.inr (.inl ⟨HV.out,HL64.out,HKN.out,fun h=>absurd (h _ (TmD.mem.2 ⟨z,hjs,rfl⟩)).2 (by show ¬D.c z≤1048576;rw [←HCC.out];omega),rfl⟩)))),rfl⟩
     ·have d2:decide (1048576<cc)=false:=decide_eq_false h1
      by_cases h2:cc < -1048576
      ·have d3:decide (cc < -1048576)=true:=decide_eq_true h2
       go_wp2_with fail
       go_ret
       exact ⟨hxwz,_,(.inr (.inr (.inr (.inl ⟨HV.out,HL64.out,HKN.out,fun h=>absurd (h _ (TmD.mem.2 ⟨z,hjs,rfl⟩)).1 (by show ¬ -1048576≤D.c z;rw [←HCC.out];omega),rfl⟩)))),rfl⟩
      ·have d3:decide (cc < -1048576)=false:=decide_eq_false h2
       go_wp2_with fail
       go_roundg (j - (z+1))
       case rel=>exact ⟨z+1,by omega,rfl,by go_num,hxz,fun i hi=>by
        by_cases e:i=z
        ·subst e;rw [←HCC.out];omega
        ·exact HALL2.out i (by omega)⟩
       case measure=>omega
    ·obtain rfl:z=j:=by omega
     have HCF:=Lib.hid (show coefs D.l from fun x hx=>by
      obtain ⟨i,hi,rfl⟩:=TmD.mem.1 hx
      exact HALL2.out i (by rw [HN.out];exact hi))
     have hct:=HCT.out wr hxwz HV.out
     have hsm:=tot_small (f:=T.en) (c:=64) (n:=T.n) (fun j hj=>HV.out.en64 hj)
     have hn8:=HV.out.n8
     obtain ⟨tn,htn⟩:∃ z,z=tot T.en T.n:=⟨_,rfl⟩
     rw [←htn] at hct hsm
     have HTN:=Lib.hid htn
     clear htn hxr hxw
     by_cases h510:510<tn
     ·have d2:decide ((510:Int)<(tn:Int))=true:=decide_eq_true (by omega)
      have d2':decide (510<tn)=true:=decide_eq_true h510
      go_wp2_with fail
      go_at_call 32
      refine hct.mono ?_
      rintro e w5 ⟨rfl,hx5⟩
      have hxw5:=hxwz.trans hx5
      clear hct
      go_wp2_with fail
      go_ret
      exact ⟨hxw5,_,(.inr (.inr (.inr (.inr (.inl ⟨HV.out,HL64.out,HKN.out,HCF.out,fun h=>absurd h.1 (by rw [←HTN.out];omega),rfl⟩))))),rfl⟩
     have d2:decide ((510:Int)<(tn:Int))=false:=decide_eq_false (by omega)
     have d2':decide (510<tn)=false:=decide_eq_false h510
     have pa:=HT.out.P.pa (by have:=HV.out.n1;omega)
     obtain rfl:ta=some ⟨T.b,T.off,none⟩:=by rw [HTA.out];exact pa
     have hba:=Tr.sumAt_abs HV.out HKN.out HCF.out HL64.out (c:=fun _=>0) (fun _ _=>Nat.zero_le _)
     obtain ⟨bg,hbg⟩:∃ z,z=T.toTr.sumAt D.l (fun _=>0):=⟨_,rfl⟩
     rw [←hbg] at hba
     have HBG:=Lib.hid hbg
     have HM0:=Lib.hid (show T.toTr.mass D.l 0 0=iabs bg from by rw [Tr.mass_zero,hbg])
     have HMN:=Lib.hid (fun p i=>Tr.mass_nonneg T.toTr D.l p i)
     have hia:=iabs_of hba
     clear hbg pa
     go_wp2_with fail
     go_at_call 32
     refine hct.mono ?_
     rintro e w5 ⟨rfl,hx5⟩
     have hxw5:=hxwz.trans hx5
     have hx15:=hxz.trans hx5
     clear hct
     go_upto_region 17 with fail
     have hx14:=hx15
     have hxw4:=hxw5
     refine wp_region_held_drew (S:=fun w'=>Ext w5 w') (by kernel_rfl) (Ext.refl _).drew (fun hHeld=>?_)
     refine hQ 0 (v:=?_) rfl (y:=.inl ⟨by rfl,?_⟩) (h:=?_)
     rotate_left
     ·(intro w' hSw;(try dsimp only at hSw);have hS1:=hx14.trans hSw;have hS0:=hxw4.trans hSw;go_simp;try with_reducible rfl)
     try simp only [Act.put,zA,zB,zC]
     refine hQ 1 (v:=?_) rfl (y:=.inl ⟨by rfl,?_⟩) (h:=?_)
     rotate_left
     ·(intro w' hSw;(try dsimp only at hSw);have hS1:=hx14.trans hSw;have hS0:=hxw4.trans hSw;go_simp;try with_reducible rfl)
     try simp only [Act.put,zA,zB,zC]
     refine hQ 2 (v:=?_) rfl (y:=.inl ⟨by rfl,?_⟩) (h:=?_)
     rotate_left
     ·(intro w' hSw;(try dsimp only at hSw);have hS1:=hx14.trans hSw;have hS0:=hxw4.trans hSw;go_simp;try with_reducible rfl)
     try simp only [Act.put,zA,zB,zC]
     refine hQ 3 (v:=?_) rfl (y:=.inl ⟨by rfl,?_⟩) (h:=?_)
     rotate_left
     ·(intro w' hSw;(try dsimp only at hSw);have hS1:=hx14.trans hSw;have hS0:=hxw4.trans hSw;go_simp;try with_reducible rfl)
     try simp only [Act.put,zA,zB,zC]
     refine hQ 5 (v:=?_) rfl (y:=.inl ⟨by rfl,?_⟩) (h:=?_)
     rotate_left
     ·(intro w' hSw;(try dsimp only at hSw);have hS1:=hx14.trans hSw;have hS0:=hxw4.trans hSw;go_simp;try with_reducible rfl)
     try simp only [Act.put,zA,zB,zC]
     refine wpAnyH_ready (rs:=[4]) (by kernel_rfl) (by simp) ?_
     refine AllReadyH.cons rfl (fun K hK=>?_) AllReadyH.nil
     refine step_make_full rfl _ _ 28 rfl w5.heap.size 3 j0 (.int .i64 0) 1 Tryz.underlying28 hj0 hy0 hy1 .i64 .i64 _ _ T.n (by rfl) (by rfl) rfl rfl (by rw [hy2];omega) (by unfold maxLen;omega) (Nat.le_refl _) ?_
     intro w6 hown6 hg6
     have hx56:Ext w5 w6:=(Ext.refl w5).drew.trans ((Below.refl _ _).grown hg6 (Nat.le_refl _) (by simp))
     refine hK.out _ _ ?_ (fun hHeld2=>?_)
     ·exact hx56
     clear hK K
     try simp only [Act.put,List.setIfInBounds_toArray]
     have HROW:=Lib.hid (IntRow.made hown6)
     clear hown6 hg6
     have hvl:=HVL.out w6 (hxw5.trans hx56) HV.out HKN.out HCF.out HL64.out w5.heap.size ((HROW.out.like (f':=fun _=>((0:Nat):Int)) fun _ _=>rfl).cut (c:=fun _=>0))
     rw [←HBG.out] at hvl
     refine wpAnyH_ready (rs:=[6]) (by kernel_rfl) (by simp) ?_
     refine AllReadyH.cons rfl (fun K hK=>?_) AllReadyH.nil
     go_simp
     go_at_call 31
     refine hvl.mono ?_
     rintro e w7 ⟨rfl,hx7⟩
     have hx57:=hx56.trans hx7
     refine hK.out _ _ ?_ (fun hHeld3=>?_)
     ·exact hx57
     clear hK K
     try simp only [Act.put,zA,zB,zC]
     have hab:=rabs39_any bg w7 (by omega) (by omega)
     refine wpAnyH_ready (rs:=[7]) (by kernel_rfl) (by simp) ?_
     refine AllReadyH.cons rfl (fun K hK=>?_) AllReadyH.nil
     go_simp
     go_at_call 82
     refine hab.mono ?_
     rintro e w8 ⟨rfl,rfl⟩
     refine hK.out _ _ ?_ (fun hHeld4=>?_)
     ·exact hx57
     clear hK K
     try simp only [Act.put,zA,zB,zC]
     refine wpAnyH_ready (rs:=[8]) (by kernel_rfl) (by simp) ?_
     refine AllReadyH.cons rfl (fun K hK=>?_) AllReadyH.nil
     go_simp
     refine hK.out _ _ ?_ (fun hHeld5=>?_)
     ·exact hx57
     clear hK K
     try simp only [Act.put,zA,zB,zC]
     refine wpAnyH_done (by kernel_rfl) ?_ _
     have hx17:=hx15.trans hx57
     clear hHeld hHeld2 hHeld3 hHeld4 hHeld5 hab hvl
     go_wp2_with fail
     go_loopg [7,8] T.n (fun gg v7 v8 wr=>∃ (k:Nat) (m:Int),k≤T.n∧gg=T.n - k∧v8=.int .i64 k∧v7=.int .i64 m∧0≤m∧m≤288230376151711744∧(m=T.toTr.mass D.l k 0∨(562949953421312<m∧562949953421312<T.toTr.mass D.l k 0))∧Ext w1 wr)
     case atStart=>exact ⟨0,_,by omega,rfl,rfl,rfl,hia.1,by omega,.inl HM0.out.symm,hx17⟩
     case round=>
      obtain ⟨k,m,hk,rfl,rfl,rfl,hm0,hm1,hm,hxr⟩:=hrel
      have hxwr:=hx1.trans hxr
      have HM:=Lib.hid hm
      clear hm hx17 hx57 hx56
      by_cases hlt:k<T.n
      ·have hlt':(k:Int)<(T.n:Int):=by omega
       have hen:=HV.out.en64 hlt
       have pb:=HT.out.P.pb (by omega)
       have p2:∀ w',Ext w w'→w'.cell? ⟨T.b,T.off+k*3+2,none⟩=some (.slice (T.ea k) (T.en k) (T.ec k)):=fun w' h=>HT.out.P.p2 w' h k hlt
       go_wp2_with fail
       go_loopg [7,9] (T.en k) (fun gg v7 v9 wr=>∃ (i:Nat) (m:Int),i≤T.en k∧gg=T.en k - i∧v9=.int .i64 ((i:Int)+1)∧v7=.int .i64 m∧0≤m∧m≤288230376151711744∧(m=T.toTr.mass D.l k i∨(562949953421312<m∧562949953421312<T.toTr.mass D.l k i))∧Ext w1 wr)
       case atStart=>exact ⟨0,m,by omega,rfl,rfl,rfl,hm0,hm1,HM.out,hxr⟩
       case round=>
        obtain ⟨i,m,hi,rfl,rfl,rfl,hm0,hm1,hm,hxi⟩:=hrel
        have hxwi:=hx1.trans hxi
        have HM:=Lib.hid hm
        clear hm
        by_cases hli:i<T.en k
        ·have hli':(i:Int)+1≤(T.en k:Int):=by omega
         have d3:decide ((i:Int)+1≤(T.en k:Int))=true:=decide_eq_true hli'
         have hw9:IntKind.i64.wrap ((i:Int)+1+1)=(i:Int)+1+1:=IntWalk.i64_in _ (by omega)
         by_cases hbig:m≤562949953421312
         ·have d4:decide (m≤562949953421312)=true:=decide_eq_true hbig
          have HMX:=Lib.hid (Tr.mass_next T.toTr D.l k i)
          have HME:=Lib.hid (show m=T.toTr.mass D.l k i from HM.out.resolve_right fun h=>by omega)
          have hwa:=Tr.wt_abs HV.out HKN.out HCF.out HL64.out hli
          have hwt:=HWT.out wr hxwi HV.out HKN.out HCF.out HL64.out k i hlt hli
          obtain ⟨wk,hwk⟩:∃ z,z=T.toTr.wt D.l k i:=⟨_,rfl⟩
          rw [←hwk] at hwa hwt HMX
          have hib:=iabs_of hwa
          have HAB:=Lib.hid (fun W=>rabs39_any wk W (by omega) (by omega))
          have hw8:IntKind.i64.wrap (m+iabs wk)=m+iabs wk:=IntWalk.i64_in _ (by omega)
          clear hwk hwa
          go_wp2_with fail
          go_at_call 83
          refine hwt.mono ?_
          rintro e w9 ⟨rfl,hx9⟩
          have hx19:=hxi.trans hx9
          have hxw9:=hxwi.trans hx9
          clear hwt
          go_wp2_with fail
          go_at_call 82
          refine (HAB.out w9).mono ?_
          rintro e w10 ⟨rfl,rfl⟩
          generalize iabs wk=aw at *
          go_wp2_with fail
          go_roundg (T.en k - (i+1))
          case rel=>exact ⟨i+1,m+aw,by omega,rfl,by go_num,rfl,by omega,by omega,.inl (by rw [HMX.out,HME.out]),hx19⟩
          case measure=>omega
         ·have d4:decide (m≤562949953421312)=false:=decide_eq_false hbig
          have hge:562949953421312<T.toTr.mass D.l k (i+1):=by
           have h1:=Tr.mass_mono T.toTr D.l k i
           rcases HM.out with h | h <;> omega
          have HGE:=Lib.hid hge
          clear hge
          go_wp2_with fail
          go_roundg (T.en k - (i+1))
          case rel=>exact ⟨i+1,m,by omega,rfl,by go_num,rfl,hm0,hm1,.inr ⟨by omega,HGE.out⟩,hxi⟩
          case measure=>omega
        ·obtain rfl:i=T.en k:=by omega
         have d3:decide ((T.en k:Int)+1≤(T.en k:Int))=false:=decide_eq_false (by omega)
         go_wp2_with fail
         go_roundg (T.n - (k+1))
         case rel=>exact ⟨k+1,m,by omega,rfl,by go_num,rfl,hm0,hm1,by rw [Tr.mass_end];exact HM.out,hxi⟩
         case measure=>omega
      ·obtain rfl:k=T.n:=by omega
       by_cases hbig:562949953421312<m
       ·have d4:decide (562949953421312<m)=true:=decide_eq_true hbig
        go_wp2_with fail
        go_ret
        exact ⟨hxwr,_,(.inr (.inr (.inr (.inr (.inl ⟨HV.out,HL64.out,HKN.out,HCF.out,fun h=>absurd h.2 (by rcases HM.out with h1 | h1 <;> omega),rfl⟩))))),rfl⟩
       ·have d4:decide (562949953421312<m)=false:=decide_eq_false hbig
        go_wp2_with fail
        go_ret
        exact ⟨hxwr,_,(.inr (.inr (.inr (.inr (.inr ⟨⟨HV.out,HL64.out,HKN.out,HCF.out,by rw [←HTN.out];omega,by rcases HM.out with h1 | h1 <;> omega⟩,rfl⟩))))),rfl⟩
end Go.Proofs.YtnknkkmdbnaglaaGreat
