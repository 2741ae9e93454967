/- Contracts and laws in plain Lean for RApp: group T13. -/
import Derived.Test.YtlfdfkbmollaaaaGreatDoorT02
import Derived.Deep.LoopGhost
import Derived.Test.YtlfdfkbmollaaaaGreatDoorT03
set_option maxRecDepth 100000
namespace Go.Proofs.YtlfdfkbmollaaaaGreatDoor
open Go.RowKit
set_option maxHeartbeats 400000 in
theorem rletter_any (c : Int) (w : World) :
    Calls Tryz.prog 193 #[.int .u8 c] w fun e w'=>e=.returned (.bool (letterB c))∧w=w':=by
 go_enter Tryz.func193,Tryz.ntmps193
 go_wp2
 all_goals go_ret
 all_goals refine ⟨ret_bool ?_,rfl⟩
 all_goals (rw [Bool.eq_iff_iff];simp [letterB];try omega)
set_option maxHeartbeats 400000 in
theorem rdigit_any (c : Int) (w : World) :
    Calls Tryz.prog 194 #[.int .u8 c] w fun e w'=>e=.returned (.bool (digitB c))∧w=w':=by
 go_enter Tryz.func194,Tryz.ntmps194
 go_wp2
 all_goals go_ret
 all_goals refine ⟨ret_bool ?_,rfl⟩
 all_goals (rw [Bool.eq_iff_iff];simp [digitB];try omega)
set_option maxHeartbeats 400000 in
theorem rvalue_any (x : Int) (w : World) :
    Calls Tryz.prog 142 #[.int .i64 x] w fun e w'=>e=.returned (.bool (inB x (-1073741824) 1073741824))∧w=w':=by
 go_enter Tryz.func142,Tryz.ntmps142
 go_wp2
 all_goals go_ret
 all_goals refine ⟨ret_bool ?_,rfl⟩
 all_goals (rw [Bool.eq_iff_iff];simp [inB];try omega)
set_option maxRecDepth 10000 in
set_option maxHeartbeats 400000 in
theorem rname_any (s : ByteArray) (w : World) (hs : s.size ≤ 9223372036854775807) :
    Calls Tryz.prog 141 #[.string s] w fun e w'=>e=.returned (.bool (nameB s))∧w=w':=by
 by_cases h0:0<s.size
 ·have d0:decide ((s.size:Int)<1)=false:=decide_eq_false (by omega)
  by_cases h1:s.size≤16
  ·have d1:decide ((16:Int)<(s.size:Int))=false:=decide_eq_false (by omega)
   cases h2:letterB s[0].toNat with
   | true =>
    have HA:=Lib.hid (take_all_whole s)
    have H1:=Lib.hid (show (s.data.toList.take 1).all nameC=true by rw [take_all_snoc s 0 h0,nameC_letter h2];simp)
    go_enter Tryz.func141,Tryz.ntmps141
    go_wp2_with (first | (go_at_call 193;refine (rletter_any _ _).mono ?_;rintro e w' ⟨rfl,rfl⟩) | (go_at_call 194;refine (rdigit_any _ _).mono ?_;rintro e w' ⟨rfl,rfl⟩))
    go_loop [3] (fun i=>∃ k:Nat,1≤k∧k≤s.size∧i=.int .i64 k∧(s.data.toList.take k).all nameC=true) (fun i=>s.size - (intOf i).toNat)
    case atStart=>exact ⟨1,Nat.le_refl _,h0,rfl,H1.out⟩
    case round=>
     obtain ⟨k,hk1,hk,rfl,hall⟩:=hrel
     by_cases hlt:k<s.size
     ·have HT:=Lib.hid (take_all_snoc s k hlt)
      have HF:=Lib.hid (all_false s k hlt)
      have HL:=Lib.hid hall
      clear hall
      cases hA:letterB s[k].toNat with
      | true =>
       go_wp2_with (first | (go_at_call 193;refine (rletter_any _ _).mono ?_;rintro e w' ⟨rfl,rfl⟩) | (go_at_call 194;refine (rdigit_any _ _).mono ?_;rintro e w' ⟨rfl,rfl⟩))
       go_round
       case rel=>exact ⟨k+1,by omega,by omega,by go_num,by rw [HT.out,HL.out,nameC_letter hA];rfl⟩
       case measure=>simp [intOf];omega
      | false =>
       cases hD:digitB s[k].toNat with
       | true =>
        go_wp2_with (first | (go_at_call 193;refine (rletter_any _ _).mono ?_;rintro e w' ⟨rfl,rfl⟩) | (go_at_call 194;refine (rdigit_any _ _).mono ?_;rintro e w' ⟨rfl,rfl⟩))
        go_round
        case rel=>exact ⟨k+1,by omega,by omega,by go_num,by rw [HT.out,HL.out,nameC_digit hD];rfl⟩
        case measure=>simp [intOf];omega
       | false =>
        cases hU:((s[k].toNat:Int) != 95) with
        | true =>
         go_wp2_with (first | (go_at_call 193;refine (rletter_any _ _).mono ?_;rintro e w' ⟨rfl,rfl⟩) | (go_at_call 194;refine (rdigit_any _ _).mono ?_;rintro e w' ⟨rfl,rfl⟩))
         go_ret
         exact ⟨ret_bool (nameB_false_of_all s (HF.out (nameC_no hA (by rw [hD];decide) hU))).symm,rfl⟩
        | false =>
         go_wp2_with (first | (go_at_call 193;refine (rletter_any _ _).mono ?_;rintro e w' ⟨rfl,rfl⟩) | (go_at_call 194;refine (rdigit_any _ _).mono ?_;rintro e w' ⟨rfl,rfl⟩))
         go_round
         case rel=>exact ⟨k+1,by omega,by omega,by go_num,by rw [HT.out,HL.out,nameC_yes hU];rfl⟩
         case measure=>simp [intOf];omega
     ·go_wp2
      go_ret
      have hkk:k=s.size:=by omega
      exact ⟨ret_bool (by rw [hkk,HA.out] at hall;exact (nameB_true s h0 h1 h2 hall).symm),rfl⟩
   | false =>
    go_enter Tryz.func141,Tryz.ntmps141
    go_wp2_with (first | (go_at_call 193;refine (rletter_any _ _).mono ?_;rintro e w' ⟨rfl,rfl⟩) | (go_at_call 194;refine (rdigit_any _ _).mono ?_;rintro e w' ⟨rfl,rfl⟩))
    go_ret
    exact ⟨ret_bool (nameB_head s h0 h2).symm,rfl⟩
  ·have d1:decide ((16:Int)<(s.size:Int))=true:=decide_eq_true (by omega)
   go_enter Tryz.func141,Tryz.ntmps141
   go_wp2_with fail
   go_ret
   exact ⟨ret_bool (by simp [nameB,h1]),rfl⟩
 ·have d0:decide ((s.size:Int)<1)=true:=decide_eq_true (by omega)
  go_enter Tryz.func141,Tryz.ntmps141
  go_wp2_with fail
  go_ret
  exact ⟨ret_bool (by simp [nameB];omega),rfl⟩
end Go.Proofs.YtlfdfkbmollaaaaGreatDoor

namespace Go.Proofs.YtlfdfkbmollaaaaGreatDoor
open Go.RowKit Go.Shelf
set_option maxHeartbeats 2000000 in
theorem rhead_any (w : World) (T : TM) (hT : T.At w) (p : Nat) (hp : p < T.n) :
    Calls Tryz.prog 91 #[T.val,.int .i64 p] w (ErrPost (T.toTr.PrOk p) w):=by
 have hp':(p:Int)<(T.n:Int):=by omega
 have pa:=hT.P.pa (by omega)
 have pb:=hT.P.pb (by omega)
 have p0:=hT.P.p0
 have hn:=hT.P.hn
 have hnm:=hT.ok.name p hp
 have hvn:=hT.V.hv p hp
 have hen:=hT.E.he p hp
 obtain ⟨va,hva⟩:∃ a,a=T.va p:=⟨_,rfl⟩
 have p1p:∀ w',Ext w w'→w'.cell? ⟨T.b,T.off+p*3+1,none⟩=some (.slice va (T.vn p) (T.vc p)):=fun w' h=>by rw [hva];exact hT.P.p1 w' h p hp
 have p2p:∀ w',Ext w w'→w'.cell? ⟨T.b,T.off+p*3+2,none⟩=some (.slice (T.ea p) (T.en p) (T.ec p)):=fun w' h=>hT.P.p2 w' h p hp
 have HVA:=Lib.hid hva
 have HT:=Lib.hid hT
 clear hva hT
 go_enter Tryz.func91,Tryz.ntmps91
 go_upto_region 1 with fail
 refine boxed1 (w:=w) (G:=fun x=>Code.wp _ _ _ _ x) ?_
 intro w1 hx1 hs1 ⟨l0,c0,_,_⟩
 have hx11:Ext w1 w1:=Ext.refl _
 clear hs1
 go_upto_region 2 with fail
 refine boxed1 (w:=w1) (G:=fun x=>Code.wp _ _ _ _ x) ?_
 intro w2 hx2 hs2 ⟨l2,c2,_,_⟩
 have hx22:Ext w2 w2:=Ext.refl _
 have hxw2:Ext w w2:=hx1.trans hx2
 clear hs2 p1p p2p
 generalize w1.heap.size=bx at l2 c2 ⊢
 cases e1:nameB (T.name p) with
 | false =>
  go_wp2_with (first | (go_at_call 141;refine (rname_any _ _ hnm).mono ?_;rintro e w' ⟨rfl,rfl⟩) | (go_at_call 142;refine (rvalue_any _ _).mono ?_;rintro e w' ⟨rfl,rfl⟩))
  go_ret
  exact ErrPost.bad (by decide) (fun h=>by rw [h.1] at e1;cases e1) hxw2
 | true =>
  go_wp2_with (first | (go_at_call 141;refine (rname_any _ _ hnm).mono ?_;rintro e w' ⟨rfl,rfl⟩) | (go_at_call 142;refine (rvalue_any _ _).mono ?_;rintro e w' ⟨rfl,rfl⟩))
  go_loopg [6] p (fun gg v wr=>∃ i:Nat,i≤p∧gg=p - i∧v=.int .i64 i∧Ext w2 wr∧∀ j,j<i→strEq (T.name j) (T.name p)=false)
  case atStart=>exact ⟨0,by omega,rfl,rfl,hx22,fun j hj=>by omega⟩
  case round=>
   obtain ⟨i,hi,rfl,rfl,hxr,hok⟩:=hrel
   have HOK:=Lib.hid hok
   clear hok
   have hxw:=hxw2.trans hxr
   have hx1r:=hx2.trans hxr
   by_cases hlt:i<p
   ·have hlt':(i:Int)<(p:Int):=by omega
    have hin:i<T.n:=by omega
    have hin':(i:Int)<(T.n:Int):=by omega
    cases he:((T.name i).toList == (T.name p).toList) with
    | true =>
     go_upto_region 7 with fail
     go_quiet (fail)
     go_wp2_with fail
     go_ret
     exact ErrPost.bad (by decide) (fun h=>by have:=h.2.1;rw [anyB_hit (k:=i) hlt he] at this;cases this) (hxw.drewN _)
    | false =>
     go_upto_region 7 with fail
     go_quiet (fail)
     go_wp2_with fail
     go_roundg (p - (i+1))
     case rel=>exact ⟨i+1,by omega,rfl,by go_num,hxr.drewN _,fun j hj=>by
      by_cases e:j=i
      ·subst e;exact he
      ·exact HOK.out j (by omega)⟩
     case measure=>omega
   ·have hie:i=p:=by omega
    subst hie
    have HAN:=Lib.hid (anyB_false_iff.2 HOK.out)
    by_cases h8:T.vn i≤8
    ·have d8:decide ((8:Int)<(T.vn i:Int))=false:=decide_eq_false (by omega)
     have d8':decide (8<T.vn i)=false:=decide_eq_false (by omega)
     go_wp2_with fail
     clear d8 d8'
     go_loopg [7] (T.vn i) (fun gg v wr=>∃ j:Nat,j≤T.vn i∧gg=T.vn i - j∧v=.int .i64 j∧Ext w2 wr∧∀ k,k<j→T.toTr.VarOk i k)
     case atStart=>exact ⟨0,by omega,rfl,rfl,hxr,fun j hj=>by omega⟩
     case round=>
      obtain ⟨j,hj,rfl,rfl,hxr,hok⟩:=hrel
      have HOV:=Lib.hid hok
      clear hok
      have hxw:=hxw2.trans hxr
      by_cases hlj:j<T.vn i
      ·have hlj':(j:Int)<(T.vn i:Int):=by omega
       obtain rfl:va=some ⟨T.vb i,T.vo i,none⟩:=by rw [HVA.out];exact HT.out.V.va i hp (by omega)
       have vb:=HT.out.V.vb i hp (by omega)
       have v0:∀ w',Ext w w'→∀ k,k<T.vn i→w'.cell? ⟨T.vb i,T.vo i+k*2,none⟩=some (.string (T.vname i k)):=fun w' h k hk=>HT.out.V.v0 w' h i k hp hk
       have v1:∀ w',Ext w w'→w'.cell? ⟨T.vb i,T.vo i+j*2+1,none⟩=some (.int .i64 (T.vinit i j)):=fun w' h=>HT.out.V.v1 w' h i j hp hlj
       have hvs:=HT.out.ok.vname i j hp hlj
       cases e2:nameB (T.vname i j) with
       | false =>
        go_wp2_with (first | (go_at_call 141;refine (rname_any _ _ hvs).mono ?_;rintro e w' ⟨rfl,rfl⟩) | (go_at_call 142;refine (rvalue_any _ _).mono ?_;rintro e w' ⟨rfl,rfl⟩))
        go_ret
        exact ErrPost.bad (by decide) (fun h=>by have:=(h.2.2.2.1 j hlj).1;rw [this] at e2;cases e2) hxw
       | true =>
        go_wp2_with (first | (go_at_call 141;refine (rname_any _ _ hvs).mono ?_;rintro e w' ⟨rfl,rfl⟩) | (go_at_call 142;refine (rvalue_any _ _).mono ?_;rintro e w' ⟨rfl,rfl⟩))
        go_loopg [8] j (fun gg v wr=>∃ k:Nat,k≤j∧gg=j - k∧v=.int .i64 k∧Ext w2 wr∧∀ l,l<k→strEq (T.vname i l) (T.vname i j)=false)
        case atStart=>exact ⟨0,by omega,rfl,rfl,hxr,fun j hj=>by omega⟩
        case round=>
         obtain ⟨k,hk,rfl,rfl,hxr,hok⟩:=hrel
         have HOL:=Lib.hid hok
         clear hok
         have hxw:=hxw2.trans hxr
         by_cases hlk:k<j
         ·have hlk':(k:Int)<(j:Int):=by omega
          have hkv:k<T.vn i:=by omega
          have hkv':(k:Int)<(T.vn i:Int):=by omega
          cases he:((T.vname i k).toList == (T.vname i j).toList) with
          | true =>
           go_upto_region 19 with fail
           go_quiet (fail)
           go_wp2_with fail
           go_ret
           exact ErrPost.bad (by decide) (fun h=>by have:=(h.2.2.2.1 j hlj).2.1;rw [anyB_hit (k:=k) hlk he] at this;cases this) (hxw.drewN _)
          | false =>
           go_upto_region 19 with fail
           go_quiet (fail)
           go_wp2_with fail
           go_roundg (j - (k+1))
           case rel=>exact ⟨k+1,by omega,rfl,by go_num,hxr.drewN _,fun l hl=>by
            by_cases e:l=k
            ·subst e;exact he
            ·exact HOL.out l (by omega)⟩
           case measure=>omega
         ·have hke:k=j:=by omega
          subst hke
          have HAV:=Lib.hid (anyB_false_iff.2 HOL.out)
          cases e3:inB (T.vinit i k) (-1073741824) 1073741824 with
          | false =>
           go_wp2_with (first | (go_at_call 141;refine (rname_any _ _ hvs).mono ?_;rintro e w' ⟨rfl,rfl⟩) | (go_at_call 142;refine (rvalue_any _ _).mono ?_;rintro e w' ⟨rfl,rfl⟩))
           go_ret
           exact ErrPost.bad (by decide) (fun h=>by have:=(h.2.2.2.1 k hlj).2.2;rw [this] at e3;cases e3) hxw
          | true =>
           go_wp2_with (first | (go_at_call 141;refine (rname_any _ _ hvs).mono ?_;rintro e w' ⟨rfl,rfl⟩) | (go_at_call 142;refine (rvalue_any _ _).mono ?_;rintro e w' ⟨rfl,rfl⟩))
           go_roundg (T.vn i - (k+1))
           case rel=>exact ⟨k+1,by omega,rfl,by go_num,hxr,fun l hl=>by
            by_cases e:l=k
            ·subst e;exact ⟨e2,HAV.out,e3⟩
            ·exact HOV.out l (by omega)⟩
           case measure=>omega
      ·have hje:j=T.vn i:=by omega
       subst hje
       by_cases h64:T.en i≤64
       ·have d8:decide ((64:Int)<(T.en i:Int))=false:=decide_eq_false (by omega)
        have d8':decide (64<T.en i)=false:=decide_eq_false (by omega)
        go_wp2_with fail
        go_ret
        exact ErrPost.good ⟨e1,HAN.out,h8,HOV.out,h64⟩ hxw
       ·have d8:decide ((64:Int)<(T.en i:Int))=true:=decide_eq_true (by omega)
        have d8':decide (64<T.en i)=true:=decide_eq_true (by omega)
        go_wp2_with fail
        go_ret
        exact ErrPost.bad (by decide) (fun h=>h64 h.2.2.2.2) hxw
    ·have d8:decide ((8:Int)<(T.vn i:Int))=true:=decide_eq_true (by omega)
     have d8':decide (8<T.vn i)=true:=decide_eq_true (by omega)
     go_wp2_with fail
     go_ret
     exact ErrPost.bad (by decide) (fun h=>h8 h.2.2.1) hxw
set_option maxHeartbeats 4000000 in
theorem rform_any (w : World) (T : TM) (hT : T.At w) (p i : Nat) (hp : p < T.n) (hi : i < T.en p) :
    Calls Tryz.prog 92 #[T.val,.int .i64 p,.int .i64 i] w (ErrPost (T.toTr.EvOk p i) w):=by
 have hp':(p:Int)<(T.n:Int):=by omega
 have hi':(i:Int)<(T.en p:Int):=by omega
 have pa:=hT.P.pa (by omega)
 have pb:=hT.P.pb (by omega)
 have p1:=hT.P.p1
 have p2:=hT.P.p2
 have hn:=hT.P.hn
 have hen:=hT.E.he p hp
 have hvn:=hT.V.hv p hp
 have han:=hT.A.ha p i hp hi
 have ea:=hT.E.ea p hp (by omega)
 have eb:=hT.E.eb p hp (by omega)
 have e0:=hT.E.e0
 have e1:=hT.E.e1
 have e2:=hT.E.e2
 have e3:∀ w',Ext w w'→w'.cell? ⟨T.eb p,T.eo p+i*5+3,none⟩=some (.int .i64 (T.time p i)):=fun w' h=>hT.E.e3 w' h p i hp hi
 obtain ⟨aa,haa⟩:∃ a,a=T.aa p i:=⟨_,rfl⟩
 have e4:∀ w',Ext w w'→w'.cell? ⟨T.eb p,T.eo p+i*5+4,none⟩=some (.slice aa (T.an p i) (T.ac p i)):=fun w' h=>by rw [haa];exact hT.E.e4 w' h p i hp hi
 have HAA:=Lib.hid haa
 have HT:=Lib.hid hT
 clear haa hT
 go_enter Tryz.func92,Tryz.ntmps92
 go_upto_region 1 with fail
 refine boxed1 (w:=w) (G:=fun x=>Code.wp _ _ _ _ x) ?_
 intro w1 hx1 hs1 ⟨l0,c0,_,_⟩
 have hx11:Ext w1 w1:=Ext.refl _
 clear hs1
 go_upto_region 2 with fail
 refine boxed1 (w:=w1) (G:=fun x=>Code.wp _ _ _ _ x) ?_
 intro w2 hx2 hs2 ⟨l2,c2,_,_⟩
 have hx22:Ext w2 w2:=Ext.refl _
 have hxw2:Ext w w2:=hx1.trans hx2
 clear hs2 e0 e1 e2 e3 e4
 generalize w1.heap.size=bx at l2 c2 ⊢
 by_cases hk1:T.kind p i=1
 ·by_cases hpe:T.peer p i=0
  ·by_cases hms:T.msg p i=0
   ·have HFO:=Lib.hid (show FormedP T.toTr p (T.kind p i) (T.peer p i) (T.msg p i) by unfold FormedP;left;exact ⟨hk1,hpe,hms⟩)
    go_upto_region 7 with fail
    by_cases ht0:T.time p i<0
    ·have b0:decide (T.time p i<0)=true:=decide_eq_true ht0
     go_quiet (fail)
     go_wp2_with fail
     go_ret
     exact ErrPost.bad (by decide) (fun h=>by have h1:=h.2.1;have h2:=h.2.2.1;simp [inB] at h1;unfold Tr.last at h2;skip;omega) (hxw2.drewN _)
    ·have b0:decide (T.time p i<0)=false:=decide_eq_false ht0
     by_cases ht1:1099511627776<T.time p i
     ·have b1:decide (1099511627776<T.time p i)=true:=decide_eq_true ht1
      go_quiet (fail)
      go_wp2_with fail
      go_ret
      exact ErrPost.bad (by decide) (fun h=>by have h1:=h.2.1;have h2:=h.2.2.1;simp [inB] at h1;unfold Tr.last at h2;skip;omega) (hxw2.drewN _)
     ·have b1:decide (1099511627776<T.time p i)=false:=decide_eq_false ht1
      by_cases h0:0<i
      ·have b2:decide ((0:Int)<(i:Int))=true:=decide_eq_true (by omega)
       obtain ⟨q,hq⟩:∃ q,q=i - 1:=⟨_,rfl⟩
       have hqi:q<T.en p:=by omega
       have hqi':(q:Int)<(T.en p:Int):=by omega
       have hw:IntKind.i64.wrap ((i:Int) - 1)=(q:Int):=by rw [IntWalk.i64_in _ (by omega)];omega
       have e3q:∀ w',Ext w w'→w'.cell? ⟨T.eb p,T.eo p+q*5+3,none⟩=some (.int .i64 (T.time p q)):=fun w' h=>HT.out.E.e3 w' h p q hp hqi
       have HQ:=Lib.hid hq
       clear hq
       by_cases ht2:T.time p i<T.time p q
       ·have b3:decide (T.time p i<T.time p q)=true:=decide_eq_true ht2
        go_quiet (fail)
        go_wp2_with fail
        go_ret
        exact ErrPost.bad (by decide) (fun h=>by have h1:=h.2.1;have h2:=h.2.2.1;simp [inB] at h1;unfold Tr.last at h2;(rw [if_neg (by omega),←HQ.out] at h2);omega) (hxw2.drewN _)
       ·have b3:decide (T.time p i<T.time p q)=false:=decide_eq_false ht2
        have HTM:=Lib.hid (show inB (T.time p i) 0 1099511627776=true∧T.toTr.last p i≤T.time p i by refine ⟨by simp [inB];omega,?_⟩;unfold Tr.last;rw [if_neg (by omega),←HQ.out];omega)
        go_quiet (fail)
        clear hw b0 b1 b2 b3 e3q
        by_cases h8:T.an p i≤8
        ·have d8:decide ((8:Int)<(T.an p i:Int))=false:=decide_eq_false (by omega)
         have d8':decide (8<T.an p i)=false:=decide_eq_false (by omega)
         go_wp2_with fail
         clear d8 d8'
         go_loopg [8] (T.an p i) (fun gg v wr=>∃ j:Nat,j≤T.an p i∧gg=T.an p i - j∧v=.int .i64 j∧Ext w2 wr∧∀ k,k<j→T.toTr.AsgOk p i k)
         case atStart=>exact ⟨0,by omega,rfl,rfl,hx22.drewN _,fun j hj=>by omega⟩
         case round=>
          obtain ⟨j,hj,rfl,rfl,hxr,hok⟩:=hrel
          have HOV:=Lib.hid hok
          clear hok
          have hxw:=hxw2.trans hxr
          have hx1r:=hx2.trans hxr
          by_cases hlj:j<T.an p i
          ·have hlj':(j:Int)<(T.an p i:Int):=by omega
           obtain rfl:aa=some ⟨T.ab p i,T.ao p i,none⟩:=by rw [HAA.out];exact HT.out.A.aa p i hp hi (by omega)
           have ab:=HT.out.A.ab p i hp hi (by omega)
           have a0:∀ w',Ext w w'→∀ k,k<T.an p i→w'.cell? ⟨T.ab p i,T.ao p i+k*2,none⟩=some (.int .i64 (T.avar p i k)):=fun w' h k hk=>HT.out.A.a0 w' h p i k hp hi hk
           have a1:∀ w',Ext w w'→w'.cell? ⟨T.ab p i,T.ao p i+j*2+1,none⟩=some (.int .i64 (T.aval p i j)):=fun w' h=>HT.out.A.a1 w' h p i j hp hi hlj
           go_upto_region 15 with fail
           refine boxed1 (w:=wr) (G:=fun x=>Code.wp _ _ _ _ x) ?_
           intro w4 hx4 hs4 ⟨l4,c4,_,_⟩
           have hx44:Ext w4 w4:=Ext.refl _
           have hxw4:=hxw.trans hx4
           have hx14:=hx1r.trans hx4
           have hx24:=hxr.trans hx4
           clear hs4
           generalize wr.heap.size=ba at l4 c4 ⊢
           by_cases hv0:T.avar p i j<0
           ·have b0:decide (T.avar p i j<0)=true:=decide_eq_true hv0
            go_quiet (fail)
            go_wp2_with fail
            go_ret
            exact ErrPost.bad (by decide) (fun h=>by have:=(h.2.2.2.2 j hlj).1;simp [inB] at this;omega) (hxw4.drewN _)
           ·have b0:decide (T.avar p i j<0)=false:=decide_eq_false hv0
            by_cases hv1:(T.vn p:Int)≤T.avar p i j
            ·have b1:decide ((T.vn p:Int)≤T.avar p i j)=true:=decide_eq_true hv1
             go_quiet (fail)
             go_wp2_with fail
             go_ret
             exact ErrPost.bad (by decide) (fun h=>by have:=(h.2.2.2.2 j hlj).1;simp [inB] at this;omega) (hxw4.drewN _)
            ·have b1:decide ((T.vn p:Int)≤T.avar p i j)=false:=decide_eq_false hv1
             have hVal:=fun W=>rvalue_any (T.aval p i j) W
             cases e3:inB (T.aval p i j) (-1073741824) 1073741824 with
             | false =>
              simp only [e3] at hVal
              go_quiet (exact Calls.quiet_of_same ((hVal _).mono fun e w' h=>⟨h.1,h.2.symm⟩))
              go_wp2_with fail
              go_ret
              exact ErrPost.bad (by decide) (fun h=>by have:=(h.2.2.2.2 j hlj).2.1;rw [this] at e3;cases e3) (hxw4.drewN _)
             | true =>
              simp only [e3] at hVal
              go_quiet (exact Calls.quiet_of_same ((hVal _).mono fun e w' h=>⟨h.1,h.2.symm⟩))
              have HVA:=Lib.hid (show inB (T.avar p i j) 0 ((T.vn p:Int) - 1)=true by simp [inB];omega)
              clear hVal b0 b1 a1
              go_wp2_with fail
              go_loopg [10] j (fun gg v wr=>∃ k:Nat,k≤j∧gg=j - k∧v=.int .i64 k∧Ext w4 wr∧∀ l,l<k→(T.avar p i l == T.avar p i j)=false)
              case atStart=>exact ⟨0,by omega,rfl,rfl,hx44.drewN _,fun j hj=>by omega⟩
              case round=>
               obtain ⟨k,hk,rfl,rfl,hxr,hok⟩:=hrel
               have HOL:=Lib.hid hok
               clear hok
               have hxw:=hxw4.trans hxr
               have hx2r:=hx24.trans hxr
               by_cases hlk:k<j
               ·have hlk':(k:Int)<(j:Int):=by omega
                have hkv:k<T.an p i:=by omega
                have hkv':(k:Int)<(T.an p i:Int):=by omega
                cases he:(T.avar p i k == T.avar p i j) with
                | true =>
                 go_upto_region 20 with fail
                 go_quiet (fail)
                 go_wp2_with fail
                 go_ret
                 exact ErrPost.bad (by decide) (fun h=>by have:=(h.2.2.2.2 j hlj).2.2;rw [anyB_hit (k:=k) hlk he] at this;cases this) (hxw.drewN _)
                | false =>
                 go_upto_region 20 with fail
                 go_quiet (fail)
                 go_wp2_with fail
                 go_roundg (j - (k+1))
                 case rel=>exact ⟨k+1,by omega,rfl,by go_num,hxr.drewN _,fun l hl=>by
                  by_cases e:l=k
                  ·subst e;exact he
                  ·exact HOL.out l (by omega)⟩
                 case measure=>omega
               ·have hke:k=j:=by omega
                subst hke
                have HAV:=Lib.hid (anyB_false_iff.2 HOL.out)
                go_wp2_with fail
                go_roundg (T.an p i - (k+1))
                case rel=>exact ⟨k+1,by omega,rfl,by go_num,hx2r,fun l hl=>by
                 by_cases e:l=k
                 ·subst e;exact ⟨HVA.out,e3,HAV.out⟩
                 ·exact HOV.out l (by omega)⟩
                case measure=>omega
          ·have hje:j=T.an p i:=by omega
           subst hje
           go_wp2_with fail
           go_ret
           exact ErrPost.good ⟨HFO.out,HTM.out.1,HTM.out.2,h8,HOV.out⟩ hxw
        ·have d8:decide ((8:Int)<(T.an p i:Int))=true:=decide_eq_true (by omega)
         have d8':decide (8<T.an p i)=true:=decide_eq_true (by omega)
         go_wp2_with fail
         go_ret
         exact ErrPost.bad (by decide) (fun h=>h8 h.2.2.2.1) (hxw2.drewN _)
      ·have b2:decide ((0:Int)<(i:Int))=false:=decide_eq_false (by omega)
       have HTM:=Lib.hid (show inB (T.time p i) 0 1099511627776=true∧T.toTr.last p i≤T.time p i by refine ⟨by simp [inB];omega,?_⟩;unfold Tr.last;rw [if_pos (by omega)];omega)
       go_quiet (fail)
       clear b0 b1 b2
       by_cases h8:T.an p i≤8
       ·have d8:decide ((8:Int)<(T.an p i:Int))=false:=decide_eq_false (by omega)
        have d8':decide (8<T.an p i)=false:=decide_eq_false (by omega)
        go_wp2_with fail
        clear d8 d8'
        go_loopg [8] (T.an p i) (fun gg v wr=>∃ j:Nat,j≤T.an p i∧gg=T.an p i - j∧v=.int .i64 j∧Ext w2 wr∧∀ k,k<j→T.toTr.AsgOk p i k)
        case atStart=>exact ⟨0,by omega,rfl,rfl,hx22.drewN _,fun j hj=>by omega⟩
        case round=>
         obtain ⟨j,hj,rfl,rfl,hxr,hok⟩:=hrel
         have HOV:=Lib.hid hok
         clear hok
         have hxw:=hxw2.trans hxr
         have hx1r:=hx2.trans hxr
         by_cases hlj:j<T.an p i
         ·have hlj':(j:Int)<(T.an p i:Int):=by omega
          obtain rfl:aa=some ⟨T.ab p i,T.ao p i,none⟩:=by rw [HAA.out];exact HT.out.A.aa p i hp hi (by omega)
          have ab:=HT.out.A.ab p i hp hi (by omega)
          have a0:∀ w',Ext w w'→∀ k,k<T.an p i→w'.cell? ⟨T.ab p i,T.ao p i+k*2,none⟩=some (.int .i64 (T.avar p i k)):=fun w' h k hk=>HT.out.A.a0 w' h p i k hp hi hk
          have a1:∀ w',Ext w w'→w'.cell? ⟨T.ab p i,T.ao p i+j*2+1,none⟩=some (.int .i64 (T.aval p i j)):=fun w' h=>HT.out.A.a1 w' h p i j hp hi hlj
          go_upto_region 15 with fail
          refine boxed1 (w:=wr) (G:=fun x=>Code.wp _ _ _ _ x) ?_
          intro w4 hx4 hs4 ⟨l4,c4,_,_⟩
          have hx44:Ext w4 w4:=Ext.refl _
          have hxw4:=hxw.trans hx4
          have hx14:=hx1r.trans hx4
          have hx24:=hxr.trans hx4
          clear hs4
          generalize wr.heap.size=ba at l4 c4 ⊢
          by_cases hv0:T.avar p i j<0
          ·have b0:decide (T.avar p i j<0)=true:=decide_eq_true hv0
           go_quiet (fail)
           go_wp2_with fail
           go_ret
           exact ErrPost.bad (by decide) (fun h=>by have:=(h.2.2.2.2 j hlj).1;simp [inB] at this;omega) (hxw4.drewN _)
          ·have b0:decide (T.avar p i j<0)=false:=decide_eq_false hv0
           by_cases hv1:(T.vn p:Int)≤T.avar p i j
           ·have b1:decide ((T.vn p:Int)≤T.avar p i j)=true:=decide_eq_true hv1
            go_quiet (fail)
            go_wp2_with fail
            go_ret
            exact ErrPost.bad (by decide) (fun h=>by have:=(h.2.2.2.2 j hlj).1;simp [inB] at this;omega) (hxw4.drewN _)
           ·have b1:decide ((T.vn p:Int)≤T.avar p i j)=false:=decide_eq_false hv1
            have hVal:=fun W=>rvalue_any (T.aval p i j) W
            cases e3:inB (T.aval p i j) (-1073741824) 1073741824 with
            | false =>
             simp only [e3] at hVal
             go_quiet (exact Calls.quiet_of_same ((hVal _).mono fun e w' h=>⟨h.1,h.2.symm⟩))
             go_wp2_with fail
             go_ret
             exact ErrPost.bad (by decide) (fun h=>by have:=(h.2.2.2.2 j hlj).2.1;rw [this] at e3;cases e3) (hxw4.drewN _)
            | true =>
             simp only [e3] at hVal
             go_quiet (exact Calls.quiet_of_same ((hVal _).mono fun e w' h=>⟨h.1,h.2.symm⟩))
             have HVA:=Lib.hid (show inB (T.avar p i j) 0 ((T.vn p:Int) - 1)=true by simp [inB];omega)
             clear hVal b0 b1 a1
             go_wp2_with fail
             go_loopg [10] j (fun gg v wr=>∃ k:Nat,k≤j∧gg=j - k∧v=.int .i64 k∧Ext w4 wr∧∀ l,l<k→(T.avar p i l == T.avar p i j)=false)
             case atStart=>exact ⟨0,by omega,rfl,rfl,hx44.drewN _,fun j hj=>by omega⟩
             case round=>
              obtain ⟨k,hk,rfl,rfl,hxr,hok⟩:=hrel
              have HOL:=Lib.hid hok
              clear hok
              have hxw:=hxw4.trans hxr
              have hx2r:=hx24.trans hxr
              by_cases hlk:k<j
              ·have hlk':(k:Int)<(j:Int):=by omega
               have hkv:k<T.an p i:=by omega
               have hkv':(k:Int)<(T.an p i:Int):=by omega
               cases he:(T.avar p i k == T.avar p i j) with
               | true =>
                go_upto_region 20 with fail
                go_quiet (fail)
                go_wp2_with fail
                go_ret
                exact ErrPost.bad (by decide) (fun h=>by have:=(h.2.2.2.2 j hlj).2.2;rw [anyB_hit (k:=k) hlk he] at this;cases this) (hxw.drewN _)
               | false =>
                go_upto_region 20 with fail
                go_quiet (fail)
                go_wp2_with fail
                go_roundg (j - (k+1))
                case rel=>exact ⟨k+1,by omega,rfl,by go_num,hxr.drewN _,fun l hl=>by
                 by_cases e:l=k
                 ·subst e;exact he
                 ·exact HOL.out l (by omega)⟩
                case measure=>omega
              ·have hke:k=j:=by omega
               subst hke
               have HAV:=Lib.hid (anyB_false_iff.2 HOL.out)
               go_wp2_with fail
               go_roundg (T.an p i - (k+1))
               case rel=>exact ⟨k+1,by omega,rfl,by go_num,hx2r,fun l hl=>by
                by_cases e:l=k
                ·subst e;exact ⟨HVA.out,e3,HAV.out⟩
                ·exact HOV.out l (by omega)⟩
               case measure=>omega
         ·have hje:j=T.an p i:=by omega
          subst hje
          go_wp2_with fail
          go_ret
          exact ErrPost.good ⟨HFO.out,HTM.out.1,HTM.out.2,h8,HOV.out⟩ hxw
       ·have d8:decide ((8:Int)<(T.an p i:Int))=true:=decide_eq_true (by omega)
        have d8':decide (8<T.an p i)=true:=decide_eq_true (by omega)
        go_wp2_with fail
        go_ret
        exact ErrPost.bad (by decide) (fun h=>h8 h.2.2.2.1) (hxw2.drewN _)
   ·have g2:(T.msg p i == 0)=false:=by simpa using hms
    go_wp2_with fail
    go_ret
    exact ErrPost.bad (by decide) (fun h=>by have:=h.1;unfold FormedP at this;omega) hxw2
  ·have g1:(T.peer p i == 0)=false:=by simpa using hpe
   go_wp2_with fail
   go_ret
   exact ErrPost.bad (by decide) (fun h=>by have:=h.1;unfold FormedP at this;omega) hxw2
 ·have k1:(T.kind p i == 1)=false:=by simpa using hk1
  by_cases hk2:T.kind p i=2
  ·have hk2':=hk2
   by_cases hp0:T.peer p i<0
   ·have g0:decide (T.peer p i<0)=true:=decide_eq_true hp0
    go_wp2_with fail
    go_ret
    exact ErrPost.bad (by decide) (fun h=>by have:=h.1;unfold FormedP at this;omega) hxw2
   ·have g0:decide (T.peer p i<0)=false:=decide_eq_false hp0
    by_cases hp1:(T.n:Int)≤T.peer p i
    ·have g1:decide ((T.n:Int)≤T.peer p i)=true:=decide_eq_true hp1
     go_wp2_with fail
     go_ret
     exact ErrPost.bad (by decide) (fun h=>by have:=h.1;unfold FormedP at this;omega) hxw2
    ·have g1:decide ((T.n:Int)≤T.peer p i)=false:=decide_eq_false hp1
     by_cases hp2:T.peer p i=p
     ·have g2:(T.peer p i == (p:Int))=true:=by simpa using hp2
      go_wp2_with fail
      go_ret
      exact ErrPost.bad (by decide) (fun h=>by have:=h.1;unfold FormedP at this;omega) hxw2
     ·have g2:(T.peer p i == (p:Int))=false:=by simpa using hp2
      by_cases hm0:T.msg p i<0
      ·have g3:decide (T.msg p i<0)=true:=decide_eq_true hm0
       go_wp2_with fail
       go_ret
       exact ErrPost.bad (by decide) (fun h=>by have:=h.1;unfold FormedP at this;omega) hxw2
      ·have g3:decide (T.msg p i<0)=false:=decide_eq_false hm0
       by_cases hm1:199<T.msg p i
       ·have g4:decide (199<T.msg p i)=true:=decide_eq_true hm1
        go_wp2_with fail
        go_ret
        exact ErrPost.bad (by decide) (fun h=>by have:=h.1;unfold FormedP at this;omega) hxw2
       ·have g4:decide (199<T.msg p i)=false:=decide_eq_false hm1
        have HFO:=Lib.hid (show FormedP T.toTr p (T.kind p i) (T.peer p i) (T.msg p i) by unfold FormedP;right;refine ⟨?_,?_⟩ <;> omega)
        go_upto_region 7 with fail
        by_cases ht0:T.time p i<0
        ·have b0:decide (T.time p i<0)=true:=decide_eq_true ht0
         go_quiet (fail)
         go_wp2_with fail
         go_ret
         exact ErrPost.bad (by decide) (fun h=>by have h1:=h.2.1;have h2:=h.2.2.1;simp [inB] at h1;unfold Tr.last at h2;skip;omega) (hxw2.drewN _)
        ·have b0:decide (T.time p i<0)=false:=decide_eq_false ht0
         by_cases ht1:1099511627776<T.time p i
         ·have b1:decide (1099511627776<T.time p i)=true:=decide_eq_true ht1
          go_quiet (fail)
          go_wp2_with fail
          go_ret
          exact ErrPost.bad (by decide) (fun h=>by have h1:=h.2.1;have h2:=h.2.2.1;simp [inB] at h1;unfold Tr.last at h2;skip;omega) (hxw2.drewN _)
         ·have b1:decide (1099511627776<T.time p i)=false:=decide_eq_false ht1
          by_cases h0:0<i
          ·have b2:decide ((0:Int)<(i:Int))=true:=decide_eq_true (by omega)
           obtain ⟨q,hq⟩:∃ q,q=i - 1:=⟨_,rfl⟩
           have hqi:q<T.en p:=by omega
           have hqi':(q:Int)<(T.en p:Int):=by omega
           have hw:IntKind.i64.wrap ((i:Int) - 1)=(q:Int):=by rw [IntWalk.i64_in _ (by omega)];omega
           have e3q:∀ w',Ext w w'→w'.cell? ⟨T.eb p,T.eo p+q*5+3,none⟩=some (.int .i64 (T.time p q)):=fun w' h=>HT.out.E.e3 w' h p q hp hqi
           have HQ:=Lib.hid hq
           clear hq
           by_cases ht2:T.time p i<T.time p q
           ·have b3:decide (T.time p i<T.time p q)=true:=decide_eq_true ht2
            go_quiet (fail)
            go_wp2_with fail
            go_ret
            exact ErrPost.bad (by decide) (fun h=>by have h1:=h.2.1;have h2:=h.2.2.1;simp [inB] at h1;unfold Tr.last at h2;(rw [if_neg (by omega),←HQ.out] at h2);omega) (hxw2.drewN _)
           ·have b3:decide (T.time p i<T.time p q)=false:=decide_eq_false ht2
            have HTM:=Lib.hid (show inB (T.time p i) 0 1099511627776=true∧T.toTr.last p i≤T.time p i by refine ⟨by simp [inB];omega,?_⟩;unfold Tr.last;rw [if_neg (by omega),←HQ.out];omega)
            go_quiet (fail)
            clear hw b0 b1 b2 b3 e3q
            by_cases h8:T.an p i≤8
            ·have d8:decide ((8:Int)<(T.an p i:Int))=false:=decide_eq_false (by omega)
             have d8':decide (8<T.an p i)=false:=decide_eq_false (by omega)
             go_wp2_with fail
             clear d8 d8'
             go_loopg [8] (T.an p i) (fun gg v wr=>∃ j:Nat,j≤T.an p i∧gg=T.an p i - j∧v=.int .i64 j∧Ext w2 wr∧∀ k,k<j→T.toTr.AsgOk p i k)
             case atStart=>exact ⟨0,by omega,rfl,rfl,hx22.drewN _,fun j hj=>by omega⟩
             case round=>
              obtain ⟨j,hj,rfl,rfl,hxr,hok⟩:=hrel
              have HOV:=Lib.hid hok
              clear hok
              have hxw:=hxw2.trans hxr
              have hx1r:=hx2.trans hxr
              by_cases hlj:j<T.an p i
              ·have hlj':(j:Int)<(T.an p i:Int):=by omega
               obtain rfl:aa=some ⟨T.ab p i,T.ao p i,none⟩:=by rw [HAA.out];exact HT.out.A.aa p i hp hi (by omega)
               have ab:=HT.out.A.ab p i hp hi (by omega)
               have a0:∀ w',Ext w w'→∀ k,k<T.an p i→w'.cell? ⟨T.ab p i,T.ao p i+k*2,none⟩=some (.int .i64 (T.avar p i k)):=fun w' h k hk=>HT.out.A.a0 w' h p i k hp hi hk
               have a1:∀ w',Ext w w'→w'.cell? ⟨T.ab p i,T.ao p i+j*2+1,none⟩=some (.int .i64 (T.aval p i j)):=fun w' h=>HT.out.A.a1 w' h p i j hp hi hlj
               go_upto_region 15 with fail
               refine boxed1 (w:=wr) (G:=fun x=>Code.wp _ _ _ _ x) ?_
               intro w4 hx4 hs4 ⟨l4,c4,_,_⟩
               have hx44:Ext w4 w4:=Ext.refl _
               have hxw4:=hxw.trans hx4
               have hx14:=hx1r.trans hx4
               have hx24:=hxr.trans hx4
               clear hs4
               generalize wr.heap.size=ba at l4 c4 ⊢
               by_cases hv0:T.avar p i j<0
               ·have b0:decide (T.avar p i j<0)=true:=decide_eq_true hv0
                go_quiet (fail)
                go_wp2_with fail
                go_ret
                exact ErrPost.bad (by decide) (fun h=>by have:=(h.2.2.2.2 j hlj).1;simp [inB] at this;omega) (hxw4.drewN _)
               ·have b0:decide (T.avar p i j<0)=false:=decide_eq_false hv0
                by_cases hv1:(T.vn p:Int)≤T.avar p i j
                ·have b1:decide ((T.vn p:Int)≤T.avar p i j)=true:=decide_eq_true hv1
                 go_quiet (fail)
                 go_wp2_with fail
                 go_ret
                 exact ErrPost.bad (by decide) (fun h=>by have:=(h.2.2.2.2 j hlj).1;simp [inB] at this;omega) (hxw4.drewN _)
                ·have b1:decide ((T.vn p:Int)≤T.avar p i j)=false:=decide_eq_false hv1
                 have hVal:=fun W=>rvalue_any (T.aval p i j) W
                 cases e3:inB (T.aval p i j) (-1073741824) 1073741824 with
                 | false =>
                  simp only [e3] at hVal
                  go_quiet (exact Calls.quiet_of_same ((hVal _).mono fun e w' h=>⟨h.1,h.2.symm⟩))
                  go_wp2_with fail
                  go_ret
                  exact ErrPost.bad (by decide) (fun h=>by have:=(h.2.2.2.2 j hlj).2.1;rw [this] at e3;cases e3) (hxw4.drewN _)
                 | true =>
                  simp only [e3] at hVal
                  go_quiet (exact Calls.quiet_of_same ((hVal _).mono fun e w' h=>⟨h.1,h.2.symm⟩))
                  have HVA:=Lib.hid (show inB (T.avar p i j) 0 ((T.vn p:Int) - 1)=true by simp [inB];omega)
                  clear hVal b0 b1 a1
                  go_wp2_with fail
                  go_loopg [10] j (fun gg v wr=>∃ k:Nat,k≤j∧gg=j - k∧v=.int .i64 k∧Ext w4 wr∧∀ l,l<k→(T.avar p i l == T.avar p i j)=false)
                  case atStart=>exact ⟨0,by omega,rfl,rfl,hx44.drewN _,fun j hj=>by omega⟩
                  case round=>
                   obtain ⟨k,hk,rfl,rfl,hxr,hok⟩:=hrel
                   have HOL:=Lib.hid hok
                   clear hok
                   have hxw:=hxw4.trans hxr
                   have hx2r:=hx24.trans hxr
                   by_cases hlk:k<j
                   ·have hlk':(k:Int)<(j:Int):=by omega
                    have hkv:k<T.an p i:=by omega
                    have hkv':(k:Int)<(T.an p i:Int):=by omega
                    cases he:(T.avar p i k == T.avar p i j) with
                    | true =>
                     go_upto_region 20 with fail
                     go_quiet (fail)
                     go_wp2_with fail
                     go_ret
                     exact ErrPost.bad (by decide) (fun h=>by have:=(h.2.2.2.2 j hlj).2.2;rw [anyB_hit (k:=k) hlk he] at this;cases this) (hxw.drewN _)
                    | false =>
                     go_upto_region 20 with fail
                     go_quiet (fail)
                     go_wp2_with fail
                     go_roundg (j - (k+1))
                     case rel=>exact ⟨k+1,by omega,rfl,by go_num,hxr.drewN _,fun l hl=>by
                      by_cases e:l=k
                      ·subst e;exact he
                      ·exact HOL.out l (by omega)⟩
                     case measure=>omega
                   ·have hke:k=j:=by omega
                    subst hke
                    have HAV:=Lib.hid (anyB_false_iff.2 HOL.out)
                    go_wp2_with fail
                    go_roundg (T.an p i - (k+1))
                    case rel=>exact ⟨k+1,by omega,rfl,by go_num,hx2r,fun l hl=>by
                     by_cases e:l=k
                     ·subst e;exact ⟨HVA.out,e3,HAV.out⟩
                     ·exact HOV.out l (by omega)⟩
                    case measure=>omega
              ·have hje:j=T.an p i:=by omega
               subst hje
               go_wp2_with fail
               go_ret
               exact ErrPost.good ⟨HFO.out,HTM.out.1,HTM.out.2,h8,HOV.out⟩ hxw
            ·have d8:decide ((8:Int)<(T.an p i:Int))=true:=decide_eq_true (by omega)
             have d8':decide (8<T.an p i)=true:=decide_eq_true (by omega)
             go_wp2_with fail
             go_ret
             exact ErrPost.bad (by decide) (fun h=>h8 h.2.2.2.1) (hxw2.drewN _)
          ·have b2:decide ((0:Int)<(i:Int))=false:=decide_eq_false (by omega)
           have HTM:=Lib.hid (show inB (T.time p i) 0 1099511627776=true∧T.toTr.last p i≤T.time p i by refine ⟨by simp [inB];omega,?_⟩;unfold Tr.last;rw [if_pos (by omega)];omega)
           go_quiet (fail)
           clear b0 b1 b2
           by_cases h8:T.an p i≤8
           ·have d8:decide ((8:Int)<(T.an p i:Int))=false:=decide_eq_false (by omega)
            have d8':decide (8<T.an p i)=false:=decide_eq_false (by omega)
            go_wp2_with fail
            clear d8 d8'
            go_loopg [8] (T.an p i) (fun gg v wr=>∃ j:Nat,j≤T.an p i∧gg=T.an p i - j∧v=.int .i64 j∧Ext w2 wr∧∀ k,k<j→T.toTr.AsgOk p i k)
            case atStart=>exact ⟨0,by omega,rfl,rfl,hx22.drewN _,fun j hj=>by omega⟩
            case round=>
             obtain ⟨j,hj,rfl,rfl,hxr,hok⟩:=hrel
             have HOV:=Lib.hid hok
             clear hok
             have hxw:=hxw2.trans hxr
             have hx1r:=hx2.trans hxr
             by_cases hlj:j<T.an p i
             ·have hlj':(j:Int)<(T.an p i:Int):=by omega
              obtain rfl:aa=some ⟨T.ab p i,T.ao p i,none⟩:=by rw [HAA.out];exact HT.out.A.aa p i hp hi (by omega)
              have ab:=HT.out.A.ab p i hp hi (by omega)
              have a0:∀ w',Ext w w'→∀ k,k<T.an p i→w'.cell? ⟨T.ab p i,T.ao p i+k*2,none⟩=some (.int .i64 (T.avar p i k)):=fun w' h k hk=>HT.out.A.a0 w' h p i k hp hi hk
              have a1:∀ w',Ext w w'→w'.cell? ⟨T.ab p i,T.ao p i+j*2+1,none⟩=some (.int .i64 (T.aval p i j)):=fun w' h=>HT.out.A.a1 w' h p i j hp hi hlj
              go_upto_region 15 with fail
              refine boxed1 (w:=wr) (G:=fun x=>Code.wp _ _ _ _ x) ?_
              intro w4 hx4 hs4 ⟨l4,c4,_,_⟩
              have hx44:Ext w4 w4:=Ext.refl _
              have hxw4:=hxw.trans hx4
              have hx14:=hx1r.trans hx4
              have hx24:=hxr.trans hx4
              clear hs4
              generalize wr.heap.size=ba at l4 c4 ⊢
              by_cases hv0:T.avar p i j<0
              ·have b0:decide (T.avar p i j<0)=true:=decide_eq_true hv0
               go_quiet (fail)
               go_wp2_with fail
               go_ret
               exact ErrPost.bad (by decide) (fun h=>by have:=(h.2.2.2.2 j hlj).1;simp [inB] at this;omega) (hxw4.drewN _)
              ·have b0:decide (T.avar p i j<0)=false:=decide_eq_false hv0
               by_cases hv1:(T.vn p:Int)≤T.avar p i j
               ·have b1:decide ((T.vn p:Int)≤T.avar p i j)=true:=decide_eq_true hv1
                go_quiet (fail)
                go_wp2_with fail
                go_ret
                exact ErrPost.bad (by decide) (fun h=>by have:=(h.2.2.2.2 j hlj).1;simp [inB] at this;omega) (hxw4.drewN _)
               ·have b1:decide ((T.vn p:Int)≤T.avar p i j)=false:=decide_eq_false hv1
                have hVal:=fun W=>rvalue_any (T.aval p i j) W
                cases e3:inB (T.aval p i j) (-1073741824) 1073741824 with
                | false =>
                 simp only [e3] at hVal
                 go_quiet (exact Calls.quiet_of_same ((hVal _).mono fun e w' h=>⟨h.1,h.2.symm⟩))
                 go_wp2_with fail
                 go_ret
                 exact ErrPost.bad (by decide) (fun h=>by have:=(h.2.2.2.2 j hlj).2.1;rw [this] at e3;cases e3) (hxw4.drewN _)
                | true =>
                 simp only [e3] at hVal
                 go_quiet (exact Calls.quiet_of_same ((hVal _).mono fun e w' h=>⟨h.1,h.2.symm⟩))
                 have HVA:=Lib.hid (show inB (T.avar p i j) 0 ((T.vn p:Int) - 1)=true by simp [inB];omega)
                 clear hVal b0 b1 a1
                 go_wp2_with fail
                 go_loopg [10] j (fun gg v wr=>∃ k:Nat,k≤j∧gg=j - k∧v=.int .i64 k∧Ext w4 wr∧∀ l,l<k→(T.avar p i l == T.avar p i j)=false)
                 case atStart=>exact ⟨0,by omega,rfl,rfl,hx44.drewN _,fun j hj=>by omega⟩
                 case round=>
                  obtain ⟨k,hk,rfl,rfl,hxr,hok⟩:=hrel
                  have HOL:=Lib.hid hok
                  clear hok
                  have hxw:=hxw4.trans hxr
                  have hx2r:=hx24.trans hxr
                  by_cases hlk:k<j
                  ·have hlk':(k:Int)<(j:Int):=by omega
                   have hkv:k<T.an p i:=by omega
                   have hkv':(k:Int)<(T.an p i:Int):=by omega
                   cases he:(T.avar p i k == T.avar p i j) with
                   | true =>
                    go_upto_region 20 with fail
                    go_quiet (fail)
                    go_wp2_with fail
                    go_ret
                    exact ErrPost.bad (by decide) (fun h=>by have:=(h.2.2.2.2 j hlj).2.2;rw [anyB_hit (k:=k) hlk he] at this;cases this) (hxw.drewN _)
                   | false =>
                    go_upto_region 20 with fail
                    go_quiet (fail)
                    go_wp2_with fail
                    go_roundg (j - (k+1))
                    case rel=>exact ⟨k+1,by omega,rfl,by go_num,hxr.drewN _,fun l hl=>by
                     by_cases e:l=k
                     ·subst e;exact he
                     ·exact HOL.out l (by omega)⟩
                    case measure=>omega
                  ·have hke:k=j:=by omega
                   subst hke
                   have HAV:=Lib.hid (anyB_false_iff.2 HOL.out)
                   go_wp2_with fail
                   go_roundg (T.an p i - (k+1))
                   case rel=>exact ⟨k+1,by omega,rfl,by go_num,hx2r,fun l hl=>by
                    by_cases e:l=k
                    ·subst e;exact ⟨HVA.out,e3,HAV.out⟩
                    ·exact HOV.out l (by omega)⟩
                   case measure=>omega
             ·have hje:j=T.an p i:=by omega
              subst hje
              go_wp2_with fail
              go_ret
              exact ErrPost.good ⟨HFO.out,HTM.out.1,HTM.out.2,h8,HOV.out⟩ hxw
           ·have d8:decide ((8:Int)<(T.an p i:Int))=true:=decide_eq_true (by omega)
            have d8':decide (8<T.an p i)=true:=decide_eq_true (by omega)
            go_wp2_with fail
            go_ret
            exact ErrPost.bad (by decide) (fun h=>h8 h.2.2.2.1) (hxw2.drewN _)
  ·have k2:(T.kind p i == 2)=false:=by simpa using hk2
   by_cases hk3:T.kind p i=3
   ·have hk3':=hk3
    by_cases hp0:T.peer p i<0
    ·have g0:decide (T.peer p i<0)=true:=decide_eq_true hp0
     go_wp2_with fail
     go_ret
     exact ErrPost.bad (by decide) (fun h=>by have:=h.1;unfold FormedP at this;omega) hxw2
    ·have g0:decide (T.peer p i<0)=false:=decide_eq_false hp0
     by_cases hp1:(T.n:Int)≤T.peer p i
     ·have g1:decide ((T.n:Int)≤T.peer p i)=true:=decide_eq_true hp1
      go_wp2_with fail
      go_ret
      exact ErrPost.bad (by decide) (fun h=>by have:=h.1;unfold FormedP at this;omega) hxw2
     ·have g1:decide ((T.n:Int)≤T.peer p i)=false:=decide_eq_false hp1
      by_cases hp2:T.peer p i=p
      ·have g2:(T.peer p i == (p:Int))=true:=by simpa using hp2
       go_wp2_with fail
       go_ret
       exact ErrPost.bad (by decide) (fun h=>by have:=h.1;unfold FormedP at this;omega) hxw2
      ·have g2:(T.peer p i == (p:Int))=false:=by simpa using hp2
       by_cases hm0:T.msg p i<0
       ·have g3:decide (T.msg p i<0)=true:=decide_eq_true hm0
        go_wp2_with fail
        go_ret
        exact ErrPost.bad (by decide) (fun h=>by have:=h.1;unfold FormedP at this;omega) hxw2
       ·have g3:decide (T.msg p i<0)=false:=decide_eq_false hm0
        by_cases hm1:199<T.msg p i
        ·have g4:decide (199<T.msg p i)=true:=decide_eq_true hm1
         go_wp2_with fail
         go_ret
         exact ErrPost.bad (by decide) (fun h=>by have:=h.1;unfold FormedP at this;omega) hxw2
        ·have g4:decide (199<T.msg p i)=false:=decide_eq_false hm1
         have HFO:=Lib.hid (show FormedP T.toTr p (T.kind p i) (T.peer p i) (T.msg p i) by unfold FormedP;right;refine ⟨?_,?_⟩ <;> omega)
         go_upto_region 7 with fail
         by_cases ht0:T.time p i<0
         ·have b0:decide (T.time p i<0)=true:=decide_eq_true ht0
          go_quiet (fail)
          go_wp2_with fail
          go_ret
          exact ErrPost.bad (by decide) (fun h=>by have h1:=h.2.1;have h2:=h.2.2.1;simp [inB] at h1;unfold Tr.last at h2;skip;omega) (hxw2.drewN _)
         ·have b0:decide (T.time p i<0)=false:=decide_eq_false ht0
          by_cases ht1:1099511627776<T.time p i
          ·have b1:decide (1099511627776<T.time p i)=true:=decide_eq_true ht1
           go_quiet (fail)
           go_wp2_with fail
           go_ret
           exact ErrPost.bad (by decide) (fun h=>by have h1:=h.2.1;have h2:=h.2.2.1;simp [inB] at h1;unfold Tr.last at h2;skip;omega) (hxw2.drewN _)
          ·have b1:decide (1099511627776<T.time p i)=false:=decide_eq_false ht1
           by_cases h0:0<i
           ·have b2:decide ((0:Int)<(i:Int))=true:=decide_eq_true (by omega)
            obtain ⟨q,hq⟩:∃ q,q=i - 1:=⟨_,rfl⟩
            have hqi:q<T.en p:=by omega
            have hqi':(q:Int)<(T.en p:Int):=by omega
            have hw:IntKind.i64.wrap ((i:Int) - 1)=(q:Int):=by rw [IntWalk.i64_in _ (by omega)];omega
            have e3q:∀ w',Ext w w'→w'.cell? ⟨T.eb p,T.eo p+q*5+3,none⟩=some (.int .i64 (T.time p q)):=fun w' h=>HT.out.E.e3 w' h p q hp hqi
            have HQ:=Lib.hid hq
            clear hq
            by_cases ht2:T.time p i<T.time p q
            ·have b3:decide (T.time p i<T.time p q)=true:=decide_eq_true ht2
             go_quiet (fail)
             go_wp2_with fail
             go_ret
             exact ErrPost.bad (by decide) (fun h=>by have h1:=h.2.1;have h2:=h.2.2.1;simp [inB] at h1;unfold Tr.last at h2;(rw [if_neg (by omega),←HQ.out] at h2);omega) (hxw2.drewN _)
            ·have b3:decide (T.time p i<T.time p q)=false:=decide_eq_false ht2
             have HTM:=Lib.hid (show inB (T.time p i) 0 1099511627776=true∧T.toTr.last p i≤T.time p i by refine ⟨by simp [inB];omega,?_⟩;unfold Tr.last;rw [if_neg (by omega),←HQ.out];omega)
             go_quiet (fail)
             clear hw b0 b1 b2 b3 e3q
             by_cases h8:T.an p i≤8
             ·have d8:decide ((8:Int)<(T.an p i:Int))=false:=decide_eq_false (by omega)
              have d8':decide (8<T.an p i)=false:=decide_eq_false (by omega)
              go_wp2_with fail
              clear d8 d8'
              go_loopg [8] (T.an p i) (fun gg v wr=>∃ j:Nat,j≤T.an p i∧gg=T.an p i - j∧v=.int .i64 j∧Ext w2 wr∧∀ k,k<j→T.toTr.AsgOk p i k)
              case atStart=>exact ⟨0,by omega,rfl,rfl,hx22.drewN _,fun j hj=>by omega⟩
              case round=>
               obtain ⟨j,hj,rfl,rfl,hxr,hok⟩:=hrel
               have HOV:=Lib.hid hok
               clear hok
               have hxw:=hxw2.trans hxr
               have hx1r:=hx2.trans hxr
               by_cases hlj:j<T.an p i
               ·have hlj':(j:Int)<(T.an p i:Int):=by omega
                obtain rfl:aa=some ⟨T.ab p i,T.ao p i,none⟩:=by rw [HAA.out];exact HT.out.A.aa p i hp hi (by omega)
                have ab:=HT.out.A.ab p i hp hi (by omega)
                have a0:∀ w',Ext w w'→∀ k,k<T.an p i→w'.cell? ⟨T.ab p i,T.ao p i+k*2,none⟩=some (.int .i64 (T.avar p i k)):=fun w' h k hk=>HT.out.A.a0 w' h p i k hp hi hk
                have a1:∀ w',Ext w w'→w'.cell? ⟨T.ab p i,T.ao p i+j*2+1,none⟩=some (.int .i64 (T.aval p i j)):=fun w' h=>HT.out.A.a1 w' h p i j hp hi hlj
                go_upto_region 15 with fail
                refine boxed1 (w:=wr) (G:=fun x=>Code.wp _ _ _ _ x) ?_
                intro w4 hx4 hs4 ⟨l4,c4,_,_⟩
                have hx44:Ext w4 w4:=Ext.refl _
                have hxw4:=hxw.trans hx4
                have hx14:=hx1r.trans hx4
                have hx24:=hxr.trans hx4
                clear hs4
                generalize wr.heap.size=ba at l4 c4 ⊢
                by_cases hv0:T.avar p i j<0
                ·have b0:decide (T.avar p i j<0)=true:=decide_eq_true hv0
                 go_quiet (fail)
                 go_wp2_with fail
                 go_ret
                 exact ErrPost.bad (by decide) (fun h=>by have:=(h.2.2.2.2 j hlj).1;simp [inB] at this;omega) (hxw4.drewN _)
                ·have b0:decide (T.avar p i j<0)=false:=decide_eq_false hv0
                 by_cases hv1:(T.vn p:Int)≤T.avar p i j
                 ·have b1:decide ((T.vn p:Int)≤T.avar p i j)=true:=decide_eq_true hv1
                  go_quiet (fail)
                  go_wp2_with fail
                  go_ret
                  exact ErrPost.bad (by decide) (fun h=>by have:=(h.2.2.2.2 j hlj).1;simp [inB] at this;omega) (hxw4.drewN _)
                 ·have b1:decide ((T.vn p:Int)≤T.avar p i j)=false:=decide_eq_false hv1
                  have hVal:=fun W=>rvalue_any (T.aval p i j) W
                  cases e3:inB (T.aval p i j) (-1073741824) 1073741824 with
                  | false =>
                   simp only [e3] at hVal
                   go_quiet (exact Calls.quiet_of_same ((hVal _).mono fun e w' h=>⟨h.1,h.2.symm⟩))
                   go_wp2_with fail
                   go_ret
                   exact ErrPost.bad (by decide) (fun h=>by have:=(h.2.2.2.2 j hlj).2.1;rw [this] at e3;cases e3) (hxw4.drewN _)
                  | true =>
                   simp only [e3] at hVal
                   go_quiet (exact Calls.quiet_of_same ((hVal _).mono fun e w' h=>⟨h.1,h.2.symm⟩))
                   have HVA:=Lib.hid (show inB (T.avar p i j) 0 ((T.vn p:Int) - 1)=true by simp [inB];omega)
                   clear hVal b0 b1 a1
                   go_wp2_with fail
                   go_loopg [10] j (fun gg v wr=>∃ k:Nat,k≤j∧gg=j - k∧v=.int .i64 k∧Ext w4 wr∧∀ l,l<k→(T.avar p i l == T.avar p i j)=false)
                   case atStart=>exact ⟨0,by omega,rfl,rfl,hx44.drewN _,fun j hj=>by omega⟩
                   case round=>
                    obtain ⟨k,hk,rfl,rfl,hxr,hok⟩:=hrel
                    have HOL:=Lib.hid hok
                    clear hok
                    have hxw:=hxw4.trans hxr
                    have hx2r:=hx24.trans hxr
                    by_cases hlk:k<j
                    ·have hlk':(k:Int)<(j:Int):=by omega
                     have hkv:k<T.an p i:=by omega
                     have hkv':(k:Int)<(T.an p i:Int):=by omega
                     cases he:(T.avar p i k == T.avar p i j) with
                     | true =>
                      go_upto_region 20 with fail
                      go_quiet (fail)
                      go_wp2_with fail
                      go_ret
                      exact ErrPost.bad (by decide) (fun h=>by have:=(h.2.2.2.2 j hlj).2.2;rw [anyB_hit (k:=k) hlk he] at this;cases this) (hxw.drewN _)
                     | false =>
                      go_upto_region 20 with fail
                      go_quiet (fail)
                      go_wp2_with fail
                      go_roundg (j - (k+1))
                      case rel=>exact ⟨k+1,by omega,rfl,by go_num,hxr.drewN _,fun l hl=>by
                       by_cases e:l=k
                       ·subst e;exact he
                       ·exact HOL.out l (by omega)⟩
                      case measure=>omega
                    ·have hke:k=j:=by omega
                     subst hke
                     have HAV:=Lib.hid (anyB_false_iff.2 HOL.out)
                     go_wp2_with fail
                     go_roundg (T.an p i - (k+1))
                     case rel=>exact ⟨k+1,by omega,rfl,by go_num,hx2r,fun l hl=>by
                      by_cases e:l=k
                      ·subst e;exact ⟨HVA.out,e3,HAV.out⟩
                      ·exact HOV.out l (by omega)⟩
                     case measure=>omega
               ·have hje:j=T.an p i:=by omega
                subst hje
                go_wp2_with fail
                go_ret
                exact ErrPost.good ⟨HFO.out,HTM.out.1,HTM.out.2,h8,HOV.out⟩ hxw
             ·have d8:decide ((8:Int)<(T.an p i:Int))=true:=decide_eq_true (by omega)
              have d8':decide (8<T.an p i)=true:=decide_eq_true (by omega)
              go_wp2_with fail
              go_ret
              exact ErrPost.bad (by decide) (fun h=>h8 h.2.2.2.1) (hxw2.drewN _)
           ·have b2:decide ((0:Int)<(i:Int))=false:=decide_eq_false (by omega)
            have HTM:=Lib.hid (show inB (T.time p i) 0 1099511627776=true∧T.toTr.last p i≤T.time p i by refine ⟨by simp [inB];omega,?_⟩;unfold Tr.last;rw [if_pos (by omega)];omega)
            go_quiet (fail)
            clear b0 b1 b2
            by_cases h8:T.an p i≤8
            ·have d8:decide ((8:Int)<(T.an p i:Int))=false:=decide_eq_false (by omega)
             have d8':decide (8<T.an p i)=false:=decide_eq_false (by omega)
             go_wp2_with fail
             clear d8 d8'
             go_loopg [8] (T.an p i) (fun gg v wr=>∃ j:Nat,j≤T.an p i∧gg=T.an p i - j∧v=.int .i64 j∧Ext w2 wr∧∀ k,k<j→T.toTr.AsgOk p i k)
             case atStart=>exact ⟨0,by omega,rfl,rfl,hx22.drewN _,fun j hj=>by omega⟩
             case round=>
              obtain ⟨j,hj,rfl,rfl,hxr,hok⟩:=hrel
              have HOV:=Lib.hid hok
              clear hok
              have hxw:=hxw2.trans hxr
              have hx1r:=hx2.trans hxr
              by_cases hlj:j<T.an p i
              ·have hlj':(j:Int)<(T.an p i:Int):=by omega
               obtain rfl:aa=some ⟨T.ab p i,T.ao p i,none⟩:=by rw [HAA.out];exact HT.out.A.aa p i hp hi (by omega)
               have ab:=HT.out.A.ab p i hp hi (by omega)
               have a0:∀ w',Ext w w'→∀ k,k<T.an p i→w'.cell? ⟨T.ab p i,T.ao p i+k*2,none⟩=some (.int .i64 (T.avar p i k)):=fun w' h k hk=>HT.out.A.a0 w' h p i k hp hi hk
               have a1:∀ w',Ext w w'→w'.cell? ⟨T.ab p i,T.ao p i+j*2+1,none⟩=some (.int .i64 (T.aval p i j)):=fun w' h=>HT.out.A.a1 w' h p i j hp hi hlj
               go_upto_region 15 with fail
               refine boxed1 (w:=wr) (G:=fun x=>Code.wp _ _ _ _ x) ?_
               intro w4 hx4 hs4 ⟨l4,c4,_,_⟩
               have hx44:Ext w4 w4:=Ext.refl _
               have hxw4:=hxw.trans hx4
               have hx14:=hx1r.trans hx4
               have hx24:=hxr.trans hx4
               clear hs4
               generalize wr.heap.size=ba at l4 c4 ⊢
               by_cases hv0:T.avar p i j<0
               ·have b0:decide (T.avar p i j<0)=true:=decide_eq_true hv0
                go_quiet (fail)
                go_wp2_with fail
                go_ret
                exact ErrPost.bad (by decide) (fun h=>by have:=(h.2.2.2.2 j hlj).1;simp [inB] at this;omega) (hxw4.drewN _)
               ·have b0:decide (T.avar p i j<0)=false:=decide_eq_false hv0
                by_cases hv1:(T.vn p:Int)≤T.avar p i j
                ·have b1:decide ((T.vn p:Int)≤T.avar p i j)=true:=decide_eq_true hv1
                 go_quiet (fail)
                 go_wp2_with fail
                 go_ret
                 exact ErrPost.bad (by decide) (fun h=>by have:=(h.2.2.2.2 j hlj).1;simp [inB] at this;omega) (hxw4.drewN _)
                ·have b1:decide ((T.vn p:Int)≤T.avar p i j)=false:=decide_eq_false hv1
                 have hVal:=fun W=>rvalue_any (T.aval p i j) W
                 cases e3:inB (T.aval p i j) (-1073741824) 1073741824 with
                 | false =>
                  simp only [e3] at hVal
                  go_quiet (exact Calls.quiet_of_same ((hVal _).mono fun e w' h=>⟨h.1,h.2.symm⟩))
                  go_wp2_with fail
                  go_ret
                  exact ErrPost.bad (by decide) (fun h=>by have:=(h.2.2.2.2 j hlj).2.1;rw [this] at e3;cases e3) (hxw4.drewN _)
                 | true =>
                  simp only [e3] at hVal
                  go_quiet (exact Calls.quiet_of_same ((hVal _).mono fun e w' h=>⟨h.1,h.2.symm⟩))
                  have HVA:=Lib.hid (show inB (T.avar p i j) 0 ((T.vn p:Int) - 1)=true by simp [inB];omega)
                  clear hVal b0 b1 a1
                  go_wp2_with fail
                  go_loopg [10] j (fun gg v wr=>∃ k:Nat,k≤j∧gg=j - k∧v=.int .i64 k∧Ext w4 wr∧∀ l,l<k→(T.avar p i l == T.avar p i j)=false)
                  case atStart=>exact ⟨0,by omega,rfl,rfl,hx44.drewN _,fun j hj=>by omega⟩
                  case round=>
                   obtain ⟨k,hk,rfl,rfl,hxr,hok⟩:=hrel
                   have HOL:=Lib.hid hok
                   clear hok
                   have hxw:=hxw4.trans hxr
                   have hx2r:=hx24.trans hxr
                   by_cases hlk:k<j
                   ·have hlk':(k:Int)<(j:Int):=by omega
                    have hkv:k<T.an p i:=by omega
                    have hkv':(k:Int)<(T.an p i:Int):=by omega
                    cases he:(T.avar p i k == T.avar p i j) with
                    | true =>
                     go_upto_region 20 with fail
                     go_quiet (fail)
                     go_wp2_with fail
                     go_ret
                     exact ErrPost.bad (by decide) (fun h=>by have:=(h.2.2.2.2 j hlj).2.2;rw [anyB_hit (k:=k) hlk he] at this;cases this) (hxw.drewN _)
                    | false =>
                     go_upto_region 20 with fail
                     go_quiet (fail)
                     go_wp2_with fail
                     go_roundg (j - (k+1))
                     case rel=>exact ⟨k+1,by omega,rfl,by go_num,hxr.drewN _,fun l hl=>by
                      by_cases e:l=k
                      ·subst e;exact he
                      ·exact HOL.out l (by omega)⟩
                     case measure=>omega
                   ·have hke:k=j:=by omega
                    subst hke
                    have HAV:=Lib.hid (anyB_false_iff.2 HOL.out)
                    go_wp2_with fail
                    go_roundg (T.an p i - (k+1))
                    case rel=>exact ⟨k+1,by omega,rfl,by go_num,hx2r,fun l hl=>by
                     by_cases e:l=k
                     ·subst e;exact ⟨HVA.out,e3,HAV.out⟩
                     ·exact HOV.out l (by omega)⟩
                    case measure=>omega
              ·have hje:j=T.an p i:=by omega
               subst hje
               go_wp2_with fail
               go_ret
               exact ErrPost.good ⟨HFO.out,HTM.out.1,HTM.out.2,h8,HOV.out⟩ hxw
            ·have d8:decide ((8:Int)<(T.an p i:Int))=true:=decide_eq_true (by omega)
             have d8':decide (8<T.an p i)=true:=decide_eq_true (by omega)
             go_wp2_with fail
             go_ret
             exact ErrPost.bad (by decide) (fun h=>h8 h.2.2.2.1) (hxw2.drewN _)
   ·have k3:(T.kind p i == 3)=false:=by simpa using hk3
    go_wp2_with fail
    go_ret
    exact ErrPost.bad (by decide) (fun h=>by have:=h.1;unfold FormedP at this;omega) hxw2
end Go.Proofs.YtlfdfkbmollaaaaGreatDoor
