/- Contracts and laws in plain Lean for RApp: group P87. -/
import Derived.Test.YtmhapcnlpoilpaaGreatDoorP86
import Derived.Test.YtmhapcnlpoilpaaGreatDoorP70
import Derived.Test.YtmhapcnlpoilpaaGreatDoorP74
import Derived.Test.YtmhapcnlpoilpaaGreatDoorP38
import Derived.Test.YtmhapcnlpoilpaaGreatDoorP62
import Derived.Test.YtmhapcnlpoilpaaGreatDoorP06
set_option maxRecDepth 100000
namespace Go.Proofs.YtmhapcnlpoilpaaGreatDoor
open Go.RowKit Go.Shelf
attribute [local go_sem] Oper.semAt_some
theorem jn_le {f:Nat→List UInt8} {d:UInt8} {c:Nat}:∀ {k:Nat},(∀ i,i<k→(f i).length≤c)→(jn f d k).length≤k*(c+1)
 | 0,_ => by simp [jn]
 | k+1,h => by
  have h1:=jn_le (d:=d) (k:=k) fun i hi=>h i (by omega)
  have h2:=h k (by omega)
  unfold jn
  rw [List.length_append,List.length_append,Nat.succ_mul]
  have:(if 0<k then [d] else ([]:List UInt8)).length≤1:=by split <;> simp
  omega
theorem wriL_jn (v:Nat→Int) (n:Nat):wriL v n=40 :: jn (fun i=>Lib.itoa (v i)) 32 n++[41]:=by
 unfold wriL itoaL;rw [join_jn];rfl
set_option maxHeartbeats 2000000 in
theorem rwritten_any (w : World) (n cap : Nat) (a : Option Addr) (g o : Nat) (v : Nat → Int) (hA : NumAt w n a g o v) (hn : n ≤ 100) (hv : ∀ k, k < n → 0 ≤ v k ∧ v k ≤ 1000000) :
    Calls Tryz.prog 75 #[.slice a n cap] w fun e w'=>e=.returned (.string (bts (wriL v n)))∧Ext w w':=by
 have HA:=Lib.hid hA
 have HIL:=Lib.hid (show ∀ k,k<n→(Lib.itoa (v k)).length≤1000001 from fun k hk=>by have h1:=hv k hk;have h2:=itoa_len (v k) h1.1;omega)
 have HDC:=Lib.hid (fun k (hk:k<n) W=>(show Calls Tryz.prog 81 #[.int .i64 (v k)] W (fun e w'=>e=.returned (.string (bts (Lib.itoa (v k))))∧Ext W w') from by
  have h1:=hv k hk
  have h:=rdec_any (v k).toNat (by omega) W
  rw [show (((v k).toNat:Nat):Int)=v k by omega] at h
  unfold Lib.itoa;rw [if_neg (by omega)];exact h))
 clear hA hv
 go_enter Tryz.func75,Tryz.ntmps75
 go_wp2_with fail
 go_loopg [3,4] n (fun gg v3 v4 wr=>∃ k:Nat,k≤n∧gg=n - k∧v3=.string (bts (40 :: jn (fun i=>Lib.itoa (v i)) 32 k))∧v4=.int .i64 k∧Ext w wr)
 case atStart=>exact ⟨0,by omega,rfl,rfl,rfl,Ext.refl _⟩
 case round=>
  obtain ⟨k,hk,rfl,rfl,rfl,hxr⟩:=hrel
  obtain ⟨X,hX⟩:∃ X,X=40 :: jn (fun i=>Lib.itoa (v i)) 32 k:=⟨_,rfl⟩
  have hXl:X.length≤200000000:=by
   have h1:=jn_le (f:=fun i=>Lib.itoa (v i)) (d:=32) (c:=1000001) (k:=k) fun i hi=>HIL.out i (by omega)
   have h2:k*(1000001+1)≤100*(1000001+1):=Nat.mul_le_mul_right _ (by omega)
   rw [hX,List.length_cons];omega
  rw [←hX]
  have hz:=bts_size X
  by_cases hlt:k<n
  ·have hlt':(k:Int)<(n:Int):=by omega
   obtain rfl:=HA.out.pa (by omega)
   obtain ⟨x,hx⟩:∃ x,x=v k:=⟨_,rfl⟩
   have hc:wr.cell? ⟨g,o+k,none⟩=some (.int .i64 x):=by rw [hx];exact hxr.cell (HA.out.c k hlt)
   have hg:g<wr.heap.size:=Nat.lt_of_lt_of_le (HA.out.pb (by omega)) hxr.le
   have hd0:=HDC.out k hlt
   obtain ⟨d,hd⟩:∃ d,d=Lib.itoa (v k):=⟨_,rfl⟩
   have hdl:d.length≤1000001:=by rw [hd];exact HIL.out k hlt
   rw [←hd,←hx] at hd0
   have HDD:=Lib.hid hd0
   have hzd:=bts_size d
   have HJ:=Lib.hid (show 40 :: jn (fun i=>Lib.itoa (v i)) 32 (k+1)=X++(if 0<k then [32] else [])++d from by
    rw [hX,hd,List.append_assoc];rfl)
   clear hx hd hd0 hX
   by_cases h0:0<k
   ·have b1:decide ((0:Int)<(k:Int))=true:=decide_eq_true (by omega)
    have b1':decide (0<k)=true:=decide_eq_true h0
    have hk1:¬9223372036854775807<X.length+1:=by omega
    have hk2:¬9223372036854775807<X.length+1+d.length:=by omega
    rw [if_pos h0] at HJ
    clear h0
    go_wp2_with (go_at_call 81;refine (HDD.out _).mono ?_;rintro e w2 ⟨rfl,hx2⟩)
    go_roundg (n - (k+1))
    case rel=>exact ⟨k+1,by omega,rfl,by rw [HJ.out];exact congrArg Value.string (by rw [show (⟨#[32]⟩:ByteArray)=bts [32] from rfl,bts_append,bts_append]),by go_num,hxr.trans hx2⟩
    case measure=>omega
   ·have b1:decide ((0:Int)<(k:Int))=false:=decide_eq_false (by omega)
    have b1':decide (0<k)=false:=decide_eq_false h0
    have hk2:¬9223372036854775807<X.length+d.length:=by omega
    rw [if_neg h0,List.append_nil] at HJ
    clear h0
    go_wp2_with (go_at_call 81;refine (HDD.out _).mono ?_;rintro e w2 ⟨rfl,hx2⟩)
    go_roundg (n - (k+1))
    case rel=>exact ⟨k+1,by omega,rfl,by rw [HJ.out];exact congrArg Value.string (bts_append X d),by go_num,hxr.trans hx2⟩
    case measure=>omega
  ·have hlt':¬(k:Int)<(n:Int):=by omega
   obtain rfl:k=n:=by omega
   have hk1:¬9223372036854775807<X.length+1:=by omega
   have HW:=Lib.hid (show wriL v k=X++[41] from by rw [wriL_jn,hX])
   clear hX
   go_wp2_with fail
   go_ret
   exact ⟨by rw [HW.out];exact congrArg (fun z=>Ending.returned (Value.string z)) (bts_append X [41]),hxr⟩
theorem sumN_tot {u:Nat→Nat}:∀ {n:Nat},sumN (natV u) n=(tot u n:Nat)
 | 0 => rfl
 | n+1 => by show sumN (natV u) n+natV u n=((tot u n+u n:Nat):Int);rw [sumN_tot];unfold natV;omega
set_option maxHeartbeats 4000000 in
theorem rlat_any (w : World) (base : Nat) (vv : Value) (R : List Row) (hq : RowsQ w base vv R) (hl : R.length ≤ 5000) (hb : ∀ r ∈ R, r.l.length ≤ 8 ∧ ∀ p, p < r.l.length → fn r.l p ≤ 64) :
    Calls Tryz.prog 32 #[vv] w fun e w'=>e=.returned (.string (bts (latT (R.map Row.l))))∧Ext w w':=by
 obtain ⟨a,g,o,cp,rfl,hle,hpa,hc⟩:=hq.get
 have hat:=hq.2
 obtain ⟨L,hLR⟩:∃ L,L=R.map Row.l:=⟨_,rfl⟩
 obtain ⟨n,hn⟩:∃ n,n=R.length:=⟨_,rfl⟩
 rw [←hLR]
 rw [←hn] at hl hle hpa ⊢
 have HLR:=Lib.hid (And.intro hLR hn)
 have HQ:=Lib.hid (And.intro hpa (And.intro hc hat))
 have HCT:=Lib.hid (show ∀ i (hi:i<R.length),L.getD i []=R[i].l∧R[i].l.length≤8∧(∀ p,p<R[i].l.length→fn R[i].l p≤64)∧(cutT R[i].l).length≤1000 from fun i hi=>by
  obtain ⟨h1,h2⟩:=hb R[i] (List.getElem_mem hi)
  exact ⟨by rw [hLR,List.getD_eq_getElem?_getD,List.getElem?_map,List.getElem?_eq_getElem hi];rfl,h1,h2,cutT_len h1 rfl h2⟩)
 have HSB:=Lib.hid (show ∀ i (hi:i<R.length),cutS R[i].l=(tot (fn R[i].l) R[i].l.length:Nat)∧tot (fn R[i].l) R[i].l.length≤512 from fun i hi=>by
  obtain ⟨h1,h2⟩:=hb R[i] (List.getElem_mem hi)
  have h3:=cutS_le h1 rfl h2
  unfold cutS at h3 ⊢
  rw [sumN_tot] at h3 ⊢
  exact ⟨rfl,by omega⟩)
 have HLL:=Lib.hid (show ∀ k,k≤n→(latL (fun i=>cutT (L.getD i [])) (fun i=>cutS (L.getD i [])) k).length≤100000000 from fun k hk=>by
  have h1:=latL_len (f:=fun i=>cutT (L.getD i [])) (s:=fun i=>cutS (L.getD i [])) (m:=1000) (c:=513) (n:=k) fun j hj=>by
   obtain ⟨e1,_,_,e2⟩:=HCT.out j (by omega)
   obtain ⟨e3,e4⟩:=HSB.out j (by omega)
   simp only [e1]
   have:=itoa_len (cutS R[j].l) (by rw [e3];omega)
   rw [e3] at this ⊢
   exact ⟨e2,by omega⟩
  have h2:k*(1000+513+3)≤5000*(1000+513+3):=Nat.mul_le_mul_right _ (by omega)
  omega)
 clear hLR hn hpa hc hat hq hb
 go_enter Tryz.func32,Tryz.ntmps32
 go_wp2_with fail
 go_loopg [3,4] n (fun gg v3 v4 wr=>∃ i:Nat,i≤n∧gg=n - i∧v3=.string (bts (latL (fun i=>cutT (L.getD i [])) (fun i=>cutS (L.getD i [])) i))∧v4=.int .i64 i∧Ext w wr)
 case atStart=>exact ⟨0,by omega,rfl,rfl,rfl,Ext.refl _⟩
 case round=>
  obtain ⟨i,hi,rfl,rfl,rfl,hxo⟩:=hrel
  obtain ⟨ll,hll⟩:∃ ll,ll=latL (fun i=>cutT (L.getD i [])) (fun i=>cutS (L.getD i [])) i:=⟨_,rfl⟩
  have hlll:ll.length≤100000000:=by rw [hll];exact HLL.out i hi
  rw [←hll]
  have hzl:=bts_size ll
  have hoo:Ext wr wr:=Ext.refl _
  by_cases hin:i<n
  ·have hin':(i:Int)<(n:Int):=by omega
   have hiR:i<R.length:=by rw [←HLR.out.2];exact hin
   obtain ⟨rfl,_,hgs⟩:=HQ.out.1 (by omega)
   have li:∀ w',Ext w w'→g<w'.heap.size:=fun w' x=>Nat.lt_of_lt_of_le hgs x.le
   obtain ⟨e1,e2,e3,e4⟩:=HCT.out i hiR
   obtain ⟨r,hr⟩:∃ r,r=R[i]:=⟨_,rfl⟩
   rw [←hr] at e1 e2 e3 e4
   obtain ⟨ra,rn,rc,rg,ro,hra,hrn,hrc,hrg,hro⟩:∃ ra rn rc rg ro,ra=(r).a∧rn=(r).l.length∧rc=(r).c∧rg=(r).g∧ro=(r).o:=⟨_,_,_,_,_,rfl,rfl,rfl,rfl,rfl⟩
   have ci:∀ w',Ext w w'→w'.cell? ⟨g,o+i,none⟩=some (.slice ra rn rc):=fun w' x=>by rw [hra,hrn,hrc,hr];exact HQ.out.2.1 i hiR w' x
   have hrat:NumAt w rn ra rg ro (natV (fn (r).l)):=by rw [hra,hrn,hrg,hro,hr];exact HQ.out.2.2 _ (List.getElem_mem hiR)
   rw [←hrn] at e2 e3
   obtain ⟨sz,hsz⟩:∃ sz:Nat,sz=tot (fn (r).l) rn:=⟨_,rfl⟩
   obtain ⟨s1,s2⟩:=HSB.out i hiR
   rw [←hr,←hrn,←hsz] at s1 s2
   obtain ⟨tx,htx⟩:∃ tx,tx=cutT r.l:=⟨_,rfl⟩
   rw [←htx] at e4
   have HSI:=Lib.hid (fun W (x:Ext w W)=>(rsize_any W ra rg ro rn rc (fn r.l) (hrat.ext x) fun p hp=>by
    have h1:tot (fn r.l) p≤p*64:=tot_small fun k hk=>e3 k (by omega)
    omega).mono fun e w' h=>(⟨h.1.trans (by rw [hsz]),h.2⟩:e=.returned (.int .i64 (sz:Nat))∧Ext W w'))
   have HTX:=Lib.hid (fun W (x:Ext w W)=>(rwritten_any W rn rc ra rg ro (natV (fn r.l)) (hrat.ext x) (by omega) fun k hk=>by have:=e3 k hk;unfold natV;omega).mono fun e w' h=>(⟨h.1.trans (by rw [htx,hrn];rfl),h.2⟩:e=.returned (.string (bts tx))∧Ext W w'))
   have HIT:=Lib.hid (fun W=>rdec_any sz (by omega) W)
   obtain ⟨d,hd⟩:∃ d,d=Lib.decDigits sz:=⟨_,rfl⟩
   rw [←hd] at HIT
   have hdl:d.length≤513:=by rw [hd];have:=decDigits_len sz;omega
   have hzd:=bts_size d
   have hzt:=bts_size tx
   have HD:=Lib.hid (show cutT (L.getD i [])=tx∧cutS (L.getD i [])=(sz:Int)∧Lib.itoa (sz:Int)=d from by
    rw [e1];exact ⟨htx.symm,s1,by unfold Lib.itoa;rw [if_neg (by omega),Int.toNat_natCast];exact hd.symm⟩)
   clear hr hra hrn hrc hrg hro hrat hsz htx hd e1 s1 e3
   by_cases hi0:i=0
   ·have HST := Lib.hid (show latL (fun i => cutT (L.getD i [])) (fun i => cutS (L.getD i [])) (i + 1) = ll ++ d ++ [58] ++ [32] ++ tx from by
      unfold latL
      rw [←hll,if_pos (.inl hi0),if_neg (by omega),HD.out.1,HD.out.2.1,HD.out.2.2];simp)
    have hd0:((i:Int) == 0)=true:=by simp [hi0]
    have hg0:decide ((0:Int)<(i:Int))=false:=decide_eq_false (by omega)
    have hg0':decide (0<i)=false:=decide_eq_false (by omega)
    have hd0':(i == 0)=true:=by simp [hi0]
    have q1:¬9223372036854775807<ll.length+d.length:=by omega
    have q2:¬9223372036854775807<ll.length+d.length+1:=by omega
    have q3:¬9223372036854775807<ll.length+d.length+1+1:=by omega
    have q4:¬9223372036854775807<ll.length+d.length+1+1+tx.length:=by omega
    clear hll hi0
    go_wp2_with fail
    go_at_call 80
    refine (HSI.out wr hxo).mono ?_
    rintro e wa ⟨rfl,hxa⟩
    have hxwa:=hxo.trans hxa
    go_wp2_with (first | (go_at_call 81;refine (HIT.out _).mono ?_;rintro e wb ⟨rfl,hxb⟩;have hxwb:=hxwa.trans hxb) | (go_at_call 75;refine (HTX.out _ hxwb).mono ?_;rintro e wc ⟨rfl,hxc⟩;have hxwc:=hxwb.trans hxc))
    go_roundg (n - (i+1))
    case rel=>exact ⟨i+1,by omega,rfl,by rw [HST.out];exact congrArg Value.string (by rw [show (⟨#[58]⟩:ByteArray)=bts [58] from rfl,show (⟨#[32]⟩:ByteArray)=bts [32] from rfl,bts_append,bts_append,bts_append,bts_append]),by go_num,hxwc⟩
    case measure=>omega
   ·obtain ⟨j,hj⟩:∃ j,i=j+1:=⟨i - 1,by omega⟩
    have hwj:IntKind.i64.wrap ((i:Int) - 1)=(j:Int):=by rw [IntWalk.i64_in _ (by omega)];omega
    have hjn:(j:Int)<(n:Int):=by omega
    have hjR:j<R.length:=by omega
    obtain ⟨e1,f2,e3,f4⟩:=HCT.out j hjR
    obtain ⟨r',hr⟩:∃ r,r=R[j]:=⟨_,rfl⟩
    rw [←hr] at e1 f2 e3 f4
    obtain ⟨sa,sn,sc,sg,so,hra,hrn,hrc,hrg,hro⟩:∃ ra rn rc rg ro,ra=(r').a∧rn=(r').l.length∧rc=(r').c∧rg=(r').g∧ro=(r').o:=⟨_,_,_,_,_,rfl,rfl,rfl,rfl,rfl⟩
    have cj:∀ w',Ext w w'→w'.cell? ⟨g,o+j,none⟩=some (.slice sa sn sc):=fun w' x=>by rw [hra,hrn,hrc,hr];exact HQ.out.2.1 j hjR w' x
    have hrat:NumAt w sn sa sg so (natV (fn (r').l)):=by rw [hra,hrn,hrg,hro,hr];exact HQ.out.2.2 _ (List.getElem_mem hjR)
    rw [←hrn] at f2 e3
    obtain ⟨sj,hsz⟩:∃ sz:Nat,sz=tot (fn (r').l) sn:=⟨_,rfl⟩
    obtain ⟨s1,s3⟩:=HSB.out j hjR
    rw [←hr,←hrn,←hsz] at s1 s3
    have HSJ:=Lib.hid (fun W (x:Ext w W)=>(rsize_any W sa sg so sn sc (fn r'.l) (hrat.ext x) fun p hp=>by
     have h1:tot (fn r'.l) p≤p*64:=tot_small fun k hk=>e3 k (by omega)
     omega).mono fun e w' h=>(⟨h.1.trans (by rw [hsz]),h.2⟩:e=.returned (.int .i64 (sj:Nat))∧Ext W w'))
    have HDJ:=Lib.hid (show cutS (L.getD (i - 1) [])=(sj:Int) from by rw [show i - 1=j by omega,e1];exact s1)
    have hd0:((i:Int) == 0)=false:=by simp;omega
    have hg0:decide ((0:Int)<(i:Int))=true:=decide_eq_true (by omega)
    have hg0':decide (0<i)=true:=decide_eq_true (by omega)
    have hd0':(i == 0)=false:=by simp;omega
    by_cases hne:sz=sj
    ·have HST := Lib.hid (show latL (fun i => cutT (L.getD i [])) (fun i => cutS (L.getD i [])) (i + 1) = ll ++ [32] ++ tx from by
       unfold latL
       rw [←hll,if_neg (by rw [HD.out.2.1,HDJ.out];intro h;rcases h with h | h;exact hi0 h;exact h (by rw [hne])),HD.out.1];simp)
     have hde:((sz:Int) != (sj:Int))=false:=by simp [hne]
     have hde':(sz != sj)=false:=by simp [hne]
     have q1:¬9223372036854775807<ll.length+1:=by omega
     have q2:¬9223372036854775807<ll.length+1+tx.length:=by omega
     clear hll hi0 hj hr hra hrn hrc hrg hro hrat hsz hne e1 e3 s1
     go_wp2_with fail
     go_at_call 80
     refine (HSI.out wr hxo).mono ?_
     rintro e wa ⟨rfl,hxa⟩
     have hxwa:=hxo.trans hxa
     go_wp2_with fail
     go_at_call 80
     refine (HSJ.out wa hxwa).mono ?_
     rintro e wb ⟨rfl,hxb⟩
     have hxwb:=hxwa.trans hxb
     go_wp2_with (go_at_call 75;refine (HTX.out _ hxwb).mono ?_;rintro e wc ⟨rfl,hxc⟩;have hxwc:=hxwb.trans hxc)
     go_roundg (n - (i+1))
     case rel=>exact ⟨i+1,by omega,rfl,by rw [HST.out];exact congrArg Value.string (by rw [show (⟨#[32]⟩:ByteArray)=bts [32] from rfl,bts_append,bts_append]),by go_num,hxwc⟩
     case measure=>omega
    ·have HST := Lib.hid (show latL (fun i => cutT (L.getD i [])) (fun i => cutS (L.getD i [])) (i + 1) = ll ++ [10] ++ d ++ [58] ++ [32] ++ tx from by
       unfold latL
       rw [←hll,if_pos (.inr (by rw [HD.out.2.1,HDJ.out];omega)),if_pos (by omega),HD.out.1,HD.out.2.1,HD.out.2.2];simp)
     have hde:((sz:Int) != (sj:Int))=true:=by simp;omega
     have hde':(sz != sj)=true:=by simp [hne]
     have q0:¬9223372036854775807<ll.length+1:=by omega
     have q1:¬9223372036854775807<ll.length+1+d.length:=by omega
     have q2:¬9223372036854775807<ll.length+1+d.length+1:=by omega
     have q3:¬9223372036854775807<ll.length+1+d.length+1+1:=by omega
     have q4:¬9223372036854775807<ll.length+1+d.length+1+1+tx.length:=by omega
     clear hll hi0 hj hr hra hrn hrc hrg hro hrat hsz hne e1 e3 s1
     go_wp2_with fail
     go_at_call 80
     refine (HSI.out wr hxo).mono ?_
     rintro e wa ⟨rfl,hxa⟩
     have hxwa:=hxo.trans hxa
     go_wp2_with fail
     go_at_call 80
     refine (HSJ.out wa hxwa).mono ?_
     rintro e wb ⟨rfl,hxb⟩
     have hxwb:=hxwa.trans hxb
     go_wp2_with (first | (go_at_call 81;refine (HIT.out _).mono ?_;rintro e wc ⟨rfl,hxc⟩;have hxwc:=hxwb.trans hxc) | (go_at_call 75;refine (HTX.out _ hxwc).mono ?_;rintro e wd ⟨rfl,hxd⟩;have hxwd:=hxwc.trans hxd))
     go_roundg (n - (i+1))
     case rel=>exact ⟨i+1,by omega,rfl,by rw [HST.out];exact congrArg Value.string (by rw [show (⟨#[10]⟩:ByteArray)=bts [10] from rfl,show (⟨#[58]⟩:ByteArray)=bts [58] from rfl,show (⟨#[32]⟩:ByteArray)=bts [32] from rfl,bts_append,bts_append,bts_append,bts_append,bts_append]),by go_num,hxwd⟩
     case measure=>omega
  ·have hin':¬(i:Int)<(n:Int):=by omega
   obtain rfl:i=n:=by omega
   have q1:¬9223372036854775807<ll.length+1:=by omega
   have HLAT:=Lib.hid (show latT L=ll++[10] from by unfold latT;rw [hll,show L.length=i from by rw [HLR.out.1,List.length_map,HLR.out.2]])
   clear hll
   go_wp2_with fail
   go_ret
   exact ⟨by rw [HLAT.out];exact congrArg (fun z=>Ending.returned (Value.string z)) (bts_append ll [10]),hxo⟩
end Go.Proofs.YtmhapcnlpoilpaaGreatDoor

namespace Go.Proofs.YtmhapcnlpoilpaaGreatDoor
open Go.RowKit Go.Shelf
set_option maxHeartbeats 1000000 in
theorem klev_bad (w:World) (T:TM) (hT:T.At w) (hV:¬T.toTr.Valid):Calls Tryz.prog 169 #[T.val] w fun e w'=>Ext w w'∧e=.returned (.tuple #[.slice none 0 0,.int .i64 1]):=by
 have HVL:=Lib.hid (fun W (x:Ext w W)=>valid_any W T (hT.ext x))
 have HV:=Lib.hid hV
 simp only [TM.val] at HVL ⊢
 clear hT hV
 go_enter Tryz.func169,Tryz.ntmps169
 go_upto_region 1 with fail
 refine boxed1 (w:=w) (G:=fun x=>Code.wp _ _ _ _ x) ?_
 intro w1 hx1 hs1 ⟨l0,c0,_,_⟩
 have hx11:Ext w1 w1:=Ext.refl _
 clear hs1
 go_wp2_with fail
 go_at_call 35
 refine (HVL.out w1 hx1).mono ?_
 rintro e w2 ⟨b,rfl,hb,hx2⟩
 obtain rfl:b=false:=by
  cases b
  ·rfl
  ·exact absurd (hb.1 rfl) HV.out
 clear hb
 go_wp2_with fail
 go_ret2
 exact ⟨hx1.trans hx2,rfl⟩
set_option maxHeartbeats 1000000 in
theorem klist_bad (w:World) (T:TM) (hT:T.At w) (hV:¬T.toTr.Valid):Calls Tryz.prog 122 #[T.val] w fun e w'=>Ext w w'∧∃ v,e=.returned (.tuple #[v,.int .i64 1]):=by
 have HL:=Lib.hid (fun W (x:Ext w W)=>klev_bad W T (hT.ext x) hV)
 simp only [TM.val] at HL ⊢
 clear hT hV
 go_enter Tryz.func122,Tryz.ntmps122
 go_upto_region 1 with fail
 refine boxed1 (w:=w) (G:=fun x=>Code.wp _ _ _ _ x) ?_
 intro w1 hx1 hs1 ⟨l0,c0,_,_⟩
 have hx11:Ext w1 w1:=Ext.refl _
 clear hs1
 go_upto_region 2 with (go_at_call 169;refine (HL.out w1 hx1).mono ?_;rintro e w2 ⟨hx2,rfl⟩)
 have hcat:=kcat_any w2 0 (.slice none 0 0) [] (Que.nil _ _ _) (fun k hk=>absurd hk (Nat.not_lt_zero _)) (Nat.zero_le _)
 go_wp2_with (go_at_call 170;refine hcat.mono ?_;rintro e w3 ⟨hx3,v3,rfl,hq3⟩)
 go_ret2
 exact ⟨(hx1.trans hx2).trans hx3,v3,rfl⟩
set_option maxHeartbeats 1000000 in
theorem kList_bad (w:World) (T:TM) (hT:T.At w) (hV:¬T.toTr.Valid):Calls Tryz.prog 69 #[T.val] w fun e w'=>Ext w w'∧∃ v,e=.returned (.tuple #[v,.int .i64 1]):=by
 have HL:=Lib.hid (fun W (x:Ext w W)=>klist_bad W T (hT.ext x) hV)
 simp only [TM.val] at HL ⊢
 clear hT hV
 go_enter Tryz.func69,Tryz.ntmps69
 go_upto_region 1 with fail
 refine boxed1 (w:=w) (G:=fun x=>Code.wp _ _ _ _ x) ?_
 intro w1 hx1 hs1 ⟨l0,c0,_,_⟩
 have hx11:Ext w1 w1:=Ext.refl _
 clear hs1
 go_wp2_with (go_at_call 122;refine (HL.out w1 hx1).mono ?_;rintro e w2 ⟨hx2,v,rfl⟩)
 go_ret2
 exact ⟨hx1.trans hx2,v,rfl⟩
set_option maxHeartbeats 1000000 in
theorem dlat_bad (w:World) (T:TM) (hT:T.At w) (hV:¬T.toTr.Valid):Calls Tryz.prog 28 #[T.val] w fun e w'=>Ext w w'∧e=.returned (.tuple #[.string ⟨#[]⟩,.int .i64 1]):=by
 have HL:=Lib.hid (fun W (x:Ext w W)=>kList_bad W T (hT.ext x) hV)
 simp only [TM.val] at HL ⊢
 clear hT hV
 go_enter Tryz.func28,Tryz.ntmps28
 go_upto_region 1 with fail
 refine boxed1 (w:=w) (G:=fun x=>Code.wp _ _ _ _ x) ?_
 intro w1 hx1 hs1 ⟨l0,c0,_,_⟩
 have hx11:Ext w1 w1:=Ext.refl _
 clear hs1
 go_wp2_with (go_at_call 69;refine (HL.out w1 hx1).mono ?_;rintro e w2 ⟨hx2,v,rfl⟩)
 go_ret2
 exact ⟨hx1.trans hx2,rfl⟩
end Go.Proofs.YtmhapcnlpoilpaaGreatDoor
