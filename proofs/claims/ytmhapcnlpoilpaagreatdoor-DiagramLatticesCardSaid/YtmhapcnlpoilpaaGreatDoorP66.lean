/- Contracts and laws in plain Lean for RApp: group P66. -/
import Derived.Test.YtmhapcnlpoilpaaGreatDoorP64
import Derived.Test.YtmhapcnlpoilpaaGreatDoorP06
import Derived.Deep.LoopGhost
namespace Go.Proofs.YtmhapcnlpoilpaaGreatDoor
open Go.RowKit Go.Shelf
attribute [local go_sem] Oper.semAt_some
theorem infoIntsC:(Tryz.prog.info? 25).map (fun i=>(i.zero,i.size,i.bytes))=some (some (.slice none 0 0),1,24):=by kernel_rfl
theorem StS.madeC {w : World} {base g n : Nat} (h : w.ownsRow base 25 1 (.slice (some ⟨g, 0, none⟩) n n) n (madeCells (Value.slice none 0 0).cells (n * 1)).toList) (hn : n ≤ 100) :
    StS base g n (fun _=>[]) (fun _=>.slice none 0 0) w:=by
 obtain ⟨h1,⟨hv,_⟩ | ⟨g',cap,cur,hv,hg,hh,hc,hm,hs,ht⟩⟩:=h
 ·cases hv
 ·simp only [Value.slice.injEq,Option.some.injEq,Addr.mk.injEq] at hv
  obtain ⟨⟨rfl,_⟩,_,rfl⟩:=hv
  have hb:=Box.of hh
  have hz:(Value.slice none 0 0).cells=#[.slice none 0 0]:=rfl
  rw [hz,toList_madeCells_one] at ht
  refine ⟨hn,fun k hk=>?_,fun k=>?_,fun k _=>IntOwn.nil _ _,fun j k _ _ _ g e=>by simp [Value.ownBlock] at e,fun k _=>by simp [Value.ownBlock],fun k _=>by simp⟩
  ·rw [hb.cell w (Ext.refl _)]
   have:cur[k]?=(List.replicate (n*1) (Value.slice none 0 0))[k]?:=by rw [←ht,List.getElem?_take_of_lt (by omega)];simp
   rw [this,List.getElem?_replicate,if_pos (by omega)]
  ·exact hb.frozen w (Ext.refl _) k
def dec (rows:Nat→List Int):Nat→List Int:=fun k=>(rows k).map (· - 1)
theorem dec_len (rows:Nat→List Int) (k:Nat):(dec rows k).length=(rows k).length:=by simp [dec]
theorem dec_get (rows:Nat→List Int) (k i:Nat) (h:i<(rows k).length):(dec rows k).getD i 0=(rows k).getD i 0 - 1:=by
 simp [dec,List.getD_eq_getElem?_getD,h]
theorem dec_upd (rows:Nat→List Int) (p:Nat) (x:Int):updR (dec rows) p (dec rows p++[x - 1])=dec (updR rows p (rows p++[x])):=by
 funext k;unfold updR dec
 by_cases e:k=p
 ·subst e;simp
 ·simp [e]
open Classical in
theorem colV_yes {T : Tr} {rows : Nat → List Int} (hP : T.Part rows) {p : Nat} (hp : p < T.n) (hR : T.Ready rows p) (bS n cap : Nat) (vs : Nat → Value) :
    colV T (stMM bS n cap (dec rows) vs).toMx p=.tuple #[.int .i64 (T.next rows p - 1),.bool true]:=by
 have hl:(stMM bS n cap (dec rows) vs).rn p=(rows p).length:=dec_len rows p
 have hc:colC (stMM bS n cap (dec rows) vs).toMx p=if (rows p).length=0 then 0 else (rows p).getD ((rows p).length - 1) 0:=by
  unfold colC
  rw [hl]
  by_cases e:(rows p).length=0
  ·rw [if_pos e,if_pos e]
  ·rw [if_neg e,if_neg e]
   show (dec rows p).getD ((rows p).length - 1) 0+1=_
   rw [dec_get rows p _ (by omega)];omega
 have h0:0≤(if (rows p).length=0 then (0:Int) else (rows p).getD ((rows p).length - 1) 0):=by
  by_cases e:(rows p).length=0
  ·rw [if_pos e];exact Int.le_refl _
  ·rw [if_neg e];have:=hP.sm p ((rows p).length - 1) hp (by omega);omega
 unfold colV Tr.next
 rw [hl,hc]
 by_cases k3:T.kind p (rows p).length=3
 ·have h2:=hR.2 k3
  rw [if_pos k3,if_pos k3]
  have hl2:(stMM bS n cap (dec rows) vs).rn (T.sndN (p,(rows p).length)).1=(rows (T.sndN (p,(rows p).length)).1).length:=dec_len rows _
  rw [hl2,if_neg (by omega)]
  have hv:(stMM bS n cap (dec rows) vs).val (T.sndN (p,(rows p).length)).1 (T.sndN (p,(rows p).length)).2=(rows (T.sndN (p,(rows p).length)).1).getD (T.sndN (p,(rows p).length)).2 0 - 1:=dec_get rows _ _ h2
  rw [hv];congr 4;omega
 ·rw [if_neg k3,if_neg k3];congr 4;omega
open Classical in
theorem colV_no {T : Tr} {rows : Nat → List Int} {p : Nat} (hlt : (rows p).length < T.en p) (hR : ¬ T.Ready rows p) (bS n cap : Nat) (vs : Nat → Value) :
    colV T (stMM bS n cap (dec rows) vs).toMx p=.tuple #[.int .i64 0,.bool false]:=by
 have hl:(stMM bS n cap (dec rows) vs).rn p=(rows p).length:=dec_len rows p
 have k3:T.kind p (rows p).length=3:=Classical.byContradiction fun h=>hR ⟨hlt,fun h'=>absurd h' h⟩
 have hns:(rows (T.sndN (p,(rows p).length)).1).length≤(T.sndN (p,(rows p).length)).2:=Nat.le_of_not_lt fun h=>hR ⟨hlt,fun _=>h⟩
 have hl2:(stMM bS n cap (dec rows) vs).rn (T.sndN (p,(rows p).length)).1=(rows (T.sndN (p,(rows p).length)).1).length:=dec_len rows _
 unfold colV
 rw [hl,if_pos k3,hl2,if_pos hns]
structure Tr.Most (T:Tr) (rows:Nat→List Int) (m:Int):Prop where
 le:∀ k i,k<T.n→i<(rows k).length→(rows k).getD i 0≤m
 at':m=0∨∃ k i,k<T.n∧i<(rows k).length∧(rows k).getD i 0=m
theorem Tr.Most.push {T:Tr} {rows:Nat→List Int} {m:Int} (h:T.Most rows m) {p:Nat} (hp:p<T.n) (x:Int):T.Most (updR rows p (rows p++[x])) (max m x):=by
 have hlen:=updR_len rows p x
 have hold:∀ k i,i<(updR rows p (rows p++[x]) k).length→i<(rows k).length∨(k=p∧i=(rows p).length):=by
  intro k i hi;rw [hlen] at hi
  by_cases e:k=p
  ·subst e;rw [if_pos rfl] at hi;omega
  ·rw [if_neg e] at hi;omega
 refine ⟨fun k i hk hi=>?_,?_⟩
 ·rcases hold k i hi with hi | ⟨rfl,rfl⟩
  ·rw [updR_get rows p x k i hi];have:=h.le k i hk hi;omega
  ·rw [updR_last];omega
 ·by_cases hx:m≤x
  ·exact .inr ⟨p,(rows p).length,hp,by rw [hlen,if_pos rfl];omega,by rw [updR_last];omega⟩
  ·rcases h.at' with h0 | ⟨k,i,hk,hi,he⟩
   ·rw [show max m x=m by omega];exact .inl h0
   ·exact .inr ⟨k,i,hk,by rw [hlen];omega,by rw [updR_get rows p x k i hi,he];omega⟩
structure ColI (T:TM) (w:World) (rows:Nat→List Int) (m:Int) (wr:World):Prop where
 st:∃ vs,StS w.heap.size w.heap.size T.n (dec rows) vs wr
 bl:Ext w wr
 pt:T.toTr.Part rows
 ms:T.toTr.Most rows m
structure ColX (T:TM) (w:World) (bx:Nat) (cx:Array Value) (vs:Nat→Value) (rows:Nat→List Int) (m:Int) (wr:World):Prop where
 st:StS w.heap.size w.heap.size T.n (dec rows) vs wr
 off:∀ k,k<T.n→(vs k).ownBlock≠some bx
 hx:Hold wr bx cx
 bl:Ext w wr
 pt:T.toTr.Part rows
 ms:T.toTr.Most rows m
theorem ColX.ext {T:TM} {w wr w':World} {bx:Nat} {cx:Array Value} {vs:Nat→Value} {rows:Nat→List Int} {m:Int} (h:ColX T w bx cx vs rows m wr) (h0:0<T.n) (x:Ext wr w'):ColX T w bx cx vs rows m w':=
 ⟨h.st.ext h0 x,h.off,h.hx.ext x,h.bl.trans x,h.pt,h.ms⟩
theorem ColX.push {T : TM} {w wr w' : World} {bx : Nat} {cx : Array Value} {vs : Nat → Value} {rows : Nat → List Int} {m : Int} (h : ColX T w bx cx vs rows m wr) (hb : w.heap.size < bx) {p : Nat} (hp : p < T.n) (hR : T.toTr.Ready rows p) (hl : (rows p).length < 1000000)
    {c:Int} (hc:c=T.toTr.next rows p - 1) {v':Value} {cc:Array Value} {t:TypeId} (hown:w'.ownsRow w.heap.size 3 1 v' ((dec rows p).length+1) (intCells (dec rows p)++[.int .i64 c])) (hg:(wr.alloc (.cells cc t)).grownBy w' (vs p).ownBlock) (hat:v'.ownBlock=(vs p).ownBlock∨v'.ownBlock=some (wr.alloc (.cells cc t)).heap.size) :
    ColX T w bx cx (updV vs p v') (updR rows p (rows p++[T.toTr.next rows p])) (max m (T.toTr.next rows p)) (w'.setCell ⟨w.heap.size,p,none⟩ v')∧w'.cell? ⟨w.heap.size,p,none⟩=some (vs p)∧w'.frozen? ⟨w.heap.size,p,none⟩=false:=by
 have P:=h.st.push hp (Nat.le_refl _) h.bl.le (by rw [dec_len];exact hl) hown hg hat
 have hbl:bx<wr.heap.size:=h.hx.lt
 have hbx:w'.heap[bx]?=wr.heap[bx]?:=by
  rw [hg.block bx (by rw [World.size_alloc];omega) (fun e=>h.off p hp e.symm),Below.heap_alloc _ _ _ hbl]
 refine ⟨⟨?_,fun k hk=>?_,?_,Below.trans h.bl P.2.1,h.pt.push hp hR,h.ms.push hp _⟩,P.2.2.1,P.2.2.2⟩
 ·rw [←dec_upd,←hc];exact P.1
 ·by_cases e:k=p
  ·subst e;simp only [updV,if_true]
   rcases hat with e' | e'
   ·rw [e'];exact h.off k hk
   ·rw [e'];simp;omega
  ·simp only [updV,e,if_false];exact h.off k hk
 ·obtain ⟨t',ht⟩:=h.hx
  exact Hold.other ⟨t',hbx.trans ht⟩ _ _ (by show bx≠w.heap.size;omega)
theorem ColX.toI {T:TM} {w wr:World} {bx:Nat} {cx:Array Value} {vs:Nat→Value} {rows:Nat→List Int} {m:Int} (h:ColX T w bx cx vs rows m wr):ColI T w rows m wr:=⟨⟨_,h.st⟩,h.bl,h.pt,h.ms⟩
def ColsPost (T:TM) (w:World) (e:Ending) (w':World):Prop:=Ext w w'∧
 ∃ base rows vs m,w.heap.size≤base∧e=.returned (.tuple #[.slice (some ⟨base,0,none⟩) T.n T.n,.int .i64 m])∧StS base base T.n (dec rows) vs w'∧T.toTr.Stamps rows∧T.toTr.Most rows m
set_option maxRecDepth 100000 in
set_option maxHeartbeats 4000000 in
theorem columns_any (w : World) (T : TM) (hT : T.At w) (hV : T.toTr.Valid) :
    Calls Tryz.prog 36 #[T.val] w (ColsPost T w):=by
 have hn1:=hV.n1
 have hn8:=hV.n8
 have pa:=hT.P.pa (by omega)
 obtain ⟨i0,hi0,hz0,hz1,hz2⟩:=info_parts infoIntsC
 obtain ⟨j0,hj0,hy0,hy1,hy2⟩:=info_parts infoInt
 have HE:=Lib.hid (show ∀ q,q<T.n→T.en q≤64 from fun q hq=>by have:=(hV.pr q hq).2.2.2.2;omega)
 simp only [TM.val,pa]
 go_enter Tryz.func36,Tryz.ntmps36
 go_upto_region 1 with fail
 refine boxed1 (w:=w) (G:=fun x=>Code.wp _ _ _ _ x) ?_
 intro w1 hx1 hs1 ⟨l0,c0,_,_⟩
 have hx11:Ext w1 w1:=Ext.refl _
 have pb:=hT.P.pb (by omega)
 have HT:=Lib.hid hT
 have HV:=Lib.hid hV
 clear hs1 hT hV
 go_upto_region 2 with (at_make;refine wpList_make_full _ rfl _ _ 28 rfl w1.heap.size 25 i0 (.slice none 0 0) 1 Tryz.underlying28 hi0 hz0 hz1 .i64 .i64 _ _ T.n rfl rfl rfl rfl (by rw [hz2];omega) (by unfold maxLen;omega) (Nat.le_refl _) ?_;intro w3 hown3 hg3)
 have hx3:Ext w1 w3:=(Below.refl _ _).grown hg3 (Nat.le_refl _) (by simp)
 have HI0:=Lib.hid (ColI.mk (T:=T) (w:=w1) (rows:=fun _=>[]) (m:=0) (wr:=w3) ⟨_,StS.madeC hown3 (by omega)⟩ hx3 (Tr.Part.nil _) ⟨fun k i _ h=>absurd h (by simp),.inl rfl⟩)
 clear hown3 hg3
 go_wp2_with fail
 go_loopg [5,6] (T.toTr.left (fun _=>[])+1) (fun gg v5 v6 wr=>∃ (mv:Bool) (rows:Nat→List Int) (m:Int),v5=.int .i64 m∧v6=.bool mv∧ColI T w1 rows m wr∧(mv=true→T.toTr.left rows<gg)∧(mv=false→∀ p,p<T.n→¬T.toTr.Ready rows p))
 case atStart=>exact ⟨true,_,0,rfl,rfl,HI0.out,fun _=>Nat.lt_succ_self _,fun h=>by cases h⟩
 case round=>
  obtain ⟨mv,rows,m,rfl,rfl,hI,hm1,hm2⟩:=hrel
  have hxr:=hI.bl
  have hxwr:=hx1.trans hxr
  have HI:=Lib.hid hI
  cases mv with
  | false =>
   have HS:=Lib.hid (hI.pt.full HV.out (hm2 rfl))
   clear hI hm1 hm2
   go_wp2_with fail
   go_ret2
   obtain ⟨vs,hs⟩:=HI.out.st
   exact ⟨hxwr,_,rows,vs,m,hx1.le,rfl,hs,HS.out,HI.out.ms⟩
  | true =>
   have HM:=Lib.hid (hm1 rfl)
   clear hI hm1 hm2
   go_wp2_with fail
   go_loopg [5,6,19] T.n (fun gg v5 v6 v19 wi=>∃ (mv:Bool) (r2:Nat→List Int) (m:Int) (p:Nat),v5=.int .i64 m∧v6=.bool mv∧v19=.int .i64 p∧p≤T.n∧gg=T.n - p∧ColI T w1 r2 m wi∧T.toTr.left r2≤T.toTr.left rows∧(mv=true→T.toTr.left r2<T.toTr.left rows)∧(mv=false→∀ q,q<p→¬T.toTr.Ready r2 q))
   case atStart=>exact ⟨false,rows,m,0,rfl,rfl,rfl,by omega,rfl,HI.out,Nat.le_refl _,(fun h=>by cases h),fun _ q hq=>by omega⟩
   case round=>
    obtain ⟨mv,r2,m,p,rfl,rfl,rfl,hp,rfl,hI,hm0,hm1,hm2⟩:=hrel
    have HM0:=Lib.hid hm0
    have hxi:=hI.bl
    have hxwi:=hx1.trans hxi
    have HI2:=Lib.hid hI
    have HM1:=Lib.hid hm1
    have HM2:=Lib.hid hm2
    clear hI hm0 hm1 hm2
    by_cases hpn:p<T.n
    ·have hpn':(p:Int)<(T.n:Int):=by omega
     have hen:=HE.out p hpn
     have p0:∀ w',Ext w w'→w'.cell? ⟨T.b,T.off+p*3,none⟩=some (.string (T.name p)):=fun w' h=>HT.out.P.p0 w' h p hpn
     have p1:∀ w',Ext w w'→w'.cell? ⟨T.b,T.off+p*3+1,none⟩=some (.slice (T.va p) (T.vn p) (T.vc p)):=fun w' h=>HT.out.P.p1 w' h p hpn
     have p2:∀ w',Ext w w'→w'.cell? ⟨T.b,T.off+p*3+2,none⟩=some (.slice (T.ea p) (T.en p) (T.ec p)):=fun w' h=>HT.out.P.p2 w' h p hpn
     go_wp2_with fail
     refine boxed1 (w:=wr) (G:=fun x=>Code.wp _ _ _ _ x) ?_
     intro w5 hx5 hs5 ⟨l5,c5,f5,k5⟩
     have hx15:=hxi.trans hx5
     have hxw5:=hx1.trans hx15
     have hx55:Ext w5 w5:=Ext.refl _
     have HX0:=Lib.hid (show ∃ vs,ColX T w1 wr.heap.size _ vs r2 m w5 from by
      obtain ⟨vs,hst⟩:=HI2.out.st
      exact ⟨vs,hst.ext (by omega) hx5,(fun k hk e=>by have:=(hst.own k hk).lt _ e;omega),k5,hx15,HI2.out.pt,HI2.out.ms⟩)
     clear hs5 k5 c5 f5 l5 p0 p1 p2
     obtain ⟨bx,hbx⟩:∃ z,z=wr.heap.size:=⟨_,rfl⟩
     rw [←hbx] at HX0 ⊢
     have hbxg:w1.heap.size<bx:=by
      obtain ⟨vs,hst⟩:=HI2.out.st
      rw [hbx];exact cell_lt (hst.cell p hpn)
     clear hbx
     go_loopg [5,6] (T.toTr.left r2) (fun gg v5 v6 wx=>∃ (mv:Bool) (r3:Nat→List Int) (m:Int) (vs:Nat→Value),v5=.int .i64 m∧v6=.bool mv∧gg=T.toTr.left r3∧ColX T w1 bx #[.string (T.name p),.slice (T.va p) (T.vn p) (T.vc p),.slice (T.ea p) (T.en p) (T.ec p)] vs r3 m wx∧T.toTr.left r3≤T.toTr.left rows∧(mv=true→T.toTr.left r3<T.toTr.left rows)∧(mv=false→∀ q,q<p→¬T.toTr.Ready r3 q))
     case atStart=>
      obtain ⟨vs,hX⟩:=HX0.out
      exact ⟨mv,r2,m,vs,rfl,rfl,rfl,hX,HM0.out,HM1.out,HM2.out⟩
     case round=>
      obtain ⟨mv,r3,m,vs,rfl,rfl,rfl,hX,hm0,hm1,hm2⟩:=hrel
      have HM0:=Lib.hid hm0
      have HX:=Lib.hid hX
      have HM1:=Lib.hid hm1
      have HM2:=Lib.hid hm2
      have hxx:=hX.bl
      have hxwx:=hx1.trans hxx
      have hfo:vs p=.slice (vAddr (vs p)) (r3 p).length (vCap (vs p)):=by
       have h1:=(hX.st.own p hpn).form.1
       rwa [dec_len] at h1
      obtain ⟨av,hav⟩:∃ z,z=vAddr (vs p):=⟨_,rfl⟩
      obtain ⟨cv,hcv⟩:∃ z,z=vCap (vs p):=⟨_,rfl⟩
      obtain ⟨ln,hln⟩:∃ z,z=(r3 p).length:=⟨_,rfl⟩
      have hvs:vs p=.slice av ln cv:=by rw [hav,hcv,hln];exact hfo
      have sp:∀ w',Ext wr w'→w'.cell? ⟨w1.heap.size,p,none⟩=some (.slice av ln cv):=fun w' x=>by rw [←hvs];exact x.cell (hX.st.cell p hpn)
      have sb:∀ w',Ext wr w'→w1.heap.size<w'.heap.size:=fun w' x=>Nat.lt_of_lt_of_le (cell_lt (hX.st.cell p hpn):w1.heap.size<wr.heap.size) x.le
      obtain ⟨l6,c6,_,_⟩:=hX.hx.box
      have hrr:Ext wr wr:=Ext.refl _
      have hlle:=hX.pt.le p hpn
      rw [←hln] at hlle
      have HVS:=Lib.hid hvs
      have HLN:=Lib.hid hln
      clear hX hm0 hm1 hm2 hfo hav hcv hvs hln
      go_upto_region 9 with fail
      go_quiet (fail)
      generalize hw7:wr.drewN nq=w7
      have hx7:Ext wr w7:=by rw [←hw7];exact hrr.drewN nq
      have HX7:=Lib.hid (HX.out.ext (by omega) hx7)
      have hxw7:=hxwx.trans hx7
      have hx17:=hxx.trans hx7
      have h77:Ext w7 w7:=Ext.refl _
      clear hw7 HX sp sb c6 l6 hrr
      by_cases hlt:ln<T.en p
      ·have d1:decide (ln<T.en p)=true:=decide_eq_true hlt
       have hlt3:(r3 p).length<T.en p:=by rw [←HLN.out];exact hlt
       have hC:=column_any w7 T (HT.out.ext hxw7) HV.out (stMM w1.heap.size T.n T.n (dec r3) vs) (HX7.out.st.mm) rfl (fun k i hk hi=>by
        have hi' : i < (r3 k).length := by have : (stMM w1.heap.size T.n T.n (dec r3) vs).rn k = (r3 k).length := dec_len r3 k
                                           omega
        have h1:=HX7.out.pt.small hn8 (fun q hq=>by have:=HE.out q hq;omega) k i hk hi'
        have h2:=HX7.out.pt.sm k i hk hi'
        show 0≤(dec r3 k).getD i 0∧_
        have h3:(stMM w1.heap.size T.n T.n (dec r3) vs).val k i=(r3 k).getD i 0 - 1:=dec_get r3 k i hi'
        rw [h3];rw [dec_get r3 k i hi'];omega) p hpn (by rw [show (stMM w1.heap.size T.n T.n (dec r3) vs).rn p=(r3 p).length from dec_len r3 p];exact hlt3)
       simp only [TM.val,pa] at hC
       by_cases hR:T.toTr.Ready r3 p
       ·rw [colV_yes HX7.out.pt hpn hR] at hC
        obtain ⟨c,hc⟩:∃ c,c=T.toTr.next r3 p - 1:=⟨_,rfl⟩
        rw [←hc] at hC
        have hcb:0≤c∧c<1000000000:=by
         have h1:=(HX7.out.pt.push hpn hR).small hn8 (fun q hq=>by have:=HE.out q hq;omega) p (r3 p).length hpn (by rw [updR_len,if_pos rfl];omega)
         have h2:=(HX7.out.pt.push hpn hR).sm p (r3 p).length hpn (by rw [updR_len,if_pos rfl];omega)
         rw [updR_last] at h1 h2
         omega
        have HC:=Lib.hid hC
        have HCC:=Lib.hid hc
        have HR:=Lib.hid hR
        clear hC hc hR
        go_upto_region 12 with (go_at_call 84;refine HC.out.mono ?_;rintro e w8 ⟨rfl,hx8⟩)
        have HX8:=Lib.hid (HX7.out.ext (by omega) hx8)
        have h88:Ext w8 w8:=Ext.refl _
        have hx18:=hx17.trans hx8
        have sp:∀ w',Ext w8 w'→w'.cell? ⟨w1.heap.size,p,none⟩=some (.slice av ln cv):=fun w' x=>by rw [←HVS.out];exact x.cell (HX8.out.st.cell p hpn)
        have sb:∀ w',Ext w8 w'→w1.heap.size<w'.heap.size:=fun w' x=>Nat.lt_of_lt_of_le (cell_lt (HX8.out.st.cell p hpn):w1.heap.size<w8.heap.size) x.le
        have HOW:=Lib.hid (show ∀ W,Ext w8 W→W.ownsRow w1.heap.size 3 1 (.slice av ln cv) ln (intCells (dec r3 p)) from fun W x=>by
         have h1:=(HX8.out.st.own p hpn).kept x
         rw [HVS.out] at h1;unfold IntOwn at h1;rwa [dec_len,←HLN.out] at h1)
        have HPU:=Lib.hid (fun w' v'=>ColX.push (w':=w') (v':=v') (cc:=#[.int .i64 c]) (t:=3) HX8.out hbxg hpn HR.out (by omega) HCC.out)
        have hwc:IntKind.i64.wrap (c+1)=c+1:=IntWalk.i64_in _ (by omega)
        have hmb:w1.heap.size≤w8.heap.size:=(HX8.out.bl).le
        clear hx7 h77 hx17 hxw7
        go_upto_region 13 with (at_builtin;refine wpList_append_own_at _ rfl _ _ 25 rfl w1.heap.size 3 j0 (.int .i64 0) 1 8 Tryz.underlying25 hj0 hy0 hy1 hy2 rfl (by decide) _ ln (intCells (dec r3 p)) rfl (by exact HOW.out _ (h88.alloc' _)) ⟨w8.heap.size,0,none⟩ 1 1 [.int .i64 c] rfl rfl (by exact news_ok _ [_] _) (by intro u hu;simp at hu;subst hu;rfl) (by unfold maxLen;omega) (by omega) (by simp;omega) ?_;rintro v8 w9 hown9 hg9 - hat9;obtain ⟨a9,c9,hv9⟩:=own_slice hown9;subst hv9;have P9:=HPU.out w9 _ (by rw [dec_len,←HLN.out];exact hown9) (by rw [HVS.out];exact hg9) (by rw [HVS.out];exact hat9);have q1:=P9.2.1;have q2:=P9.2.2;rw [HVS.out] at q1;have HP9:=Lib.hid P9.1;clear P9 hown9 hg9 hat9)
        have HL:=Lib.hid (HX8.out.pt.left hpn HR.out)
        go_wp2_with fail
        all_goals go_roundg (T.toTr.left (updR r3 p (r3 p++[T.toTr.next r3 p])))
        case rel=>exact ⟨true,_,max m (T.toTr.next r3 p),_,congrArg (Value.int .i64) (by have:=HCC.out;omega),rfl,rfl,HP9.out,Nat.le_trans (Nat.le_of_lt HL.out) HM0.out,(fun _=>Nat.lt_of_lt_of_le HL.out HM0.out),fun h=>by cases h⟩
        case measure=>exact HL.out
        case rel=>exact ⟨true,_,max m (T.toTr.next r3 p),_,congrArg (Value.int .i64) (by have:=HCC.out;omega),rfl,rfl,HP9.out,Nat.le_trans (Nat.le_of_lt HL.out) HM0.out,(fun _=>Nat.lt_of_lt_of_le HL.out HM0.out),fun h=>by cases h⟩
        case measure=>exact HL.out
       ·rw [colV_no hlt3 hR] at hC
        have HC:=Lib.hid hC
        have HR:=Lib.hid hR
        clear hC hR
        go_wp2_with (go_at_call 84;refine HC.out.mono ?_;rintro e w8 ⟨rfl,hx8⟩)
        go_roundg (T.n - (p+1))
        case rel=>exact ⟨mv,r3,m,p+1,rfl,rfl,by go_num,by omega,rfl,(HX7.out.ext (by omega) hx8).toI,HM0.out,HM1.out,fun h q hq=>by
         rcases Nat.lt_or_ge q p with h' | h'
         ·exact HM2.out h q h'
         ·obtain rfl:q=p:=by omega
          exact HR.out⟩
        case measure=>omega
      ·have d1:decide (ln<T.en p)=false:=decide_eq_false hlt
       go_wp2_with fail
       go_roundg (T.n - (p+1))
       case rel=>exact ⟨mv,r3,m,p+1,rfl,rfl,by go_num,by omega,rfl,HX7.out.toI,HM0.out,HM1.out,fun h q hq=>by
        rcases Nat.lt_or_ge q p with h' | h'
        ·exact HM2.out h q h'
        ·obtain rfl:q=p:=by omega
         exact fun hr=>hlt (by rw [HLN.out];exact hr.1)⟩
       case measure=>omega
    ·have hpn':¬(p:Int)<(T.n:Int):=by omega
     go_wp2_with fail
     go_roundg (if mv then T.toTr.left r2+1 else 0)
     case rel=>exact ⟨mv,r2,m,rfl,rfl,HI2.out,fun h=>by rw [h];simp,fun h q hq=>HM2.out h q (by omega)⟩
     case measure=>
      have h1:=HM.out
      cases mv with
      | true => have:=HM1.out rfl;simp;omega
      | false => simp;omega
end Go.Proofs.YtmhapcnlpoilpaaGreatDoor
