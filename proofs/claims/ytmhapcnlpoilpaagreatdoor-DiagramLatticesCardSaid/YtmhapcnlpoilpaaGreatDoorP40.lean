/- Contracts and laws in plain Lean for RApp: group P40. -/
import Derived.Test.YtmhapcnlpoilpaaGreatDoorP01
import Derived.Shelf.SlSortCmp.InsertionK
import Derived.Lib.Small
import Derived.Test.YtmhapcnlpoilpaaGreatDoorP38
import Derived.Lib.SliceRun
import Derived.Laws.IdiomCopy
import Derived.Lib.LazyBuf
import Derived.BigFrame
set_option maxRecDepth 100000
namespace Go.Proofs.YtmhapcnlpoilpaaGreatDoor
open Go.RowKit Go.Shelf
set_option maxHeartbeats 1000000 in
theorem isNaN_any (a:Int) (w:World):Calls Tryz.prog 197 #[.int .i64 a] w fun e w'=>e=.returned (.bool false)∧w=w':=by
 go_enter Tryz.func197,Tryz.ntmps197
 go_wp2
 go_ret
 exact ⟨by simp,rfl⟩
set_option maxHeartbeats 1000000 in
theorem cmpInt_any (a b:Int) (w:World):Calls Tryz.prog 162 #[.int .i64 a,.int .i64 b] w fun e w'=>e=.returned (.int .i64 (Lib.compareInt a b))∧w=w':=by
 unfold Lib.compareInt
 by_cases h:a<b
 ·rw [if_pos h]
  go_enter Tryz.func162,Tryz.ntmps162
  go_wp2_with (go_at_call 197;refine (isNaN_any _ _).mono ?_;rintro e w' ⟨rfl,rfl⟩)
  go_ret
  exact ⟨rfl,rfl⟩
 ·rw [if_neg h]
  by_cases h2:a > b
  ·rw [if_pos h2]
   go_enter Tryz.func162,Tryz.ntmps162
   go_wp2_with (go_at_call 197;refine (isNaN_any _ _).mono ?_;rintro e w' ⟨rfl,rfl⟩)
   go_ret
   exact ⟨rfl,rfl⟩
  ·rw [if_neg h2]
   go_enter Tryz.func162,Tryz.ntmps162
   go_wp2_with (go_at_call 197;refine (isNaN_any _ _).mono ?_;rintro e w' ⟨rfl,rfl⟩)
   go_ret
   exact ⟨rfl,rfl⟩
set_option maxHeartbeats 1000000 in
theorem cmpOr_any (w : World) (g : Nat) (x y : Int) (c0 : w.cell? ⟨g, 0, none⟩ = some (.int .i64 x)) (c1 : w.cell? ⟨g, 1, none⟩ = some (.int .i64 y)) :
    Calls Tryz.prog 161 #[.slice (some ⟨g,0,none⟩) 2 2] w fun e w'=>e=.returned (.int .i64 (if (x != 0)=true then x else y))∧w=w':=by
 cases hx:(x != 0) with
 | true =>
  rw [if_pos rfl]
  go_enter Tryz.func161,Tryz.ntmps161
  go_wp2
  refine wp_loop_rounds 1 ?_
  rw [rounds_succ]
  go_wp2
  go_ret
  exact ⟨rfl,rfl⟩
 | false =>
  rw [if_neg (by simp)]
  cases hy:(y != 0) with
  | true =>
   go_enter Tryz.func161,Tryz.ntmps161
   go_wp2
   refine wp_loop_rounds 2 ?_
   rw [rounds_succ]
   go_wp2
   rw [rounds_succ]
   go_wp2
   go_ret
   exact ⟨rfl,rfl⟩
  | false =>
   have hy0:y=0:=by simpa using hy
   have HY:=Lib.hid hy0
   clear hy0
   go_enter Tryz.func161,Tryz.ntmps161
   go_wp2
   refine wp_loop_rounds 3 ?_
   rw [rounds_succ]
   go_wp2
   rw [rounds_succ]
   go_wp2
   rw [rounds_succ]
   go_wp2
   go_ret
   exact ⟨ret_int HY.out.symm,rfl⟩
open Classical in
noncomputable def cmpN (n:Nat) (u v:Nat→Nat):Int:=if lexP n u v then -1 else if lexP n v u then 1 else 0
theorem cmpN_lt {n:Nat} {u v:Nat→Nat} (h:lexP n u v):cmpN n u v=-1:=by unfold cmpN;rw [if_pos h]
theorem lexP_asymm {n:Nat} {u v:Nat→Nat} (h:lexP n u v):¬lexP n v u:=fun k=>lexP_irrefl n u (lexP_trans h k)
theorem cmpN_gt {n:Nat} {u v:Nat→Nat} (h:lexP n v u):cmpN n u v=1:=by unfold cmpN;rw [if_neg (lexP_asymm h),if_pos h]
theorem cmpN_eq {n:Nat} {u v:Nat→Nat} (h:∀ q,q<n→u q=v q):cmpN n u v=0:=by
 unfold cmpN
 rw [if_neg,if_neg]
 ·rintro ⟨p,hp,_,h2⟩;have:=h p hp;omega
 ·rintro ⟨p,hp,_,h2⟩;have:=h p hp;omega
theorem cmpN_neg {n:Nat} {u v:Nat→Nat}:cmpN n u v<0↔lexP n u v:=by
 unfold cmpN
 split
 ·next h=>exact ⟨fun _=>h,fun _=>by decide⟩
 ·next h=>exact ⟨fun k=>by split at k <;> omega,fun k=>absurd k h⟩
set_option maxHeartbeats 1000000 in
theorem cmpr_any (w : World) (a1 a2 : Option Addr) (g1 o1 g2 o2 n c1 c2 : Nat) (u v : Nat → Nat) (h1 : NumAt w n a1 g1 o1 (natV u)) (h2 : NumAt w n a2 g2 o2 (natV v)) :
    Calls Tryz.prog 164 #[.slice a1 n c1,.slice a2 n c2] w fun e w'=>e=.returned (.int .i64 (cmpN n u v))∧w=w':=by
 have hn1:=h1.hn
 have H1:=Lib.hid h1
 have H2:=Lib.hid h2
 have hww:Ext w w:=Ext.refl _
 obtain ⟨r,hr⟩:∃ r,r=cmpN n u v:=⟨_,rfl⟩
 have HR:=Lib.hid hr
 rw [←hr]
 clear h1 h2 hr
 go_enter Tryz.func164,Tryz.ntmps164
 go_wp2_with fail
 go_loopg [11] n (fun gg v11 wr=>∃ k:Nat,k≤n∧gg=n - k∧v11=.int .i64 k∧wr=w∧∀ i,i<k→u i=v i)
 case atStart=>exact ⟨0,by omega,rfl,rfl,rfl,fun i h=>by omega⟩
 case round=>
  obtain ⟨k,hk,rfl,rfl,rfl,hall⟩:=hrel
  have HA:=Lib.hid hall
  clear hall
  by_cases hlt:k<n
  ·have hlt':(k:Int)<(n:Int):=by omega
   obtain rfl:=H1.out.pa (by omega)
   obtain rfl:=H2.out.pa (by omega)
   have pb1:∀ w',Ext wr w'→g1<w'.heap.size:=fun w' x=>Nat.lt_of_lt_of_le (H1.out.pb (by omega)) x.le
   have pb2:∀ w',Ext wr w'→g2<w'.heap.size:=fun w' x=>Nat.lt_of_lt_of_le (H2.out.pb (by omega)) x.le
   obtain ⟨x,hx⟩:∃ x,x=u k:=⟨_,rfl⟩
   obtain ⟨y,hy⟩:∃ y,y=v k:=⟨_,rfl⟩
   have p1:∀ w',Ext wr w'→w'.cell? ⟨g1,o1+k,none⟩=some (.int .i64 (x:Int)):=fun w' h=>by rw [hx];exact h.cell (H1.out.c k hlt)
   have q1:∀ w',Ext wr w'→w'.cell? ⟨g2,o2+k,none⟩=some (.int .i64 (y:Int)):=fun w' h=>by rw [hy];exact h.cell (H2.out.c k hlt)
   have HX:=Lib.hid (And.intro hx hy)
   have hc:=cmpInt_any (x:Int) (y:Int) wr
   unfold Lib.compareInt at hc
   clear hx hy
   rcases Nat.lt_trichotomy x y with e | e | e
   ·rw [if_pos (by omega)] at hc
    have HL:=Lib.hid (show r=-1 from by rw [HR.out];exact cmpN_lt ⟨k,hlt,HA.out,by rw [←HX.out.1,←HX.out.2];exact e⟩)
    clear e
    go_wp2_with fail
    go_at_call 162
    refine hc.mono ?_
    rintro e w2 ⟨rfl,rfl⟩
    clear hc
    go_wp2_with fail
    go_ret
    exact ⟨ret_int HL.out.symm,rfl⟩
   ·subst e
    rw [if_neg (by omega),if_neg (by omega)] at hc
    go_wp2_with fail
    go_at_call 162
    refine hc.mono ?_
    rintro e w2 ⟨rfl,rfl⟩
    clear hc
    go_wp2_with fail
    go_roundg (n - (k+1))
    case rel=>exact ⟨k+1,by omega,rfl,by go_num,rfl,fun i hi=>by
     by_cases e:i=k
     ·subst e;rw [←HX.out.1,←HX.out.2]
     ·exact HA.out i (by omega)⟩
    case measure=>omega
   ·rw [if_neg (by omega),if_pos (by omega)] at hc
    have HL:=Lib.hid (show r=1 from by rw [HR.out];exact cmpN_gt ⟨k,hlt,fun q hq=>(HA.out q hq).symm,by rw [←HX.out.1,←HX.out.2];exact e⟩)
    clear e
    go_wp2_with fail
    go_at_call 162
    refine hc.mono ?_
    rintro e w2 ⟨rfl,rfl⟩
    clear hc
    go_wp2_with fail
    go_ret
    exact ⟨ret_int HL.out.symm,rfl⟩
  ·obtain rfl:k=n:=by omega
   have HL:=Lib.hid (show r=0 from by rw [HR.out];exact cmpN_eq HA.out)
   go_wp2_with fail
   go_ret
   exact ⟨ret_int HL.out.symm,rfl⟩
set_option maxHeartbeats 400000 in
theorem nxt1_any (w : World) (a1 a2 : Option Addr) (g1 o1 g2 o2 n c1 c2 : Nat) (u v : Nat → Nat) (h1 : NumAt w n a1 g1 o1 (natV u)) (h2 : NumAt w n a2 g2 o2 (natV v)) :
    Calls Tryz.prog 226 #[.slice a1 n c1,.slice a2 n c2] w fun e w'=>e=.returned (.int .i64 (cmpN n u v))∧w=w':=by
 have hc:=cmpr_any w a1 a2 g1 o1 g2 o2 n c1 c2 u v h1 h2
 generalize cmpN n u v=r at hc ⊢
 clear h1 h2
 go_enter Tryz.func226,Tryz.ntmps226
 go_wp2_with fail
 go_at_call 164
 refine hc.mono ?_
 rintro e w2 ⟨rfl,rfl⟩
 go_wp2_with fail
 go_ret
 exact ⟨rfl,rfl⟩
set_option maxHeartbeats 400000 in
theorem nxt2_any (w : World) (a1 a2 : Option Addr) (g1 o1 g2 o2 n c1 c2 : Nat) (u v : Nat → Nat) (h1 : NumAt w n a1 g1 o1 (natV u)) (h2 : NumAt w n a2 g2 o2 (natV v)) :
    Calls Tryz.prog 228 #[.slice a1 n c1,.slice a2 n c2] w (BoolPost (∀ q,q<n→u q=v q) w):=by
 have hc:Calls Tryz.prog 167 #[.slice a1 n c1,.slice a2 n c2] w (BoolPost (∀ q,q<n→u q=v q) w):=(eqi_any w a1 a2 g1 o1 g2 o2 n n c1 c2 (natV u) (natV v) h1 h2).mono fun e w' ⟨b,he,hb,hx⟩=>⟨b,he,hb.trans ⟨fun h q hq=>Int.ofNat.inj (h.2 q hq),fun h=>⟨rfl,fun q hq=>congrArg Int.ofNat (h q hq)⟩⟩,hx⟩
 clear h1 h2
 go_enter Tryz.func228,Tryz.ntmps228
 go_wp2_with fail
 go_at_call 167
 refine hc.mono ?_
 rintro e w2 ⟨b,rfl,hb,hx2⟩
 have HB:=Lib.hid hb
 clear hc hb
 go_wp2_with fail
 go_ret
 exact ⟨b,rfl,HB.out,hx2⟩
end Go.Proofs.YtmhapcnlpoilpaaGreatDoor

namespace Go.Proofs.YtmhapcnlpoilpaaGreatDoor
open Go.RowKit Go.Shelf
def RowsH (w:World) (base:Nat) (v:Value) (R:List Row):Prop:=
 (R=[]∧∃ a c,v=.slice a 0 c)∨∃ g off cap,v=.slice (some ⟨g,off,none⟩) R.length cap∧R.length≤cap∧base≤g∧g<w.heap.size∧∀ j (hj:j<R.length),w.cell? ⟨g,off+j,none⟩=some R[j].val∧w.frozen? ⟨g,off+j,none⟩=false
structure OnlyIn (w w':World) (base:Nat) (v:Value):Prop where
 below:Below base w w'
 block:∀ b,b<w.heap.size→v.ownBlock≠some b→w'.heap[b]?=w.heap[b]?
 size:w.heap.size≤w'.heap.size
theorem OnlyIn.refl (w:World) (base:Nat) (v:Value):OnlyIn w w base v:=⟨Below.refl _ _,fun _ _ _=>rfl,Nat.le_refl _⟩
theorem OnlyIn.row {w w':World} {base:Nat} {v:Value} (h:OnlyIn w w' base v) {r:Row} (hr:r.At w) (h0:0<r.l.length) (ha:v.ownBlock≠some r.g):r.At w':=NumAt.blk hr (h.block r.g (NumAt.pb hr h0) ha) h.size
instance:Inhabited Row:=⟨⟨[],none,0,0,0⟩⟩
open Classical in
noncomputable def compJ (R:List Row):Nat→List Row
 | 0 => []
 | j+1 => compJ R j++if j=0∨(R.getD j default).l≠(R.getD (j - 1) default).l then [R.getD j default] else []
theorem compJ_yes {R:List Row} {j:Nat} (h:j=0∨(R.getD j default).l≠(R.getD (j - 1) default).l):compJ R (j+1)=compJ R j++[R.getD j default]:=by
 show _++_=_;rw [if_pos h]
theorem compJ_no {R:List Row} {j:Nat} (h0:j≠0) (h:(R.getD j default).l=(R.getD (j - 1) default).l):compJ R (j+1)=compJ R j:=by
 show _++_=_;rw [if_neg (by rintro (h1 | h1);exact h0 h1;exact h1 h),List.append_nil]
theorem compJ_len (R:List Row):∀ j,(compJ R j).length≤j
 | 0 => Nat.le_refl _
 | j+1 => by
  have:=compJ_len R j
  unfold compJ
  rw [List.length_append]
  split <;> simp <;> omega
theorem getD_mem {R:List Row} {j:Nat} (h:j<R.length):R.getD j default∈R:=by rw [List.getD_eq_getElem?_getD,List.getElem?_eq_getElem h];exact List.getElem_mem h
theorem getD_at {R:List Row} {j:Nat} (h:j<R.length):R.getD j default=R[j]:=by rw [List.getD_eq_getElem?_getD,List.getElem?_eq_getElem h];rfl
theorem compJ_mem {R:List Row}:∀ {j:Nat},j≤R.length→∀ x∈compJ R j,x∈R
 | 0,_,x,h => by cases h
 | j+1,hj,x,h => by
  unfold compJ at h
  rcases List.mem_append.1 h with h | h
  ·exact compJ_mem (by omega) x h
  ·split at h
   ·rw [List.mem_singleton.1 h];exact getD_mem (by omega)
   ·cases h
theorem compJ_all {R:List Row}:∀ {k:Nat},k≤R.length→(∀ j,1≤j→j<k→(R.getD j default).l≠(R.getD (j - 1) default).l)→compJ R k=R.take k
 | 0,_,_ => rfl
 | k+1,hk,h => by
  rw [compJ_yes (by by_cases e:k=0;exact .inl e;exact .inr (h k (by omega) (by omega))),compJ_all (by omega) fun j h1 h2=>h j h1 (by omega),List.take_add_one,List.getElem?_eq_getElem (by omega),getD_at (by omega)]
  rfl
theorem compJ_sorted {R : List Row} {n : Nat} (hs : R.Pairwise (fun a b => ¬ lexP n (fn b.l) (fn a.l))) (hn : ∀ x ∈ R, x.l.length = n) : ∀ {j : Nat}, j ≤ R.length →
    (compJ R j).Pairwise (fun a b=>lexP n (fn a.l) (fn b.l))∧(∀ i,i<j→∃ y∈compJ R j,y.l=(R.getD i default).l)∧(0<j→∀ y∈compJ R j,y.l=(R.getD (j - 1) default).l∨lexP n (fn y.l) (fn (R.getD (j - 1) default).l))
 | 0,_ => ⟨List.Pairwise.nil,fun i h => by omega,fun h => by omega⟩
 | j+1,hj => by
  obtain ⟨h1,h2,h3⟩:=compJ_sorted hs hn (j:=j) (by omega)
  by_cases h0:j=0
  ·subst h0
   rw [compJ_yes (.inl rfl)]
   show ([R.getD 0 default]:List Row).Pairwise _∧_
   refine ⟨List.pairwise_singleton _ _,fun i hi=>⟨_,List.mem_append_right _ (List.mem_singleton.2 rfl),by rw [show i=0 by omega]⟩,fun _ y hy=>?_⟩
   rcases List.mem_append.1 hy with h | h
   ·cases h
   ·rw [List.mem_singleton.1 h];exact .inl rfl
  ·by_cases he:(R.getD j default).l=(R.getD (j - 1) default).l
   ·rw [compJ_no h0 he]
    refine ⟨h1,fun i hi=>?_,fun _ y hy=>?_⟩
    ·by_cases e:i=j
     ·subst e
      obtain ⟨y,hy,hl⟩:=h2 (i - 1) (by omega)
      exact ⟨y,hy,hl.trans he.symm⟩
     ·exact h2 i (by omega)
    ·have:=h3 (by omega) y hy
     rw [show j+1 - 1=j by omega,he];exact this
   ·rw [compJ_yes (.inr he)]
    have hlt:lexP n (fn (R.getD (j - 1) default).l) (fn (R.getD j default).l):=by
     have hp:=List.pairwise_iff_getElem.1 hs (j - 1) j (by omega) (by omega) (by omega)
     have e1:=getD_at (R:=R) (show j<R.length by omega)
     have e2:=getD_at (R:=R) (show j - 1<R.length by omega)
     rw [e1,e2] at he
     rw [e1,e2]
     refine (lexP_total (n:=n) fun h=>he ?_).resolve_right hp
     exact fn_ext (by rw [hn _ (List.getElem_mem _),hn _ (List.getElem_mem _)]) fun p hq=>(h p (by rw [hn _ (List.getElem_mem _)] at hq;exact hq)).symm
    have hall:∀ y∈compJ R j,lexP n (fn y.l) (fn (R.getD j default).l):=fun y hy=>by
     rcases h3 (by omega) y hy with h | h
     ·rw [h];exact hlt
     ·exact lexP_trans h hlt
    refine ⟨List.pairwise_append.2 ⟨h1,List.pairwise_singleton _ _,fun y hy z hz=>by rw [List.mem_singleton.1 hz];exact hall y hy⟩,fun i hi=>?_,fun _ y hy=>?_⟩
    ·by_cases e:i=j
     ·subst e;exact ⟨_,List.mem_append_right _ (List.mem_singleton.2 rfl),rfl⟩
     ·obtain ⟨y,hy,hl⟩:=h2 i (by omega)
      exact ⟨y,List.mem_append_left _ hy,hl⟩
    ·rcases List.mem_append.1 hy with h | h
     ·exact .inr (hall y h)
     ·rw [List.mem_singleton.1 h];exact .inl rfl
theorem OnlyIn.ofExt {w w':World} {base:Nat} {v:Value} (x:Ext w w') (hb:base≤w.heap.size):OnlyIn w w' base v:=⟨Below.mono x.below hb,fun b hb _=>x.block b hb,x.le⟩
theorem OnlyIn.ext {w w' w'':World} {base:Nat} {v:Value} (h:OnlyIn w w' base v) (x:Ext w' w'') (hb:base≤w'.heap.size):OnlyIn w w'' base v:=⟨h.below.trans (Below.mono x.below hb),fun b hb hne=>(x.block b (Nat.lt_of_lt_of_le hb h.size)).trans (h.block b hb hne),Nat.le_trans h.size x.le⟩
structure CpI (w:World) (base g off cap len:Nat) (R:List Row) (j m:Nat) (wr:World):Prop where
 only:OnlyIn w wr base (.slice (some ⟨g,off,none⟩) len cap)
 lt:g<wr.heap.size
 clen:(compJ R j).length=m
 lo:∀ p,p<m→wr.cell? ⟨g,off+p,none⟩=some ((compJ R j).getD p default).val
 hi:∀ p,p<len→m≤p→wr.cell? ⟨g,off+p,none⟩=some (R.getD p default).val
 fr:∀ p,p<len→wr.frozen? ⟨g,off+p,none⟩=false
theorem CpI.ext {w:World} {base g off cap len:Nat} {R:List Row} {j m:Nat} {wr w':World} (h:CpI w base g off cap len R j m wr) (x:Ext wr w') (hb:base≤wr.heap.size):CpI w base g off cap len R j m w':=
 ⟨h.only.ext x hb,Nat.lt_of_lt_of_le h.lt x.le,h.clen,fun p hp=>x.cell (h.lo p hp),fun p hp hm=>x.cell (h.hi p hp hm),fun p hp=>(x.frozen (p:=⟨g,off+p,none⟩) h.lt).trans (h.fr p hp)⟩
theorem CpI.put {w:World} {base g off cap len:Nat} {R:List Row} {j m:Nat} {wr:World} (h:CpI w base g off cap len R j m wr) (hm:m<j) (hj:j<len) (hne:(R.getD j default).l≠(R.getD (j - 1) default).l) (hb:base≤g):CpI w base g off cap len R (j+1) (m+1) (wr.setCell ⟨g,off+m,none⟩ (R.getD j default).val):=by
 have hc:compJ R (j+1)=compJ R j++[R.getD j default]:=compJ_yes (.inr hne)
 have hoth:∀ p,p≠m→(wr.setCell ⟨g,off+m,none⟩ (R.getD j default).val).cell? ⟨g,off+p,none⟩=wr.cell? ⟨g,off+p,none⟩:=fun p hp=>World.cell?_setCell_other _ _ _ _ fun h9=>by simp only [Addr.mk.injEq] at h9;omega
 refine ⟨⟨h.only.below.setCell hb _,fun b hb2 hne2=>(Below.heap_setCell _ _ _ _ fun e=>hne2 (by rw [e];rfl)).trans (h.only.block b hb2 hne2),by rw [World.size_setCell];exact h.only.size⟩,by rw [World.size_setCell];exact h.lt,by rw [hc,List.length_append,h.clen];rfl,fun p hp=>?_,fun p hp hmp=>?_,fun p hp=>by rw [frozen_set];exact h.fr p hp⟩
 ·rw [hc]
  by_cases e:p=m
  ·subst e
   refine (World.cell?_setCell_same _ _ _ (h.hi p (by omega) (Nat.le_refl _))).trans ?_
   rw [List.getD_eq_getElem?_getD (l:=compJ R j++_),List.getElem?_append_right (by rw [h.clen];exact Nat.le_refl _),h.clen,Nat.sub_self];rfl
  ·rw [hoth p e,h.lo p (by omega),List.getD_eq_getElem?_getD,List.getD_eq_getElem?_getD,List.getElem?_append_left (by rw [h.clen];omega)]
 ·rw [hoth p (by omega)];exact h.hi p hp (by omega)
theorem zeroRow (w:World):(zeroValue 25).run Tryz.prog w=.ok (.slice none 0 0) w:=by kernel_rfl
set_option maxHeartbeats 4000000 in
theorem rcompact_any (w : World) (base : Nat) (v : Value) (R : List Row) (n : Nat) (hH : RowsH w base v R) (hA : ∀ x ∈ R, x.At w) (hn : ∀ x ∈ R, x.l.length = n) (h0 : 0 < n) (hl : R.length ≤ 1000000) (ha : ∀ x ∈ R, v.ownBlock ≠ some x.g) :
    Calls Tryz.prog 227 #[v,.func (.func 228) #[] #[]] w fun e w'=>∃ v',e=.returned v'∧RowsH w' base v' (compJ R R.length)∧OnlyIn w w' base v:=by
 rcases hH with ⟨rfl,a,c,rfl⟩ | ⟨g,off,cap,rfl,hcap,hbg,hgl,hcell⟩
 ·go_enter Tryz.func227,Tryz.ntmps227
  go_wp2_with fail
  go_ret
  exact ⟨_,rfl,.inl ⟨rfl,a,c,rfl⟩,OnlyIn.refl _ _ _⟩
 have HCE:=Lib.hid (fun j (hj:j<R.length)=>hcell j hj)
 obtain ⟨len,hlen⟩:∃ z,z=R.length:=⟨_,rfl⟩
 have HLE:=Lib.hid hlen
 have HNX:=Lib.hid (fun (W:World) (hW:OnlyIn w W base (.slice (some ⟨g,off,none⟩) len cap)) i j (hi:i<R.length) (hj:j<R.length)=>(show Calls Tryz.prog 228 #[.slice R[i].a n R[i].c,.slice R[j].a n R[j].c] W (BoolPost (R[i].l=R[j].l) W) from by
  have h1:=hW.row (hA _ (List.getElem_mem hi)) (by rw [hn _ (List.getElem_mem hi)];exact h0) (ha _ (List.getElem_mem hi))
  have h2:=hW.row (hA _ (List.getElem_mem hj)) (by rw [hn _ (List.getElem_mem hj)];exact h0) (ha _ (List.getElem_mem hj))
  unfold Row.At at h1 h2
  rw [hn _ (List.getElem_mem hi)] at h1
  rw [hn _ (List.getElem_mem hj)] at h2
  refine (nxt2_any W R[i].a R[j].a R[i].g R[i].o R[j].g R[j].o n R[i].c R[j].c (fn R[i].l) (fn R[j].l) h1 h2).mono fun e w' ⟨b,he,hb,hx⟩=>⟨b,he,hb.trans ⟨fun h=>fn_ext (by rw [hn _ (List.getElem_mem hi),hn _ (List.getElem_mem hj)]) fun p hp=>h p (by rw [hn _ (List.getElem_mem hi)] at hp;exact hp),fun h=>by rw [h];exact fun _ _=>rfl⟩,hx⟩))
 have HVL:=Lib.hid (fun j (hj:j<R.length)=>(show R[j].val=.slice R[j].a n R[j].c from by unfold Row.val;rw [hn _ (List.getElem_mem hj)]))
 rw [←hlen] at hl hcap ⊢
 have hww:Ext w w:=Ext.refl _
 have hgl':∀ w',Ext w w'→g<w'.heap.size:=fun w' x=>Nat.lt_of_lt_of_le hgl x.le
 have HGL:=Lib.hid hgl
 clear hA hn ha hcell hlen hgl
 go_enter Tryz.func227,Tryz.ntmps227
 by_cases h2:len<2
 ·have d0:decide ((len:Int)<2)=true:=decide_eq_true (by omega)
  have d0':decide (len<2)=true:=decide_eq_true h2
  have HCJ:=Lib.hid (show compJ R len=R from by
   rw [compJ_all (by rw [←HLE.out];exact Nat.le_refl _) fun j h1 h3=>by omega,HLE.out,List.take_length])
  go_wp2_with fail
  go_ret
  exact ⟨_,rfl,by rw [HCJ.out,HLE.out];exact .inr ⟨g,off,cap,rfl,by rw [←HLE.out];exact hcap,hbg,HGL.out,HCE.out⟩,OnlyIn.refl _ _ _⟩
 have d0:decide ((len:Int)<2)=false:=decide_eq_false (by omega)
 have d0':decide (len<2)=false:=decide_eq_false h2
 go_wp2_with fail
 go_loopg [5] (len - 1) (fun gg v5 wr=>∃ k:Nat,1≤k∧k≤len∧gg=len - k∧v5=.int .i64 k∧Ext w wr∧∀ j,1≤j→j<k→(R.getD j default).l≠(R.getD (j - 1) default).l)
 case atStart=>exact ⟨1,by omega,by omega,rfl,rfl,hww,fun j h1 h2=>by omega⟩
 case round=>
  obtain ⟨k,hk1,hk,rfl,rfl,hxr,hall⟩:=hrel
  have HA:=Lib.hid hall
  clear hall
  by_cases hlt:k<len
  ·have hlt':(k:Int)<(len:Int):=by omega
   have hkR:k<R.length:=by rw [←HLE.out];exact hlt
   have hk1R:k - 1<R.length:=by omega
   have c1:∀ w',Ext wr w'→w'.cell? ⟨g,off+k,none⟩=some (.slice R[k].a n R[k].c):=fun w' x=>(hxr.trans x).cell ((HCE.out k hkR).1.trans (congrArg some (HVL.out k hkR)))
   have c2:∀ w',Ext wr w'→w'.cell? ⟨g,off+(k - 1),none⟩=some (.slice R[k - 1].a n R[k - 1].c):=fun w' x=>(hxr.trans x).cell ((HCE.out (k - 1) hk1R).1.trans (congrArg some (HVL.out (k - 1) hk1R)))
   have hnx:=HNX.out wr.drew (OnlyIn.ofExt hxr.drew (by have:=HGL.out;omega)) k (k - 1) hkR hk1R
   obtain ⟨ra,hra⟩:∃ z,z=R[k].a:=⟨_,rfl⟩
   obtain ⟨rc,hrc⟩:∃ z,z=R[k].c:=⟨_,rfl⟩
   obtain ⟨sa,hsa⟩:∃ z,z=R[k - 1].a:=⟨_,rfl⟩
   obtain ⟨sc,hsc⟩:∃ z,z=R[k - 1].c:=⟨_,rfl⟩
   rw [←hra,←hrc] at c1 hnx
   rw [←hsa,←hsc] at c2 hnx
   have hwk:IntKind.i64.wrap ((k:Int) - 1)=((k - 1:Nat):Int):=by rw [IntWalk.i64_in _ (by omega)];omega
   have hk1':((k - 1:Nat):Int)<(len:Int):=by omega
   have hlr:∀ w',Ext wr w'→g<w'.heap.size:=fun w' x=>Nat.lt_of_lt_of_le HGL.out (hxr.trans x).le
   clear hra hrc hsa hsc
   go_upto_region 6 with fail
   refine wp_region_held_drew (S:=fun w'=>Ext wr w') (by kernel_rfl) (Ext.refl _).drew (fun hHeld=>?_)
   refine hQ 0 (v:=?_) rfl (y:=.inl ⟨by rfl,?_⟩) (h:=?_)
   rotate_left
   ·(intro w' hSw;(try dsimp only at hSw);have hSS:=Ext.refl w';go_simp;try with_reducible rfl)
   try simp only [Act.put,zA,zB,zC]
   refine hQ 1 (v:=?_) rfl (y:=.inl ⟨by rfl,?_⟩) (h:=?_)
   rotate_left
   ·(intro w' hSw;(try dsimp only at hSw);have hSS:=Ext.refl w';go_simp;try with_reducible rfl)
   try simp only [Act.put,zA,zB,zC]
   refine hQ 2 (v:=?_) rfl (y:=.inl ⟨by rfl,?_⟩) (h:=?_)
   rotate_left
   ·(intro w' hSw;(try dsimp only at hSw);have hSS:=Ext.refl w';go_simp;try with_reducible rfl)
   try simp only [Act.put,zA,zB,zC]
   refine hQ 3 (v:=?_) rfl (y:=.inl ⟨by rfl,?_⟩) (h:=?_)
   rotate_left
   ·(intro w' hSw;(try dsimp only at hSw);have hSS:=Ext.refl w';go_simp;try with_reducible rfl)
   try simp only [Act.put,zA,zB,zC]
   refine hQ 4 (v:=?_) rfl (y:=.inl ⟨by rfl,?_⟩) (h:=?_)
   rotate_left
   ·(intro w' hSw;(try dsimp only at hSw);have hSS:=Ext.refl w';go_simp;try with_reducible rfl)
   try simp only [Act.put,zA,zB,zC]
   refine hQ 5 (v:=?_) rfl (y:=.inl ⟨by rfl,?_⟩) (h:=?_)
   rotate_left
   ·(intro w' hSw;(try dsimp only at hSw);have hSS:=Ext.refl w';go_simp;try with_reducible rfl)
   try simp only [Act.put,zA,zB,zC]
   refine hQ 6 (v:=?_) rfl (y:=.inl ⟨by rfl,?_⟩) (h:=?_)
   rotate_left
   ·(intro w' hSw;(try dsimp only at hSw);have hSS:=Ext.refl w';go_simp;try with_reducible rfl)
   try simp only [Act.put,zA,zB,zC]
   refine hQ 7 (v:=?_) rfl (y:=.inl ⟨by rfl,?_⟩) (h:=?_)
   rotate_left
   ·(intro w' hSw;(try dsimp only at hSw);have hSS:=Ext.refl w';go_simp;try with_reducible rfl)
   try simp only [Act.put,zA,zB,zC]
   refine hQ 8 (v:=?_) rfl (y:=.inl ⟨by rfl,?_⟩) (h:=?_)
   rotate_left
   ·(intro w' hSw;(try dsimp only at hSw);have hSS:=Ext.refl w';go_simp;try with_reducible rfl)
   try simp only [Act.put,zA,zB,zC]
   refine hQ 9 (v:=?_) rfl (y:=.inl ⟨by rfl,?_⟩) (h:=?_)
   rotate_left
   ·(intro w' hSw;(try dsimp only at hSw);have hSS:=Ext.refl w';go_simp;try with_reducible rfl)
   try simp only [Act.put,zA,zB,zC]
   refine wpAnyH_ready (rs:=[10]) (by kernel_rfl) (by simp) ?_
   refine AllReadyH.cons rfl (fun K hK=>?_) AllReadyH.nil
   go_simp
   go_at_call 228
   refine hnx.mono ?_
   rintro e w2 ⟨bb,rfl,hbb,hx2⟩
   have hxr2:Ext wr w2:=(Ext.refl wr).drew.trans hx2
   refine hK.out _ _ ?_ (fun hHeld2=>?_)
   ·exact hxr2
   clear hK K
   try simp only [Act.put,zA,zB,zC]
   refine wpAnyH_done (by kernel_rfl) ?_ _
   have hxw2:=hxr.trans hxr2
   have HBB:=Lib.hid hbb
   clear hHeld hHeld2 hnx hbb hx2
   cases bb with
   | false =>
    have HNE:=Lib.hid (show (R.getD k default).l≠(R.getD (k - 1) default).l from fun h=>absurd (HBB.out.2 (by rw [←getD_at hkR,←getD_at hk1R];exact h)) (by decide))
    go_wp2_with fail
    go_roundg (len - (k+1))
    case rel=>exact ⟨k+1,by omega,by omega,rfl,by go_num,hxw2,fun j h1 h2=>by
     by_cases e:j=k
     ·subst e;exact HNE.out
     ·exact HA.out j h1 (by omega)⟩
    case measure=>omega
   | true =>
    have HEQ:=Lib.hid (show (R.getD k default).l=(R.getD (k - 1) default).l from by rw [getD_at hkR,getD_at hk1R];exact HBB.out.1 (by first | rfl | trivial))
    have HC0:=Lib.hid (show compJ R (k+1)=R.take k from by rw [compJ_no (by omega) HEQ.out];exact compJ_all (by omega) HA.out)
    have HW0:=Lib.hid (show OnlyIn w w2 base (.slice (some ⟨g,off,none⟩) len cap)∧g<w2.heap.size∧(∀ p,p<k→w2.cell? ⟨g,off+p,none⟩=some (R.getD p default).val)∧(∀ p,p<len→k≤p→w2.cell? ⟨g,off+p,none⟩=some (R.getD p default).val)∧∀ p,p<len→w2.frozen? ⟨g,off+p,none⟩=false from by
     have hc:∀ p,p<len→w2.cell? ⟨g,off+p,none⟩=some (R.getD p default).val:=fun p hp=>by
      rw [getD_at (by rw [←HLE.out];exact hp)]
      exact hxw2.cell (HCE.out p (by rw [←HLE.out];exact hp)).1
     exact ⟨OnlyIn.ofExt hxw2 (by have:=HGL.out;omega),Nat.lt_of_lt_of_le HGL.out hxw2.le,fun p hp=>hc p (by omega),fun p hp _=>hc p hp,fun p hp=>(hxw2.frozen (p:=⟨g,off+p,none⟩) HGL.out).trans (HCE.out p (by rw [←HLE.out];exact hp)).2⟩)
    clear c1 c2 hlr hxr2 hxw2
    have HST:=Lib.hid (show CpI w base g off cap len R (k+1) k w2 from
     ⟨HW0.out.1,HW0.out.2.1,by rw [HC0.out,List.length_take];omega,fun p hp=>by
      rw [HC0.out,List.getD_eq_getElem?_getD,List.getElem?_take_of_lt hp,←List.getD_eq_getElem?_getD];exact HW0.out.2.2.1 p hp,HW0.out.2.2.2.1,HW0.out.2.2.2.2⟩)
    clear hxr
    go_wp2_with fail
    go_loopg [5,7] (len - (k+1)) (fun gg v5 v7 wr=>∃ (k2 m:Nat),1≤k2∧k+k2≤len∧gg=len - (k+k2)∧v7=.int .i64 k2∧v5=.int .i64 m∧m<k+k2∧CpI w base g off cap len R (k+k2) m wr)
    case atStart=>exact ⟨1,k,by omega,by omega,rfl,rfl,rfl,by omega,HST.out⟩
    case round=>
     obtain ⟨k2,m,h1,h2,rfl,rfl,rfl,hm,hI⟩:=hrel
     have HI:=Lib.hid hI
     have hgr:=hI.lt
     have hj0:k+k2≠0:=by omega
     clear hI
     have hlr:∀ w',Ext wr w'→g<w'.heap.size:=fun w' x=>Nat.lt_of_lt_of_le hgr x.le
     by_cases hj:k+k2<len
     ·have hj':(k2:Int)<((len - k:Nat):Int):=by omega
      have hj'':(k2:Int)<(len:Int) - (k:Int):=by omega
      have hjR:k+k2<R.length:=by rw [←HLE.out];exact hj
      have hj1R:k+k2 - 1<R.length:=by omega
      have c1:∀ w',Ext wr w'→w'.cell? ⟨g,off+k+k2,none⟩=some (.slice R[k+k2].a n R[k+k2].c):=fun w' x=>x.cell (by
       have h9:=HI.out.hi (k+k2) hj (by omega)
       rw [getD_at hjR,HVL.out _ hjR] at h9
       rw [Nat.add_assoc];exact h9)
      have c2:∀ w',Ext wr w'→w'.cell? ⟨g,off+k+(k2 - 1),none⟩=some (.slice R[k+k2 - 1].a n R[k+k2 - 1].c):=fun w' x=>x.cell (by
       have h9:=HI.out.hi (k+k2 - 1) (by omega) (by omega)
       rw [getD_at hj1R,HVL.out _ hj1R] at h9
       rw [show off+k+(k2 - 1)=off+(k+k2 - 1) by omega];exact h9)
      have hnx:=HNX.out wr.drew (HI.out.only.ext (Ext.refl wr).drew (by have:=HGL.out;have:=HI.out.only.size;omega)) (k+k2) (k+k2 - 1) hjR hj1R
      have HJV:=Lib.hid (show (R.getD (k+k2) default).val=.slice R[k+k2].a n R[k+k2].c from by rw [getD_at hjR,HVL.out _ hjR])
      obtain ⟨ra,hra⟩:∃ z,z=R[k+k2].a:=⟨_,rfl⟩
      obtain ⟨rc,hrc⟩:∃ z,z=R[k+k2].c:=⟨_,rfl⟩
      obtain ⟨sa,hsa⟩:∃ z,z=R[k+k2 - 1].a:=⟨_,rfl⟩
      obtain ⟨sc,hsc⟩:∃ z,z=R[k+k2 - 1].c:=⟨_,rfl⟩
      rw [←hra,←hrc] at c1 hnx HJV
      rw [←hsa,←hsc] at c2 hnx
      have hwk:IntKind.i64.wrap ((k2:Int) - 1)=((k2 - 1:Nat):Int):=by rw [IntWalk.i64_in _ (by omega)];omega
      have hk1':((k2 - 1:Nat):Int)<((len - k:Nat):Int):=by omega
      have hk1'':k2 - 1<len - k:=by omega
      have hj3:k2<len - k:=by omega
      clear hra hrc hsa hsc
      go_upto_region 11 with fail
      refine wp_region_held_drew (S:=fun w'=>Ext wr w') (by kernel_rfl) (Ext.refl _).drew (fun hHeld=>?_)
      refine hQ 0 (v:=?_) rfl (y:=.inl ⟨by rfl,?_⟩) (h:=?_)
      rotate_left
      ·(intro w' hSw;(try dsimp only at hSw);have hSS:=Ext.refl w';go_simp;try with_reducible rfl)
      try simp only [Act.put,zA,zB,zC]
      refine hQ 1 (v:=?_) rfl (y:=.inl ⟨by rfl,?_⟩) (h:=?_)
      rotate_left
      ·(intro w' hSw;(try dsimp only at hSw);have hSS:=Ext.refl w';go_simp;try with_reducible rfl)
      try simp only [Act.put,zA,zB,zC]
      refine hQ 2 (v:=?_) rfl (y:=.inl ⟨by rfl,?_⟩) (h:=?_)
      rotate_left
      ·(intro w' hSw;(try dsimp only at hSw);have hSS:=Ext.refl w';go_simp;try with_reducible rfl)
      try simp only [Act.put,zA,zB,zC]
      refine hQ 3 (v:=?_) rfl (y:=.inl ⟨by rfl,?_⟩) (h:=?_)
      rotate_left
      ·(intro w' hSw;(try dsimp only at hSw);have hSS:=Ext.refl w';go_simp;try with_reducible rfl)
      try simp only [Act.put,zA,zB,zC]
      refine hQ 4 (v:=?_) rfl (y:=.inl ⟨by rfl,?_⟩) (h:=?_)
      rotate_left
      ·(intro w' hSw;(try dsimp only at hSw);have hSS:=Ext.refl w';go_simp;try with_reducible rfl)
      try simp only [Act.put,zA,zB,zC]
      refine hQ 5 (v:=?_) rfl (y:=.inl ⟨by rfl,?_⟩) (h:=?_)
      rotate_left
      ·(intro w' hSw;(try dsimp only at hSw);have hSS:=Ext.refl w';go_simp;try with_reducible rfl)
      try simp only [Act.put,zA,zB,zC]
      refine hQ 6 (v:=?_) rfl (y:=.inl ⟨by rfl,?_⟩) (h:=?_)
      rotate_left
      ·(intro w' hSw;(try dsimp only at hSw);have hSS:=Ext.refl w';go_simp;try with_reducible rfl)
      try simp only [Act.put,zA,zB,zC]
      refine hQ 7 (v:=?_) rfl (y:=.inl ⟨by rfl,?_⟩) (h:=?_)
      rotate_left
      ·(intro w' hSw;(try dsimp only at hSw);have hSS:=Ext.refl w';go_simp;try with_reducible rfl)
      try simp only [Act.put,zA,zB,zC]
      refine hQ 8 (v:=?_) rfl (y:=.inl ⟨by rfl,?_⟩) (h:=?_)
      rotate_left
      ·(intro w' hSw;(try dsimp only at hSw);have hSS:=Ext.refl w';go_simp;try with_reducible rfl)
      try simp only [Act.put,zA,zB,zC]
      refine hQ 9 (v:=?_) rfl (y:=.inl ⟨by rfl,?_⟩) (h:=?_)
      rotate_left
      ·(intro w' hSw;(try dsimp only at hSw);have hSS:=Ext.refl w';go_simp;try with_reducible rfl)
      try simp only [Act.put,zA,zB,zC]
      refine wpAnyH_ready (rs:=[10]) (by kernel_rfl) (by simp) ?_
      refine AllReadyH.cons rfl (fun K hK=>?_) AllReadyH.nil
      go_simp
      go_at_call 228
      refine hnx.mono ?_
      rintro e w3 ⟨bb,rfl,hbb,hx3⟩
      have hxr3:Ext wr w3:=(Ext.refl wr).drew.trans hx3
      refine hK.out _ _ ?_ (fun hHeld2=>?_)
      ·exact hxr3
      clear hK K
      try simp only [Act.put,zA,zB,zC]
      refine hQ 11 (v:=?_) rfl (y:=.inl ⟨by rfl,?_⟩) (h:=?_)
      rotate_left
      ·(intro w' hSw;(try dsimp only at hSw);have hSS:=Ext.refl w';go_simp;try with_reducible rfl)
      try simp only [Act.put,zA,zB,zC]
      refine wpAnyH_done (by kernel_rfl) ?_ _
      have HBB:=Lib.hid hbb
      have HI3:=Lib.hid (HI.out.ext hxr3 (by have:=HGL.out;have:=HI.out.only.size;omega))
      have hgr3:=HI3.out.lt
      clear hHeld hHeld2 hnx hbb hx3 hlr hgr
      cases bb with
      | true =>
       have HEQ:=Lib.hid (show (R.getD (k+k2) default).l=(R.getD (k+k2 - 1) default).l from by rw [getD_at hjR,getD_at hj1R];exact HBB.out.1 (by first | rfl | trivial))
       have HIN:=Lib.hid (show CpI w base g off cap len R (k+(k2+1)) m w3 from by
        have h9:=HI3.out
        have e9:compJ R (k+(k2+1))=compJ R (k+k2):=compJ_no hj0 HEQ.out
        exact ⟨h9.only,h9.lt,by rw [e9];exact h9.clen,by rw [e9];exact h9.lo,h9.hi,h9.fr⟩)
       go_wp2_with fail
       go_roundg (len - (k+(k2+1)))
       case rel=>exact ⟨k2+1,m,by omega,by omega,rfl,by go_num,rfl,by omega,HIN.out⟩
       case measure=>omega
      | false =>
       have HNE:=Lib.hid (show (R.getD (k+k2) default).l≠(R.getD (k+k2 - 1) default).l from fun h=>absurd (HBB.out.2 (by rw [←getD_at hjR,←getD_at hj1R];exact h)) (by decide))
       have c13:∀ w',Ext w3 w'→w'.cell? ⟨g,off+k+k2,none⟩=some (.slice ra n rc):=fun w' x=>c1 w' (hxr3.trans x)
       have hmc:=HI3.out.hi m (by omega) (Nat.le_refl _)
       have cm:∀ w',Ext w3 w'→w'.cell? ⟨g,off+m,none⟩=some (R.getD m default).val:=fun w' x=>x.cell hmc
       have fm:∀ w',Ext w3 w'→w'.frozen? ⟨g,off+m,none⟩=false:=fun w' x=>(x.frozen (p:=⟨g,off+m,none⟩) hgr3).trans (HI3.out.fr m (by omega))
       have lm:∀ w',Ext w3 w'→g<w'.heap.size:=fun w' x=>Nat.lt_of_lt_of_le hgr3 x.le
       have h33:Ext w3 w3:=Ext.refl _
       have hmln:m<len:=by omega
       have hmln':(m:Int)<(len:Int):=by omega
       generalize (R.getD m default).val=om at cm
       clear c1 c2 hmc
       go_upto_region 13 with fail
       refine setm1 (G:=fun x=>Code.wp _ _ _ _ x) ?_
       intro w4 hw4
       have HIN:=Lib.hid (show CpI w base g off cap len R (k+(k2+1)) (m+1) w4 from by
        rw [hw4,←HJV.out]
        exact HI3.out.put hm hj HNE.out hbg)
       clear hw4 c13 cm fm lm h33 hxr3
       go_wp2_with fail
       go_roundg (len - (k+(k2+1)))
       case rel=>exact ⟨k2+1,m+1,by omega,by omega,rfl,by go_num,by go_num,by omega,HIN.out⟩
       case measure=>omega
     ·have hjl:k+k2=len:=by omega
      have hml:m<len:=by omega
      have hml':(m:Int)<(len:Int):=by omega
      have hmn:m≤len:=by omega
      have hmn':(m:Int)≤(len:Int):=by omega
      have hmc':(m:Int)≤(cap:Int):=by omega
      have hmc:m≤cap:=by omega
      have hlc:(len:Int)≤(cap:Int):=by omega
      have hlz:IntKind.i64.wrap ((len:Int) - (k:Int))=((len - k:Nat):Int):=by rw [IntWalk.i64_in _ (by omega)];omega
      have hnj:¬(k2:Int)<((len - k:Nat):Int):=by omega
      have hcl:∀ ty,(Builtin.clear_ #[28] ty #[.slice (some ⟨g,off+m,none⟩) (len - m) (cap - m)]).run Tryz.prog wr=.ok (.tuple #[]) (wr.setCells g (off+m) (List.replicate (len - m) (.slice none 0 0))):=
       fun ty=>Lib.run_clear_slice wr _ 25 ty _ rfl zeroRow rfl rfl g (off+m) _ _ (by omega) (fun j hj=>by rw [show off+m+j=off+(m+j) by omega,HI.out.hi (m+j) (by omega) (by omega)];rfl) (fun j hj=>by rw [show off+m+j=off+(m+j) by omega];exact HI.out.fr (m+j) (by omega))
      have HFIN:=Lib.hid (show RowsH (wr.setCells g (off+m) (List.replicate (len - m) (.slice none 0 0))) base (.slice (some ⟨g,off,none⟩) m cap) (compJ R len)∧OnlyIn w (wr.setCells g (off+m) (List.replicate (len - m) (.slice none 0 0))) base (.slice (some ⟨g,off,none⟩) len cap) from by
       have h9:=HI.out
       rw [hjl] at h9
       have hsz:=(tape_setCells g (List.replicate (len - m) (.slice none 0 0)) (off+m) wr).2
       refine ⟨.inr ⟨g,off,cap,by rw [h9.clen],by rw [h9.clen];omega,hbg,by rw [hsz];exact h9.lt,fun j hj=>⟨?_,(World.frozen?_setCells g _ _ _ _).trans (h9.fr j (by rw [h9.clen] at hj;omega))⟩⟩,⟨h9.only.below.trans (below_setCells hbg _ _ _ (Below.refl _ _)),fun b hb hne=>(World.heap_setCells_other wr g _ _ (Nat.lt_of_lt_of_le hb h9.only.size) (fun e=>hne (by rw [e];rfl))).trans (h9.only.block b hb hne),by rw [hsz];exact h9.only.size⟩⟩
       have hj':j<m:=by rw [h9.clen] at hj;exact hj
       rw [World.cell?_setCells_out g _ _ _ _ (fun _ _=>Or.inl (by show off+j<off+m;omega)),h9.lo j hj',List.getD_eq_getElem?_getD,List.getElem?_eq_getElem hj];rfl)
      clear hgr hlr
      go_wp2_with (simp only [hcl])
      go_ret
      exact ⟨_,rfl,HFIN.out.1,HFIN.out.2⟩
  ·obtain rfl:k=len:=by omega
   have HCJ:=Lib.hid (show compJ R k=R from by rw [compJ_all (by rw [←HLE.out];exact Nat.le_refl _) HA.out,HLE.out,List.take_length])
   go_wp2_with fail
   go_ret
   exact ⟨_,rfl,by rw [HCJ.out,HLE.out];exact .inr ⟨g,off,cap,rfl,by rw [←HLE.out];exact hcap,hbg,Nat.lt_of_lt_of_le HGL.out hxr.le,fun j hj=>⟨hxr.cell (HCE.out j hj).1,(hxr.frozen (p:=⟨g,off+j,none⟩) HGL.out).trans (HCE.out j hj).2⟩⟩,OnlyIn.ofExt hxr (by have:=HGL.out;omega)⟩
end Go.Proofs.YtmhapcnlpoilpaaGreatDoor
