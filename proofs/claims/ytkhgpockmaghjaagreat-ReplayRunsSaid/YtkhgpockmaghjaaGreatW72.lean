/- Contracts and laws in plain Lean for RApp: group W72. -/
import Derived.Test.YtkhgpockmaghjaaGreatW71
import Derived.Test.YtkhgpockmaghjaaGreatW15
import Derived.Test.YtkhgpockmaghjaaGreatW56
import Derived.Test.YtkhgpockmaghjaaGreatW01
import Derived.Test.YtkhgpockmaghjaaGreatW06
namespace Go.Proofs.YtkhgpockmaghjaaGreat
open Go.RowKit Go.Shelf
attribute [local go_sem] Oper.semAt_some
structure BT (base g n:Nat) (rb:Nat→Nat) (m:Nat) (f:Nat→Nat→Bool) (w:World):Prop where
 lt:g<w.heap.size
 bg:base≤g
 fr:∀ o,w.frozen? ⟨g,o,none⟩=false
 h1:∀ k,k<m→w.cell? ⟨g,k,none⟩=some (.slice (some ⟨rb k,0,none⟩) n n)
 h0:∀ k,m≤k→k<n→w.cell? ⟨g,k,none⟩=some (.slice none 0 0)
 row:∀ k,k<m→BRow w (rb k) n (f k)
 lo:∀ k,k<m→base≤rb k∧rb k≠g
 inj:∀ j k,j<m→k<m→j≠k→rb j≠rb k
theorem BRow.ext {w w':World} {g n:Nat} {f:Nat→Bool} (h:BRow w g n f) (x:Ext w w'):BRow w' g n f:=h.block x.le (x.block g h.lt)
theorem BT.ext {base g n m:Nat} {rb:Nat→Nat} {f:Nat→Nat→Bool} {w w':World} (h:BT base g n rb m f w) (x:Ext w w'):BT base g n rb m f w':=
 ⟨Nat.lt_of_lt_of_le h.lt x.le,h.bg,fun o=>(x.frozen (p:=⟨g,o,none⟩) h.lt).trans (h.fr o),fun k hk=>x.cell (h.h1 k hk),fun k hk hn=>x.cell (h.h0 k hk hn),fun k hk=>(h.row k hk).ext x,h.lo,h.inj⟩
theorem BT.mono {base base' g n m:Nat} {rb:Nat→Nat} {f:Nat→Nat→Bool} {w:World} (h:BT base g n rb m f w) (hb:base'≤base):BT base' g n rb m f w:=
 ⟨h.lt,Nat.le_trans hb h.bg,h.fr,h.h1,h.h0,h.row,fun k hk=>⟨Nat.le_trans hb (h.lo k hk).1,(h.lo k hk).2⟩,h.inj⟩
theorem BT.congr {base g n m:Nat} {rb:Nat→Nat} {f f':Nat→Nat→Bool} {w:World} (h:BT base g n rb m f w) (e:∀ a c,f' a c=f a c):BT base g n rb m f' w:=
 ⟨h.lt,h.bg,h.fr,h.h1,h.h0,fun k hk=>(h.row k hk).congr fun i=>(e k i).symm,h.lo,h.inj⟩
theorem BT.made {w:World} {base g n:Nat} (rb:Nat→Nat) (f:Nat→Nat→Bool) (h:w.ownsRow base 68 1 (.slice (some ⟨g,0,none⟩) n n) n (madeCells (Value.slice none 0 0).cells (n*1)).toList):BT base g n rb 0 f w:=by
 obtain ⟨h1,⟨hv,_⟩ | ⟨g',cap,cur,hv,hg,hh,hc,hm,hs,ht⟩⟩:=h
 ·cases hv
 ·simp only [Value.slice.injEq,Option.some.injEq,Addr.mk.injEq] at hv
  obtain ⟨⟨rfl,_⟩,_,rfl⟩:=hv
  have hb:=Box.of hh
  have hz:(Value.slice none 0 0).cells=#[.slice none 0 0]:=rfl
  rw [hz,toList_madeCells_one] at ht
  refine ⟨hb.lt w (Ext.refl _),hg,fun o=>hb.frozen w (Ext.refl _) o,fun k hk=>absurd hk (Nat.not_lt_zero _),fun k _ hk=>?_,fun k hk=>absurd hk (Nat.not_lt_zero _),fun k hk=>absurd hk (Nat.not_lt_zero _),fun j k hj=>absurd hj (Nat.not_lt_zero _)⟩
  rw [hb.cell w (Ext.refl _)]
  have:cur[k]?=(List.replicate (n*1) (Value.slice none 0 0))[k]?:=by rw [←ht,List.getElem?_take_of_lt (by omega)];simp
  rw [this,List.getElem?_replicate,if_pos (by omega)]
def setF (f:Nat→Nat→Bool) (i j:Nat) (b:Bool):Nat→Nat→Bool:=fun a c=>if a=i∧c=j then b else f a c
theorem BT.set {base g n m:Nat} {rb:Nat→Nat} {f:Nat→Nat→Bool} {w:World} (h:BT base g n rb m f w) {i j:Nat} (hi:i<m) (hj:j<n) (b:Bool):BT base g n rb m (setF f i j b) (w.setCell ⟨rb i,j,none⟩ (.bool b)):=by
 have hoth:∀ q,q≠rb i→(w.setCell ⟨rb i,j,none⟩ (.bool b)).heap[q]?=w.heap[q]?:=fun q hq=>Below.heap_setCell _ _ _ _ hq
 have hz:w.heap.size≤(w.setCell ⟨rb i,j,none⟩ (.bool b)).heap.size:=by simp
 have hcell:∀ o,(w.setCell ⟨rb i,j,none⟩ (.bool b)).cell? ⟨g,o,none⟩=w.cell? ⟨g,o,none⟩:=fun o=>World.cell?_of_block (w:=w) (a:=⟨g,o,none⟩) (hoth g fun e=>(h.lo i hi).2 e.symm)
 refine ⟨Nat.lt_of_lt_of_le h.lt hz,h.bg,fun o=>(frozen_set _ _ _ _).trans (h.fr o),fun k hk=>(hcell k).trans (h.h1 k hk),fun k hk hn=>(hcell k).trans (h.h0 k hk hn),fun k hk=>?_,h.lo,h.inj⟩
 by_cases e:k=i
 ·subst e
  have hr:=h.row k hk
  refine ⟨fun c hc=>?_,fun o=>(frozen_set _ _ _ _).trans (hr.fr o),Nat.lt_of_lt_of_le hr.lt hz⟩
  rw [cell_set w (rb k) j c (.bool b) (hr.c j hj)]
  unfold setF
  by_cases e2:c=j
  ·rw [if_pos e2,if_pos ⟨rfl,e2⟩]
  ·rw [if_neg e2,if_neg fun h=>e2 h.2];exact hr.c c hc
 ·refine ((h.row k hk).block hz (hoth _ (h.inj k i hk hi e))).congr fun c=>?_
  unfold setF;rw [if_neg fun h=>e h.1]
theorem BT.add {base g n m q : Nat} {rb : Nat → Nat} {f : Nat → Nat → Bool} {w : World} (h : BT base g n rb m f w) (hm : m < n) (hq : BRow w q n (fun _ => false)) (hb : base ≤ q) (hne : q ≠ g) (hfar : ∀ k, k < m → rb k ≠ q) :
    BT base g n (setS rb m q) (m+1) (fun a c=>if a=m then false else f a c) (w.setCell ⟨g,m,none⟩ (.slice (some ⟨q,0,none⟩) n n)):=by
 have hz:w.heap.size≤(w.setCell ⟨g,m,none⟩ (.slice (some ⟨q,0,none⟩) n n)).heap.size:=by simp
 have hoth:∀ p,p≠g→(w.setCell ⟨g,m,none⟩ (.slice (some ⟨q,0,none⟩) n n)).heap[p]?=w.heap[p]?:=fun p hp=>Below.heap_setCell _ _ _ _ hp
 have hset:∀ o,(w.setCell ⟨g,m,none⟩ (.slice (some ⟨q,0,none⟩) n n)).cell? ⟨g,o,none⟩=if o=m then some (.slice (some ⟨q,0,none⟩) n n) else w.cell? ⟨g,o,none⟩:=fun o=>cell_set w g m o _ (h.h0 m (Nat.le_refl _) hm)
 refine ⟨Nat.lt_of_lt_of_le h.lt hz,h.bg,fun o=>(frozen_set _ _ _ _).trans (h.fr o),fun k hk=>?_,fun k hk hn=>?_,fun k hk=>?_,fun k hk=>?_,fun j k hj hk hjk=>?_⟩
 ·rw [hset]
  by_cases e:k=m
  ·rw [if_pos e,e,setS_eq]
  ·rw [if_neg e,setS_ne rb q e];exact h.h1 k (by omega)
 ·rw [hset,if_neg (by omega)];exact h.h0 k (by omega) hn
 ·by_cases e:k=m
  ·subst e;rw [setS_eq];exact (hq.block hz (hoth q hne)).congr fun _=>by rw [if_pos rfl]
  ·rw [setS_ne rb q e];exact ((h.row k (by omega)).block hz (hoth _ (h.lo k (by omega)).2)).congr fun _=>by rw [if_neg e]
 ·by_cases e:k=m
  ·subst e;rw [setS_eq];exact ⟨hb,hne⟩
  ·rw [setS_ne rb q e];exact h.lo k (by omega)
 ·by_cases e1:j=m
  ·subst e1
   rw [setS_eq,setS_ne rb q (fun e=>hjk e.symm)]
   exact fun e=>hfar k (by omega) e.symm
  ·rw [setS_ne rb q e1]
   by_cases e2:k=m
   ·subst e2;rw [setS_eq];exact hfar j (by omega)
   ·rw [setS_ne rb q e2];exact h.inj j k (by omega) (by omega) hjk
def Tr.DN (T:Tr) (L:List Syn) (a c:Nat):Prop:=∃ x y,T.V x∧T.V y∧numE T x=a∧numE T y=c∧y∈T.gr L x
theorem dn_iff {T:Tr} {L:List Syn} {x y:NN} (hx:T.V x) (hy:T.V y):T.DN L (numE T x) (numE T y)↔y∈T.gr L x:=
 ⟨fun ⟨_,_,h1,h2,h3,h4,h5⟩=>by rw [←numE_inj h1 hx h3,←numE_inj h2 hy h4];exact h5,fun h=>⟨x,y,hx,hy,rfl,rfl,h⟩⟩
theorem dn_lt {T:Tr} {L:List Syn} {a c:Nat} (h:T.DN L a c):c<tot T.en T.n:=by
 obtain ⟨_,y,_,hy,_,rfl,_⟩:=h
 exact numE_lt hy
theorem path_way {T:Tr} {L:List Syn} (hV:T.Valid) (hL:SynOk T L):∀ {n:Nat} {x y:NN},T.V x→PathN (T.gr L) n x y→Way (T.DN L) (numE T x) (numE T y)
 | 0,_,_,hx,h => .one ((dn_iff hx (gr_V hV hL hx h)).2 h)
 | _+1,_,_,hx,⟨_,h,hp⟩ => .cons ((dn_iff hx (gr_V hV hL hx h)).2 h) (path_way hV hL (gr_V hV hL hx h) hp)
theorem way_path {T:Tr} {L:List Syn} {a c:Nat} (h:Way (T.DN L) a c):∀ x,T.V x→numE T x=a→∃ y,T.V y∧numE T y=c∧Path (T.gr L) x y:=by
 induction h with
 | one h =>
  intro x hx e
  obtain ⟨x',y,h1,h2,h3,h4,h5⟩:=h
  rw [numE_inj hx h1 (e.trans h3.symm)]
  exact ⟨y,h2,h4,Path.one h5⟩
 | cons h _ ih =>
  intro x hx e
  obtain ⟨x',y,h1,h2,h3,h4,h5⟩:=h
  obtain ⟨z,k1,k2,k3⟩:=ih y h2 h4
  rw [numE_inj hx h1 (e.trans h3.symm)]
  exact ⟨z,k1,k2,Path.cons h5 k3⟩
theorem way_iff {T:Tr} {L:List Syn} (hV:T.Valid) (hL:SynOk T L) {x y:NN} (hx:T.V x) (hy:T.V y):Way (T.DN L) (numE T x) (numE T y)↔Path (T.gr L) x y:=by
 constructor
 ·intro h
  obtain ⟨z,h1,h2,h3⟩:=way_path h x hx rfl
  rw [←numE_inj h1 hy h2];exact h3
 ·rintro ⟨n,h⟩;exact path_way hV hL hx h
theorem warK {D:Nat→Nat→Prop} {k c:Nat}:WarS D (k+1) k c↔WarS D k k c:=⟨fun h=>h.elim id fun h=>h.2,.inl⟩
theorem warI {D:Nat→Nat→Prop} {k i:Nat}:WarS D (k+1) i k↔WarS D k i k:=⟨fun h=>h.elim id fun h=>h.1,.inl⟩
def TabPost (T:Tr) (L:List Syn) (w:World) (e:Ending) (w':World):Prop:=Ext w w'∧∃ g rb f,e=.returned (.slice (some ⟨g,0,none⟩) (tot T.en T.n) (tot T.en T.n))∧BT w.heap.size g (tot T.en T.n) rb (tot T.en T.n) f w'∧∀ a c,a<tot T.en T.n→c<tot T.en T.n→(f a c=true↔WarS (T.DN L) (tot T.en T.n) a c)
set_option maxRecDepth 100000 in
set_option maxHeartbeats 8000000 in
theorem rtable_any (w : World) (T : TM) (hT : T.At w) (hV : T.toTr.Valid) (D : SyD) (hD : D.At w) (hL : SynOk T.toTr D.l) :
    Calls Tryz.prog 56 #[T.val,.slice D.s.a D.s.n D.s.c] w (TabPost T.toTr D.l w):=by
 obtain ⟨i0,hi0,hz0,hz1,hz2⟩:=info_parts infoBools
 obtain ⟨j0,hj0,hy0,hy1,hy2⟩:=info_parts infoBool
 have hn8:=hV.n8
 have HEV:=Lib.hid (fun W (h:Ext w W)=>revents_tot W T (hT.ext h) (by omega) (fun k hk=>by have:=hV.en64 hk;omega))
 have HE:=Lib.hid (fun W (h:Ext w W) p i (hx:T.toTr.V (p,i))=>revent13_any W T (hT.ext h) (by omega) (fun k hk=>by have:=hV.en64 hk;omega) p i hx)
 have HDI:=Lib.hid (fun W (h:Ext w W) xp xi yp yi hx hy=>rdirect45_any W T (hT.ext h) hV D (hD.ext h) hL xp xi yp yi hx hy)
 have htl:∀ q,q≤T.n→tot T.en q≤64*q:=fun q=>by
  induction q with
  | zero => intro _;exact Nat.le_refl _
  | succ q ih =>
   intro h
   have:=ih (by omega)
   have:=hV.en64 (show q<T.n by omega)
   rw [totR_succ];omega
 have hnl:tot T.en T.n≤512:=by have:=htl T.n (Nat.le_refl _);omega
 unfold TabPost
 obtain ⟨ta,hta⟩:∃ z,z=T.a:=⟨_,rfl⟩
 obtain ⟨da,hda⟩:∃ z,z=D.s.a:=⟨_,rfl⟩
 obtain ⟨dn,hdn⟩:∃ z,z=D.s.n:=⟨_,rfl⟩
 obtain ⟨n,hn⟩:∃ z,z=tot T.en T.n:=⟨_,rfl⟩
 have HN:=Lib.hid hn
 simp only [TM.val,←hta] at HEV HE HDI ⊢
 rw [←hda,←hdn] at HDI
 rw [←hn] at HEV hnl
 rw [←hda,←hdn,←hn]
 clear hT hV hD hL hta hda hdn htl hn
 go_enter Tryz.func56,Tryz.ntmps56
 go_upto_region 1 with fail
 refine boxed1 (w:=w) (G:=fun x=>Code.wp _ _ _ _ x) ?_
 intro w1 hx1 hs1 ⟨l0,c0,_,_⟩
 have hx11:Ext w1 w1:=Ext.refl _
 clear hs1
 go_wp2_with fail
 go_at_call 24
 refine (HEV.out w1 hx1).mono ?_
 rintro e w2 ⟨rfl,hx2⟩
 have hxw2:=hx1.trans hx2
 go_upto_region 3 with (at_make;refine wpList_make_full _ rfl _ _ 99 rfl w2.heap.size 68 i0 (.slice none 0 0) 1 Tryz.underlying99 hi0 hz0 hz1 .i64 .i64 _ _ n rfl rfl rfl rfl (by rw [hz2];omega) (by unfold maxLen;omega) (Nat.le_refl _) ?_;intro w3 hown3 hg3)
 have hx3:Ext w2 w3:=(Below.refl _ _).grown hg3 (Nat.le_refl _) (by simp)
 have HB3:=Lib.hid (BT.made (fun _=>0) (fun _ _=>false) hown3)
 obtain ⟨g,hg⟩:∃ z,z=w2.heap.size:=⟨_,rfl⟩
 have HG:=Lib.hid (show w.heap.size≤g∧w1.heap.size≤g from by rw [hg];exact ⟨hxw2.le,hx2.le⟩)
 rw [←hg] at HB3 ⊢
 have hx13:=hx2.trans hx3
 clear hown3 hg3 hg hx2 hx3 hxw2
 go_wp2_with fail
 go_loopg [7] n (fun gg v7 wr=>∃ (i:Nat) (rb:Nat→Nat) (f:Nat→Nat→Bool),i≤n∧gg=n - i∧v7=.int .i64 i∧BT g g n rb i f wr∧Ext w1 wr∧∀ a c,a<i→c<n→(f a c=true↔T.toTr.DN D.l a c))
 case atStart=>exact ⟨0,_,_,by omega,rfl,rfl,HB3.out,hx13,fun a c h=>absurd h (Nat.not_lt_zero _)⟩
 case round=>
  obtain ⟨i,rb,f,hi,rfl,rfl,hB,hx1r,hf⟩:=hrel
  have HB:=Lib.hid hB
  have HF:=Lib.hid hf
  have hxwr:=hx1.trans hx1r
  clear hB hf hx13
  by_cases hlt:i<n
  case neg=>
   obtain rfl:n=i:=by omega
   have HF0:=Lib.hid (show ∀ a c,a<n→c<n→(f a c=true↔WarS (T.toTr.DN D.l) 0 a c) from HF.out)
   clear HF
   go_wp2_with fail
   go_loopg [9] n (fun gg v9 wk=>∃ (k:Nat) (f:Nat→Nat→Bool),k≤n∧gg=n - k∧v9=.int .i64 k∧BT g g n rb n f wk∧Ext w1 wk∧∀ a c,a<n→c<n→(f a c=true↔WarS (T.toTr.DN D.l) k a c))
   case atStart=>exact ⟨0,_,by omega,rfl,rfl,HB.out,hx1r,HF0.out⟩
   case round=>
    clear hx1r hxwr
    rename World=>wk
    obtain ⟨k,fk,hk,rfl,rfl,hBk,hx1k,hfk⟩:=hrel
    have HBk:=Lib.hid hBk
    have HFk:=Lib.hid hfk
    have hxwk:=hx1.trans hx1k
    clear hBk hfk
    by_cases hlk:k<n
    case neg=>
     obtain rfl:n=k:=by omega
     have HGG:=Lib.hid HG.out.1
     go_wp2_with fail
     go_ret
     exact ⟨hxwk,g,rb,fk,rfl,HBk.out.mono HGG.out,HFk.out⟩
    have hlk':(k:Int)<(n:Int):=by omega
    go_wp2_with fail
    go_loopg [10] n (fun gg v10 we=>∃ (i:Nat) (f:Nat→Nat→Bool),i≤n∧gg=n - i∧v10=.int .i64 i∧BT g g n rb n f we∧Ext w1 we∧∀ a c,a<n→c<n→(f a c=true↔if a<i then WarS (T.toTr.DN D.l) (k+1) a c else WarS (T.toTr.DN D.l) k a c))
    case atStart=>exact ⟨0,_,by omega,rfl,rfl,HBk.out,hx1k,fun a c ha hc=>by rw [if_neg (Nat.not_lt_zero _)];exact HFk.out a c ha hc⟩
    case round=>
     clear hx1k hxwk
     rename World=>we
     obtain ⟨i,fe,hi,rfl,rfl,hBe,hx1e,hfe⟩:=hrel
     have HBe:=Lib.hid hBe
     have HFe:=Lib.hid hfe
     clear hBe hfe
     by_cases hli:i<n
     case neg=>
      obtain rfl:n=i:=by omega
      have HN2:=Lib.hid (show ∀ a c,a<n→c<n→(fe a c=true↔WarS (T.toTr.DN D.l) (k+1) a c) from fun a c ha hc=>by rw [HFe.out a c ha hc,if_pos ha])
      go_wp2_with fail
      go_roundg (n - (k+1))
      case rel=>exact ⟨k+1,_,by omega,rfl,by go_num,HBe.out,hx1e,HN2.out⟩
      case measure=>omega
     have hli':(i:Int)<(n:Int):=by omega
     go_wp2_with fail
     go_loopg [11] n (fun gg v11 wf=>∃ (j:Nat) (f:Nat→Nat→Bool),j≤n∧gg=n - j∧v11=.int .i64 j∧BT g g n rb n f wf∧Ext w1 wf∧∀ a c,a<n→c<n→(f a c=true↔if a<i∨(a=i∧c<j) then WarS (T.toTr.DN D.l) (k+1) a c else WarS (T.toTr.DN D.l) k a c))
     case atStart=>exact ⟨0,_,by omega,rfl,rfl,HBe.out,hx1e,fun a c ha hc=>by
      rw [HFe.out a c ha hc]
      by_cases e:a<i
      ·rw [if_pos e,if_pos (.inl e)]
      ·rw [if_neg e,if_neg fun h=>h.elim e fun h=>Nat.not_lt_zero _ h.2]⟩
     case round=>
      clear hx1e
      rename World=>wf
      obtain ⟨j,ff,hj,rfl,rfl,hBf,hx1f,hff⟩:=hrel
      have HBf:=Lib.hid hBf
      have HFf:=Lib.hid hff
      clear hBf hff
      have HIK:=Lib.hid (show ff i k=true↔WarS (T.toTr.DN D.l) k i k from by
       rw [HFf.out i k hli hlk]
       by_cases e:i<i∨(i=i∧k<j)
       ·rw [if_pos e,warI]
       ·rw [if_neg e])
      by_cases hlj:j<n
      case neg=>
       obtain rfl:n=j:=by omega
       have HN2:=Lib.hid (show ∀ a c,a<n→c<n→(ff a c=true↔if a<i+1 then WarS (T.toTr.DN D.l) (k+1) a c else WarS (T.toTr.DN D.l) k a c) from fun a c ha hc=>by
        rw [HFf.out a c ha hc]
        by_cases e:a<i+1
        ·rw [if_pos e,if_pos (by omega)]
        ·rw [if_neg e,if_neg (by omega)])
       go_wp2_with fail
       go_roundg (n - (i+1))
       case rel=>exact ⟨i+1,_,by omega,rfl,by go_num,HBf.out,hx1f,HN2.out⟩
       case measure=>omega
      have hlj':(j:Int)<(n:Int):=by omega
      have hBf':=HBf.out
      have hRi:=hBf'.row i hli
      have hRk:=hBf'.row k hlk
      obtain ⟨bik,hbik⟩:∃ b,b=ff i k:=⟨_,rfl⟩
      have HBI:=Lib.hid (show bik=true↔WarS (T.toTr.DN D.l) k i k from by rw [hbik];exact HIK.out)
      have cg:∀ w',Ext wf w'→g<w'.heap.size:=fun w' x=>Nat.lt_of_lt_of_le hBf'.lt x.le
      have ci:∀ w',Ext wf w'→w'.cell? ⟨g,i,none⟩=some (.slice (some ⟨rb i,0,none⟩) n n):=fun w' x=>x.cell (hBf'.h1 i hli)
      have ck:∀ w',Ext wf w'→w'.cell? ⟨g,k,none⟩=some (.slice (some ⟨rb k,0,none⟩) n n):=fun w' x=>x.cell (hBf'.h1 k hlk)
      have ri:∀ w',Ext wf w'→w'.cell? ⟨rb i,k,none⟩=some (.bool bik):=fun w' x=>by rw [hbik];exact x.cell (hRi.c k hlk)
      have li:∀ w',Ext wf w'→rb i<w'.heap.size:=fun w' x=>Nat.lt_of_lt_of_le hRi.lt x.le
      have lk:∀ w',Ext wf w'→rb k<w'.heap.size:=fun w' x=>Nat.lt_of_lt_of_le hRk.lt x.le
      have hff1:Ext wf wf:=Ext.refl _
      clear hbik
      cases bik with
      | false =>
       have HN2:=Lib.hid (show ∀ a c,a<n→c<n→(ff a c=true↔if a<i+1 then WarS (T.toTr.DN D.l) (k+1) a c else WarS (T.toTr.DN D.l) k a c) from fun a c ha hc=>by
        have hno:¬WarS (T.toTr.DN D.l) k i k:=fun h=>absurd (HBI.out.2 h) (by decide)
        rw [HFf.out a c ha hc]
        by_cases e:a<i∨(a=i∧c<j)
        ·rw [if_pos e,if_pos (by omega)]
        ·rw [if_neg e]
         by_cases e2:a<i+1
         ·rw [if_pos e2]
          obtain rfl:a=i:=by omega
          exact ⟨.inl,fun h=>h.elim id fun h=>absurd h.1 hno⟩
         ·rw [if_neg e2])
       clear hBf' hRi hRk
       go_wp2_with fail
       go_roundg (n - (i+1))
       case rel=>exact ⟨i+1,_,by omega,rfl,by go_num,HBf.out,hx1f,HN2.out⟩
       case measure=>omega
      | true =>
       obtain ⟨b1,hb1⟩:∃ b,b=ff i j:=⟨_,rfl⟩
       obtain ⟨b2,hb2⟩:∃ b,b=ff k j:=⟨_,rfl⟩
       have HB1:=Lib.hid (show b1=true↔WarS (T.toTr.DN D.l) k i j from by rw [hb1,HFf.out i j hli hlj,if_neg (by omega)])
       have HB2:=Lib.hid (show b2=true↔WarS (T.toTr.DN D.l) k k j from by
        rw [hb2,HFf.out k j hlk hlj]
        by_cases e:k<i∨(k=i∧j<j)
        ·rw [if_pos e,warK]
        ·rw [if_neg e])
       have rj:∀ w',Ext wf w'→w'.cell? ⟨rb i,j,none⟩=some (.bool b1):=fun w' x=>by rw [hb1];exact x.cell (hRi.c j hlj)
       have rk:∀ w',Ext wf w'→w'.cell? ⟨rb k,j,none⟩=some (.bool b2):=fun w' x=>by rw [hb2];exact x.cell (hRk.c j hlj)
       go_upto_region 20 with fail
       cases b1 with
       | true =>
        have s0:∀ w',Ext wf w'→w'.cell? ⟨rb i,j,none⟩=some (.bool true):=fun w' x=>by have h1:=x.cell (hRi.c j hlj);rw [←hb1] at h1;exact h1
        have sf:∀ w',Ext wf w'→∀ o,w'.frozen? ⟨rb i,o,none⟩=false:=fun w' x o=>(x.frozen (p:=⟨rb i,o,none⟩) hRi.lt).trans (hRi.fr o)
        clear hRi hRk hBf' hb1 hb2
        have hx1j:=hx1f
        refine wp_region_T (t:=21) (S:=fun _=>True) (R:=fun w'=>Ext wf w') (by kernel_rfl) trivial (Ext.refl wf).drew (fun hHeld=>?_)
        refine takeU 0 (v:=?_) rfl (by kernel_rfl) (by kernel_rfl) (by kernel_rfl) (by kernel_rfl) (by kernel_rfl) (fun _ _ _ h=>h) (by decide) (Or.inl ⟨by rfl,?_⟩) hHeld.1 hHeld.2 ?_
        rotate_left
        ·intro w' hSw
         have hSX:=hSw.2
         (try dsimp only at hSX)
         have hS1:=hx1j.trans hSX
         have hSS:=Ext.refl w'
         go_simp
         try with_reducible rfl
        try simp only [Act.put,zA,zB,zC]
        refine takeU 1 (v:=?_) rfl (by kernel_rfl) (by kernel_rfl) (by kernel_rfl) (by kernel_rfl) (by kernel_rfl) (fun _ _ _ h=>h) (by decide) (Or.inl ⟨by rfl,?_⟩) hHeld.1 hHeld.2 ?_
        rotate_left
        ·intro w' hSw
         have hSX:=hSw.2
         (try dsimp only at hSX)
         have hS1:=hx1j.trans hSX
         have hSS:=Ext.refl w'
         go_simp
         try with_reducible rfl
        try simp only [Act.put,zA,zB,zC]
        refine takeU 2 (v:=?_) rfl (by kernel_rfl) (by kernel_rfl) (by kernel_rfl) (by kernel_rfl) (by kernel_rfl) (fun _ _ _ h=>h) (by decide) (Or.inl ⟨by rfl,?_⟩) hHeld.1 hHeld.2 ?_
        rotate_left
        ·intro w' hSw
         have hSX:=hSw.2
         (try dsimp only at hSX)
         have hS1:=hx1j.trans hSX
         have hSS:=Ext.refl w'
         go_simp
         try with_reducible rfl
        try simp only [Act.put,zA,zB,zC]
        refine takeU 3 (v:=?_) rfl (by kernel_rfl) (by kernel_rfl) (by kernel_rfl) (by kernel_rfl) (by kernel_rfl) (fun _ _ _ h=>h) (by decide) (Or.inl ⟨by rfl,?_⟩) hHeld.1 hHeld.2 ?_
        rotate_left
        ·intro w' hSw
         have hSX:=hSw.2
         (try dsimp only at hSX)
         have hS1:=hx1j.trans hSX
         have hSS:=Ext.refl w'
         go_simp
         try with_reducible rfl
        try simp only [Act.put,zA,zB,zC]
        refine takeU 4 (v:=?_) rfl (by kernel_rfl) (by kernel_rfl) (by kernel_rfl) (by kernel_rfl) (by kernel_rfl) (fun _ _ _ h=>h) (by decide) (Or.inl ⟨by rfl,?_⟩) hHeld.1 hHeld.2 ?_
        rotate_left
        ·intro w' hSw
         have hSX:=hSw.2
         (try dsimp only at hSX)
         have hS1:=hx1j.trans hSX
         have hSS:=Ext.refl w'
         go_simp
         try with_reducible rfl
        try simp only [Act.put,zA,zB,zC]
        refine takeU 5 (v:=?_) rfl (by kernel_rfl) (by kernel_rfl) (by kernel_rfl) (by kernel_rfl) (by kernel_rfl) (fun _ _ _ h=>h) (by decide) (Or.inl ⟨by rfl,?_⟩) hHeld.1 hHeld.2 ?_
        rotate_left
        ·intro w' hSw
         have hSX:=hSw.2
         (try dsimp only at hSX)
         have hS1:=hx1j.trans hSX
         have hSS:=Ext.refl w'
         go_simp
         try with_reducible rfl
        try simp only [Act.put,zA,zB,zC]
        refine takeU 6 (v:=?_) rfl (by kernel_rfl) (by kernel_rfl) (by kernel_rfl) (by kernel_rfl) (by kernel_rfl) (fun _ _ _ h=>h) (by decide) (Or.inl ⟨by rfl,?_⟩) hHeld.1 hHeld.2 ?_
        rotate_left
        ·intro w' hSw
         have hSX:=hSw.2
         (try dsimp only at hSX)
         have hS1:=hx1j.trans hSX
         have hSS:=Ext.refl w'
         go_simp
         try with_reducible rfl
        try simp only [Act.put,zA,zB,zC]
        refine takeU 7 (v:=?_) rfl (by kernel_rfl) (by kernel_rfl) (by kernel_rfl) (by kernel_rfl) (by kernel_rfl) (fun _ _ _ h=>h) (by decide) (Or.inl ⟨by rfl,?_⟩) hHeld.1 hHeld.2 ?_
        rotate_left
        ·intro w' hSw
         have hSX:=hSw.2
         (try dsimp only at hSX)
         have hS1:=hx1j.trans hSX
         have hSS:=Ext.refl w'
         go_simp
         try with_reducible rfl
        try simp only [Act.put,zA,zB,zC]
        refine takeU 8 (v:=?_) rfl (by kernel_rfl) (by kernel_rfl) (by kernel_rfl) (by kernel_rfl) (by kernel_rfl) (fun _ _ _ h=>h) (by decide) (Or.inl ⟨by rfl,?_⟩) hHeld.1 hHeld.2 ?_
        rotate_left
        ·intro w' hSw
         have hSX:=hSw.2
         (try dsimp only at hSX)
         have hS1:=hx1j.trans hSX
         have hSS:=Ext.refl w'
         go_simp
         try with_reducible rfl
        try simp only [Act.put,zA,zB,zC]
        refine takeU 9 (v:=?_) rfl (by kernel_rfl) (by kernel_rfl) (by kernel_rfl) (by kernel_rfl) (by kernel_rfl) (fun _ _ _ h=>h) (by decide) (Or.inl ⟨by rfl,?_⟩) hHeld.1 hHeld.2 ?_
        rotate_left
        ·intro w' hSw
         have hSX:=hSw.2
         (try dsimp only at hSX)
         have hS1:=hx1j.trans hSX
         have hSS:=Ext.refl w'
         go_simp
         try with_reducible rfl
        try simp only [Act.put,zA,zB,zC]
        refine takeU 10 (v:=?_) rfl (by kernel_rfl) (by kernel_rfl) (by kernel_rfl) (by kernel_rfl) (by kernel_rfl) (fun _ _ _ h=>h) (by decide) (Or.inl ⟨by rfl,?_⟩) hHeld.1 hHeld.2 ?_
        rotate_left
        ·intro w' hSw
         have hSX:=hSw.2
         (try dsimp only at hSX)
         have hS1:=hx1j.trans hSX
         have hSS:=Ext.refl w'
         go_simp
         try with_reducible rfl
        try simp only [Act.put,zA,zB,zC]
        refine takeU 11 (v:=?_) rfl (by kernel_rfl) (by kernel_rfl) (by kernel_rfl) (by kernel_rfl) (by kernel_rfl) (fun _ _ _ h=>h) (by decide) (Or.inl ⟨by rfl,?_⟩) hHeld.1 hHeld.2 ?_
        rotate_left
        ·intro w' hSw
         have hSX:=hSw.2
         (try dsimp only at hSX)
         have hS1:=hx1j.trans hSX
         have hSS:=Ext.refl w'
         go_simp
         try with_reducible rfl
        try simp only [Act.put,zA,zB,zC]
        refine takeU 12 (v:=?_) rfl (by kernel_rfl) (by kernel_rfl) (by kernel_rfl) (by kernel_rfl) (by kernel_rfl) (fun _ _ _ h=>h) (by decide) (Or.inl ⟨by rfl,?_⟩) hHeld.1 hHeld.2 ?_
        rotate_left
        ·intro w' hSw
         have hSX:=hSw.2
         (try dsimp only at hSX)
         have hS1:=hx1j.trans hSX
         have hSS:=Ext.refl w'
         go_simp
         try with_reducible rfl
        try simp only [Act.put,zA,zB,zC]
        refine takeU 13 (v:=undef) rfl (by kernel_rfl) (by kernel_rfl) (by kernel_rfl) (by kernel_rfl) (by kernel_rfl) (fun _ _ _ h=>h) (by decide) (Or.inr ⟨by rfl,rfl⟩) hHeld.1 hHeld.2 ?_
        try simp only [Act.put,zA,zB,zC]
        refine takeU 14 (v:=undef) rfl (by kernel_rfl) (by kernel_rfl) (by kernel_rfl) (by kernel_rfl) (by kernel_rfl) (fun _ _ _ h=>h) (by decide) (Or.inr ⟨by rfl,rfl⟩) hHeld.1 hHeld.2 ?_
        try simp only [Act.put,zA,zB,zC]
        refine takeU 15 (v:=undef) rfl (by kernel_rfl) (by kernel_rfl) (by kernel_rfl) (by kernel_rfl) (by kernel_rfl) (fun _ _ _ h=>h) (by decide) (Or.inr ⟨by rfl,rfl⟩) hHeld.1 hHeld.2 ?_
        try simp only [Act.put,zA,zB,zC]
        refine takeU 16 (v:=undef) rfl (by kernel_rfl) (by kernel_rfl) (by kernel_rfl) (by kernel_rfl) (by kernel_rfl) (fun _ _ _ h=>h) (by decide) (Or.inr ⟨by rfl,rfl⟩) hHeld.1 hHeld.2 ?_
        try simp only [Act.put,zA,zB,zC]
        refine takeU 17 (v:=undef) rfl (by kernel_rfl) (by kernel_rfl) (by kernel_rfl) (by kernel_rfl) (by kernel_rfl) (fun _ _ _ h=>h) (by decide) (Or.inr ⟨by rfl,rfl⟩) hHeld.1 hHeld.2 ?_
        try simp only [Act.put,zA,zB,zC]
        refine takeU 18 (v:=undef) rfl (by kernel_rfl) (by kernel_rfl) (by kernel_rfl) (by kernel_rfl) (by kernel_rfl) (fun _ _ _ h=>h) (by decide) (Or.inr ⟨by rfl,rfl⟩) hHeld.1 hHeld.2 ?_
        try simp only [Act.put,zA,zB,zC]
        refine takeU 19 (v:=undef) rfl (by kernel_rfl) (by kernel_rfl) (by kernel_rfl) (by kernel_rfl) (by kernel_rfl) (fun _ _ _ h=>h) (by decide) (Or.inr ⟨by rfl,rfl⟩) hHeld.1 hHeld.2 ?_
        try simp only [Act.put,zA,zB,zC]
        refine takeU 20 (v:=?_) rfl (by kernel_rfl) (by kernel_rfl) (by kernel_rfl) (by kernel_rfl) (by kernel_rfl) (fun _ _ _ h=>h) (by decide) (Or.inl ⟨by rfl,?_⟩) hHeld.1 hHeld.2 ?_
        rotate_left
        ·intro w' hSw
         have hSX:=hSw.2
         (try dsimp only at hSX)
         have hS1:=hx1j.trans hSX
         have hSS:=Ext.refl w'
         go_simp
         try with_reducible rfl
        try simp only [Act.put,zA,zB,zC]
        refine wpAnyT_ready (rs:=[21]) (by kernel_rfl) (by simp) ?_
        refine AllReadyT.late rfl (by decide) (fun K hK=>?_) AllReadyT.nil
        go_simp
        refine hK.out _ _ trivial (fun hHeld5=>?_)
        clear hK K
        try simp only [Act.put]
        refine wpAnyT_ready (rs:=[22]) (by kernel_rfl) (by simp) ?_
        refine AllReadyT.late rfl (by decide) (fun K hK=>?_) AllReadyT.nil
        have hww:=(Ext.refl wf).drew
        go_simp
        refine hK.out _ _ trivial (fun hHeld6=>?_)
        clear hK K
        try simp only [Act.put]
        refine wpAnyT_done (by kernel_rfl) ?_ _
        clear hHeld hHeld5 hHeld6 hx1j
        clear s0 sf cg ci ck ri rk rj li
        have HB9:=Lib.hid ((HBf.out.set hli hlj true).ext (Ext.refl _).drew)
        have HX9:=Lib.hid ((hx1f.setCell (p:=⟨rb i,j,none⟩) (Nat.le_trans HG.out.2 (HBf.out.lo i hli).1) (.bool true)).drew)
        have HF9:=Lib.hid (show ∀ a c,a<n→c<n→(setF ff i j true a c=true↔if a<i∨(a=i∧c<j+1) then WarS (T.toTr.DN D.l) (k+1) a c else WarS (T.toTr.DN D.l) k a c) from fun a c ha hc=>by
         unfold setF
         by_cases e:a=i∧c=j
         ·obtain ⟨rfl,rfl⟩:=e
          rw [if_pos ⟨rfl,rfl⟩,if_pos (.inr ⟨rfl,Nat.lt_succ_self _⟩)]
          have q1:=HB1.out
          have q2:=HB2.out
          have q3:=HBI.out
          constructor
          ·intro h
           (exact .inl (q1.1 (by first | rfl | trivial)))
          ·intro h
           rfl
         ·rw [if_neg e,HFf.out a c ha hc]
          by_cases e2:a<i∨(a=i∧c<j)
          ·rw [if_pos e2,if_pos (e2.imp id fun h=>⟨h.1,by omega⟩)]
          ·rw [if_neg e2,if_neg fun h=>e2 (h.imp id fun h=>⟨h.1,by omega⟩)])
        generalize (wf.setCell ⟨rb i,j,none⟩ (.bool true)).drew=w9 at HB9 HX9 ⊢
        go_wp2_with fail
        go_roundg (n - (j+1))
        case rel=>exact ⟨j+1,_,by omega,rfl,by go_num,HB9.out,HX9.out,HF9.out⟩
        case measure=>omega
       | false =>
        have s0:∀ w',Ext wf w'→w'.cell? ⟨rb i,j,none⟩=some (.bool false):=fun w' x=>by have h1:=x.cell (hRi.c j hlj);rw [←hb1] at h1;exact h1
        have sf:∀ w',Ext wf w'→∀ o,w'.frozen? ⟨rb i,o,none⟩=false:=fun w' x o=>(x.frozen (p:=⟨rb i,o,none⟩) hRi.lt).trans (hRi.fr o)
        clear hRi hRk hBf' hb1 hb2
        have hx1j:=hx1f
        refine wp_region_T (t:=21) (S:=fun _=>True) (R:=fun w'=>Ext wf w') (by kernel_rfl) trivial (Ext.refl wf).drew (fun hHeld=>?_)
        refine takeU 0 (v:=?_) rfl (by kernel_rfl) (by kernel_rfl) (by kernel_rfl) (by kernel_rfl) (by kernel_rfl) (fun _ _ _ h=>h) (by decide) (Or.inl ⟨by rfl,?_⟩) hHeld.1 hHeld.2 ?_
        rotate_left
        ·intro w' hSw
         have hSX:=hSw.2
         (try dsimp only at hSX)
         have hS1:=hx1j.trans hSX
         have hSS:=Ext.refl w'
         go_simp
         try with_reducible rfl
        try simp only [Act.put,zA,zB,zC]
        refine takeU 1 (v:=?_) rfl (by kernel_rfl) (by kernel_rfl) (by kernel_rfl) (by kernel_rfl) (by kernel_rfl) (fun _ _ _ h=>h) (by decide) (Or.inl ⟨by rfl,?_⟩) hHeld.1 hHeld.2 ?_
        rotate_left
        ·intro w' hSw
         have hSX:=hSw.2
         (try dsimp only at hSX)
         have hS1:=hx1j.trans hSX
         have hSS:=Ext.refl w'
         go_simp
         try with_reducible rfl
        try simp only [Act.put,zA,zB,zC]
        refine takeU 2 (v:=?_) rfl (by kernel_rfl) (by kernel_rfl) (by kernel_rfl) (by kernel_rfl) (by kernel_rfl) (fun _ _ _ h=>h) (by decide) (Or.inl ⟨by rfl,?_⟩) hHeld.1 hHeld.2 ?_
        rotate_left
        ·intro w' hSw
         have hSX:=hSw.2
         (try dsimp only at hSX)
         have hS1:=hx1j.trans hSX
         have hSS:=Ext.refl w'
         go_simp
         try with_reducible rfl
        try simp only [Act.put,zA,zB,zC]
        refine takeU 3 (v:=?_) rfl (by kernel_rfl) (by kernel_rfl) (by kernel_rfl) (by kernel_rfl) (by kernel_rfl) (fun _ _ _ h=>h) (by decide) (Or.inl ⟨by rfl,?_⟩) hHeld.1 hHeld.2 ?_
        rotate_left
        ·intro w' hSw
         have hSX:=hSw.2
         (try dsimp only at hSX)
         have hS1:=hx1j.trans hSX
         have hSS:=Ext.refl w'
         go_simp
         try with_reducible rfl
        try simp only [Act.put,zA,zB,zC]
        refine takeU 4 (v:=?_) rfl (by kernel_rfl) (by kernel_rfl) (by kernel_rfl) (by kernel_rfl) (by kernel_rfl) (fun _ _ _ h=>h) (by decide) (Or.inl ⟨by rfl,?_⟩) hHeld.1 hHeld.2 ?_
        rotate_left
        ·intro w' hSw
         have hSX:=hSw.2
         (try dsimp only at hSX)
         have hS1:=hx1j.trans hSX
         have hSS:=Ext.refl w'
         go_simp
         try with_reducible rfl
        try simp only [Act.put,zA,zB,zC]
        refine takeU 5 (v:=?_) rfl (by kernel_rfl) (by kernel_rfl) (by kernel_rfl) (by kernel_rfl) (by kernel_rfl) (fun _ _ _ h=>h) (by decide) (Or.inl ⟨by rfl,?_⟩) hHeld.1 hHeld.2 ?_
        rotate_left
        ·intro w' hSw
         have hSX:=hSw.2
         (try dsimp only at hSX)
         have hS1:=hx1j.trans hSX
         have hSS:=Ext.refl w'
         go_simp
         try with_reducible rfl
        try simp only [Act.put,zA,zB,zC]
        refine takeU 6 (v:=?_) rfl (by kernel_rfl) (by kernel_rfl) (by kernel_rfl) (by kernel_rfl) (by kernel_rfl) (fun _ _ _ h=>h) (by decide) (Or.inl ⟨by rfl,?_⟩) hHeld.1 hHeld.2 ?_
        rotate_left
        ·intro w' hSw
         have hSX:=hSw.2
         (try dsimp only at hSX)
         have hS1:=hx1j.trans hSX
         have hSS:=Ext.refl w'
         go_simp
         try with_reducible rfl
        try simp only [Act.put,zA,zB,zC]
        refine takeU 7 (v:=?_) rfl (by kernel_rfl) (by kernel_rfl) (by kernel_rfl) (by kernel_rfl) (by kernel_rfl) (fun _ _ _ h=>h) (by decide) (Or.inl ⟨by rfl,?_⟩) hHeld.1 hHeld.2 ?_
        rotate_left
        ·intro w' hSw
         have hSX:=hSw.2
         (try dsimp only at hSX)
         have hS1:=hx1j.trans hSX
         have hSS:=Ext.refl w'
         go_simp
         try with_reducible rfl
        try simp only [Act.put,zA,zB,zC]
        refine takeU 8 (v:=?_) rfl (by kernel_rfl) (by kernel_rfl) (by kernel_rfl) (by kernel_rfl) (by kernel_rfl) (fun _ _ _ h=>h) (by decide) (Or.inl ⟨by rfl,?_⟩) hHeld.1 hHeld.2 ?_
        rotate_left
        ·intro w' hSw
         have hSX:=hSw.2
         (try dsimp only at hSX)
         have hS1:=hx1j.trans hSX
         have hSS:=Ext.refl w'
         go_simp
         try with_reducible rfl
        try simp only [Act.put,zA,zB,zC]
        refine takeU 9 (v:=?_) rfl (by kernel_rfl) (by kernel_rfl) (by kernel_rfl) (by kernel_rfl) (by kernel_rfl) (fun _ _ _ h=>h) (by decide) (Or.inl ⟨by rfl,?_⟩) hHeld.1 hHeld.2 ?_
        rotate_left
        ·intro w' hSw
         have hSX:=hSw.2
         (try dsimp only at hSX)
         have hS1:=hx1j.trans hSX
         have hSS:=Ext.refl w'
         go_simp
         try with_reducible rfl
        try simp only [Act.put,zA,zB,zC]
        refine takeU 10 (v:=?_) rfl (by kernel_rfl) (by kernel_rfl) (by kernel_rfl) (by kernel_rfl) (by kernel_rfl) (fun _ _ _ h=>h) (by decide) (Or.inl ⟨by rfl,?_⟩) hHeld.1 hHeld.2 ?_
        rotate_left
        ·intro w' hSw
         have hSX:=hSw.2
         (try dsimp only at hSX)
         have hS1:=hx1j.trans hSX
         have hSS:=Ext.refl w'
         go_simp
         try with_reducible rfl
        try simp only [Act.put,zA,zB,zC]
        refine takeU 11 (v:=?_) rfl (by kernel_rfl) (by kernel_rfl) (by kernel_rfl) (by kernel_rfl) (by kernel_rfl) (fun _ _ _ h=>h) (by decide) (Or.inl ⟨by rfl,?_⟩) hHeld.1 hHeld.2 ?_
        rotate_left
        ·intro w' hSw
         have hSX:=hSw.2
         (try dsimp only at hSX)
         have hS1:=hx1j.trans hSX
         have hSS:=Ext.refl w'
         go_simp
         try with_reducible rfl
        try simp only [Act.put,zA,zB,zC]
        refine takeU 12 (v:=?_) rfl (by kernel_rfl) (by kernel_rfl) (by kernel_rfl) (by kernel_rfl) (by kernel_rfl) (fun _ _ _ h=>h) (by decide) (Or.inl ⟨by rfl,?_⟩) hHeld.1 hHeld.2 ?_
        rotate_left
        ·intro w' hSw
         have hSX:=hSw.2
         (try dsimp only at hSX)
         have hS1:=hx1j.trans hSX
         have hSS:=Ext.refl w'
         go_simp
         try with_reducible rfl
        try simp only [Act.put,zA,zB,zC]
        refine takeU 13 (v:=?_) rfl (by kernel_rfl) (by kernel_rfl) (by kernel_rfl) (by kernel_rfl) (by kernel_rfl) (fun _ _ _ h=>h) (by decide) (Or.inl ⟨by rfl,?_⟩) hHeld.1 hHeld.2 ?_
        rotate_left
        ·intro w' hSw
         have hSX:=hSw.2
         (try dsimp only at hSX)
         have hS1:=hx1j.trans hSX
         have hSS:=Ext.refl w'
         go_simp
         try with_reducible rfl
        try simp only [Act.put,zA,zB,zC]
        refine takeU 14 (v:=?_) rfl (by kernel_rfl) (by kernel_rfl) (by kernel_rfl) (by kernel_rfl) (by kernel_rfl) (fun _ _ _ h=>h) (by decide) (Or.inl ⟨by rfl,?_⟩) hHeld.1 hHeld.2 ?_
        rotate_left
        ·intro w' hSw
         have hSX:=hSw.2
         (try dsimp only at hSX)
         have hS1:=hx1j.trans hSX
         have hSS:=Ext.refl w'
         go_simp
         try with_reducible rfl
        try simp only [Act.put,zA,zB,zC]
        refine takeU 15 (v:=?_) rfl (by kernel_rfl) (by kernel_rfl) (by kernel_rfl) (by kernel_rfl) (by kernel_rfl) (fun _ _ _ h=>h) (by decide) (Or.inl ⟨by rfl,?_⟩) hHeld.1 hHeld.2 ?_
        rotate_left
        ·intro w' hSw
         have hSX:=hSw.2
         (try dsimp only at hSX)
         have hS1:=hx1j.trans hSX
         have hSS:=Ext.refl w'
         go_simp
         try with_reducible rfl
        try simp only [Act.put,zA,zB,zC]
        refine takeU 16 (v:=?_) rfl (by kernel_rfl) (by kernel_rfl) (by kernel_rfl) (by kernel_rfl) (by kernel_rfl) (fun _ _ _ h=>h) (by decide) (Or.inl ⟨by rfl,?_⟩) hHeld.1 hHeld.2 ?_
        rotate_left
        ·intro w' hSw
         have hSX:=hSw.2
         (try dsimp only at hSX)
         have hS1:=hx1j.trans hSX
         have hSS:=Ext.refl w'
         go_simp
         try with_reducible rfl
        try simp only [Act.put,zA,zB,zC]
        refine takeU 17 (v:=?_) rfl (by kernel_rfl) (by kernel_rfl) (by kernel_rfl) (by kernel_rfl) (by kernel_rfl) (fun _ _ _ h=>h) (by decide) (Or.inl ⟨by rfl,?_⟩) hHeld.1 hHeld.2 ?_
        rotate_left
        ·intro w' hSw
         have hSX:=hSw.2
         (try dsimp only at hSX)
         have hS1:=hx1j.trans hSX
         have hSS:=Ext.refl w'
         go_simp
         try with_reducible rfl
        try simp only [Act.put,zA,zB,zC]
        refine takeU 18 (v:=?_) rfl (by kernel_rfl) (by kernel_rfl) (by kernel_rfl) (by kernel_rfl) (by kernel_rfl) (fun _ _ _ h=>h) (by decide) (Or.inl ⟨by rfl,?_⟩) hHeld.1 hHeld.2 ?_
        rotate_left
        ·intro w' hSw
         have hSX:=hSw.2
         (try dsimp only at hSX)
         have hS1:=hx1j.trans hSX
         have hSS:=Ext.refl w'
         go_simp
         try with_reducible rfl
        try simp only [Act.put,zA,zB,zC]
        refine takeU 19 (v:=?_) rfl (by kernel_rfl) (by kernel_rfl) (by kernel_rfl) (by kernel_rfl) (by kernel_rfl) (fun _ _ _ h=>h) (by decide) (Or.inl ⟨by rfl,?_⟩) hHeld.1 hHeld.2 ?_
        rotate_left
        ·intro w' hSw
         have hSX:=hSw.2
         (try dsimp only at hSX)
         have hS1:=hx1j.trans hSX
         have hSS:=Ext.refl w'
         go_simp
         try with_reducible rfl
        try simp only [Act.put,zA,zB,zC]
        refine takeU 20 (v:=?_) rfl (by kernel_rfl) (by kernel_rfl) (by kernel_rfl) (by kernel_rfl) (by kernel_rfl) (fun _ _ _ h=>h) (by decide) (Or.inl ⟨by rfl,?_⟩) hHeld.1 hHeld.2 ?_
        rotate_left
        ·intro w' hSw
         have hSX:=hSw.2
         (try dsimp only at hSX)
         have hS1:=hx1j.trans hSX
         have hSS:=Ext.refl w'
         go_simp
         try with_reducible rfl
        try simp only [Act.put,zA,zB,zC]
        refine wpAnyT_ready (rs:=[21]) (by kernel_rfl) (by simp) ?_
        refine AllReadyT.late rfl (by decide) (fun K hK=>?_) AllReadyT.nil
        go_simp
        refine hK.out _ _ trivial (fun hHeld5=>?_)
        clear hK K
        try simp only [Act.put]
        refine wpAnyT_ready (rs:=[22]) (by kernel_rfl) (by simp) ?_
        refine AllReadyT.late rfl (by decide) (fun K hK=>?_) AllReadyT.nil
        have hww:=(Ext.refl wf).drew
        go_simp
        refine hK.out _ _ trivial (fun hHeld6=>?_)
        clear hK K
        try simp only [Act.put]
        refine wpAnyT_done (by kernel_rfl) ?_ _
        clear hHeld hHeld5 hHeld6 hx1j
        clear s0 sf cg ci ck ri rk rj li
        have HB9:=Lib.hid ((HBf.out.set hli hlj b2).ext (Ext.refl _).drew)
        have HX9:=Lib.hid ((hx1f.setCell (p:=⟨rb i,j,none⟩) (Nat.le_trans HG.out.2 (HBf.out.lo i hli).1) (.bool b2)).drew)
        have HF9:=Lib.hid (show ∀ a c,a<n→c<n→(setF ff i j b2 a c=true↔if a<i∨(a=i∧c<j+1) then WarS (T.toTr.DN D.l) (k+1) a c else WarS (T.toTr.DN D.l) k a c) from fun a c ha hc=>by
         unfold setF
         by_cases e:a=i∧c=j
         ·obtain ⟨rfl,rfl⟩:=e
          rw [if_pos ⟨rfl,rfl⟩,if_pos (.inr ⟨rfl,Nat.lt_succ_self _⟩)]
          have q1:=HB1.out
          have q2:=HB2.out
          have q3:=HBI.out
          constructor
          ·intro h
           (exact .inr ⟨q3.1 (by first | rfl | trivial),q2.1 h⟩)
          ·intro h
           (exact h.elim (fun h=>absurd (q1.2 h) (by decide)) (fun h=>q2.2 h.2))
         ·rw [if_neg e,HFf.out a c ha hc]
          by_cases e2:a<i∨(a=i∧c<j)
          ·rw [if_pos e2,if_pos (e2.imp id fun h=>⟨h.1,by omega⟩)]
          ·rw [if_neg e2,if_neg fun h=>e2 (h.imp id fun h=>⟨h.1,by omega⟩)])
        generalize (wf.setCell ⟨rb i,j,none⟩ (.bool b2)).drew=w9 at HB9 HX9 ⊢
        go_wp2_with fail
        go_roundg (n - (j+1))
        case rel=>exact ⟨j+1,_,by omega,rfl,by go_num,HB9.out,HX9.out,HF9.out⟩
        case measure=>omega
  have hlt':(i:Int)<(n:Int):=by omega
  go_upto_region 7 with (at_make;refine wpList_make_full _ rfl _ _ 68 rfl wr.heap.size 4 j0 (.bool false) 1 Tryz.underlying68 hj0 hy0 hy1 .i64 .i64 _ _ n rfl rfl rfl rfl (by rw [hy2];omega) (by unfold maxLen;omega) (Nat.le_refl _) ?_;intro w4 hown4 hg4;have hx4:Ext wr w4:=((Below.refl _ _).grown hg4 (Nat.le_refl _) (by simp));have HR4:=Lib.hid (BRow.made hown4);have HB4:=Lib.hid (HB.out.ext hx4);have s0:∀ w',Ext w4 w'→w'.cell? ⟨g,i,none⟩=some (.slice none 0 0):=(fun w' x=>x.cell (HB4.out.h0 i (Nat.le_refl _) hlt));have sf:∀ w',Ext w4 w'→∀ o,w'.frozen? ⟨g,o,none⟩=false:=(fun w' x o=>(x.frozen (p:=⟨g,o,none⟩) HB4.out.lt).trans (HB4.out.fr o));have sl:∀ w',Ext w4 w'→g<w'.heap.size:=(fun w' x=>Nat.lt_of_lt_of_le HB4.out.lt x.le);have h44:Ext w4 w4:=Ext.refl _;clear hown4 hg4)
  have hB5:=HB4.out.add hlt HR4.out (by have:=HB.out.lt;omega) (by have:=HB.out.lt;omega) (fun k hk=>by have:=(HB.out.row k hk).lt;omega)
  have hx15:=(hx1r.trans hx4).setCell (p:=⟨g,i,none⟩) HG.out.2 (.slice (some ⟨wr.heap.size,0,none⟩) n n)
  have hf5:∀ a c,a<i→c<n→((if a=i then false else f a c)=true↔T.toTr.DN D.l a c):=fun a c ha hc=>by rw [if_neg (by omega)];exact HF.out a c ha hc
  clear s0 sf sl h44 hx4 hxwr hx1r
  obtain ⟨rb5,hrb5⟩:∃ z,z=setS rb i wr.heap.size:=⟨_,rfl⟩
  rw [←hrb5] at hB5
  generalize w4.setCell ⟨g,i,none⟩ (.slice (some ⟨wr.heap.size,0,none⟩) n n)=w5 at hB5 hx15 ⊢
  have HB5:=Lib.hid hB5
  have HF5:=Lib.hid hf5
  clear hB5 hf5 hrb5
  go_wp2_with fail
  go_loopg [8] n (fun gg v8 wj=>∃ (j:Nat) (f:Nat→Nat→Bool),j≤n∧gg=n - j∧v8=.int .i64 j∧BT g g n rb5 (i+1) f wj∧Ext w1 wj∧(∀ a c,a<i→c<n→(f a c=true↔T.toTr.DN D.l a c))∧∀ c,c<j→(f i c=true↔T.toTr.DN D.l i c))
  case atStart=>exact ⟨0,_,by omega,rfl,rfl,HB5.out,hx15,HF5.out,fun c h=>absurd h (Nat.not_lt_zero _)⟩
  case round=>
   rename World=>wj
   obtain ⟨j,fj,hj,rfl,rfl,hBj,hx1j,hfa,hfi⟩:=hrel
   have HBj:=Lib.hid hBj
   have HFa:=Lib.hid hfa
   have HFi:=Lib.hid hfi
   have hxwj:=hx1.trans hx1j
   clear hBj hfa hfi hx15
   by_cases hlj:j<n
   case neg=>
    obtain rfl:j=n:=by omega
    have HFN:=Lib.hid (show ∀ a c,a<i+1→c<j→(fj a c=true↔T.toTr.DN D.l a c) from fun a c ha hc=>by
     by_cases e:a=i
     ·subst e;exact HFi.out c hc
     ·exact HFa.out a c (by omega) hc)
    go_wp2_with fail
    go_roundg (j - (i+1))
    case rel=>exact ⟨i+1,_,_,by omega,rfl,by go_num,HBj.out,hx1j,HFN.out⟩
    case measure=>omega
   have hlj':(j:Int)<(n:Int):=by omega
   obtain ⟨⟨xp,xi⟩,hxV,hxn⟩:=numE_ex (T:=T.toTr) (k:=i) (Nat.le_refl _) (by rw [←HN.out];exact hlt)
   obtain ⟨⟨yp,yi⟩,hyV,hyn⟩:=numE_ex (T:=T.toTr) (k:=j) (Nat.le_refl _) (by rw [←HN.out];exact hlj)
   obtain ⟨b,hb⟩:=exists_bool ((yp,yi)∈T.toTr.gr D.l (xp,xi))
   have hD:=fun W (h:Ext w W)=>bool_fix (HDI.out W h xp xi yp yi hxV hyV) hb
   have HBB:=Lib.hid (show b=true↔T.toTr.DN D.l i j from by rw [hb,←dn_iff hxV hyV,hxn,hyn])
   have hE1:=fun W (h:Ext w W)=>HE.out W h xp xi hxV
   have hE2:=fun W (h:Ext w W)=>HE.out W h yp yi hyV
   have exn:tot T.en xp+xi=i:=hxn
   have eyn:tot T.en yp+yi=j:=hyn
   rw [exn] at hE1
   rw [eyn] at hE2
   have c10:∀ w',Ext wj w'→w'.cell? ⟨g,i,none⟩=some (.slice (some ⟨rb5 i,0,none⟩) n n):=fun w' x=>x.cell (HBj.out.h1 i (Nat.lt_succ_self _))
   have l10:∀ w',Ext wj w'→g<w'.heap.size:=fun w' x=>Nat.lt_of_lt_of_le HBj.out.lt x.le
   have HD1:=Lib.hid hD
   have HE1:=Lib.hid hE1
   have HE2:=Lib.hid hE2
   clear hb hD hE1 hE2 exn eyn hxn hyn hxV hyV
   go_upto_region 10 with fail
   refine wp_region_T (t:=14) (S:=fun _=>True) (R:=fun w'=>Ext wj w') (by kernel_rfl) trivial (Ext.refl wj).drew (fun hHeld=>?_)
   refine takeU 0 (v:=?_) rfl (by kernel_rfl) (by kernel_rfl) (by kernel_rfl) (by kernel_rfl) (by kernel_rfl) (fun _ _ _ h=>h) (by decide) (Or.inl ⟨by rfl,?_⟩) hHeld.1 hHeld.2 ?_
   rotate_left
   ·intro w' hSw
    have hSX:=hSw.2
    (try dsimp only at hSX)
    have hS1:=hx1j.trans hSX
    have hSS:=Ext.refl w'
    go_simp
    try with_reducible rfl
   try simp only [Act.put,zA,zB,zC]
   refine takeU 1 (v:=?_) rfl (by kernel_rfl) (by kernel_rfl) (by kernel_rfl) (by kernel_rfl) (by kernel_rfl) (fun _ _ _ h=>h) (by decide) (Or.inl ⟨by rfl,?_⟩) hHeld.1 hHeld.2 ?_
   rotate_left
   ·intro w' hSw
    have hSX:=hSw.2
    (try dsimp only at hSX)
    have hS1:=hx1j.trans hSX
    have hSS:=Ext.refl w'
    go_simp
    try with_reducible rfl
   try simp only [Act.put,zA,zB,zC]
   refine takeU 2 (v:=?_) rfl (by kernel_rfl) (by kernel_rfl) (by kernel_rfl) (by kernel_rfl) (by kernel_rfl) (fun _ _ _ h=>h) (by decide) (Or.inl ⟨by rfl,?_⟩) hHeld.1 hHeld.2 ?_
   rotate_left
   ·intro w' hSw
    have hSX:=hSw.2
    (try dsimp only at hSX)
    have hS1:=hx1j.trans hSX
    have hSS:=Ext.refl w'
    go_simp
    try with_reducible rfl
   try simp only [Act.put,zA,zB,zC]
   refine takeU 3 (v:=?_) rfl (by kernel_rfl) (by kernel_rfl) (by kernel_rfl) (by kernel_rfl) (by kernel_rfl) (fun _ _ _ h=>h) (by decide) (Or.inl ⟨by rfl,?_⟩) hHeld.1 hHeld.2 ?_
   rotate_left
   ·intro w' hSw
    have hSX:=hSw.2
    (try dsimp only at hSX)
    have hS1:=hx1j.trans hSX
    have hSS:=Ext.refl w'
    go_simp
    try with_reducible rfl
   try simp only [Act.put,zA,zB,zC]
   refine takeU 4 (v:=?_) rfl (by kernel_rfl) (by kernel_rfl) (by kernel_rfl) (by kernel_rfl) (by kernel_rfl) (fun _ _ _ h=>h) (by decide) (Or.inl ⟨by rfl,?_⟩) hHeld.1 hHeld.2 ?_
   rotate_left
   ·intro w' hSw
    have hSX:=hSw.2
    (try dsimp only at hSX)
    have hS1:=hx1j.trans hSX
    have hSS:=Ext.refl w'
    go_simp
    try with_reducible rfl
   try simp only [Act.put,zA,zB,zC]
   refine takeU 5 (v:=?_) rfl (by kernel_rfl) (by kernel_rfl) (by kernel_rfl) (by kernel_rfl) (by kernel_rfl) (fun _ _ _ h=>h) (by decide) (Or.inl ⟨by rfl,?_⟩) hHeld.1 hHeld.2 ?_
   rotate_left
   ·intro w' hSw
    have hSX:=hSw.2
    (try dsimp only at hSX)
    have hS1:=hx1j.trans hSX
    have hSS:=Ext.refl w'
    go_simp
    try with_reducible rfl
   try simp only [Act.put,zA,zB,zC]
   refine takeU 6 (v:=?_) rfl (by kernel_rfl) (by kernel_rfl) (by kernel_rfl) (by kernel_rfl) (by kernel_rfl) (fun _ _ _ h=>h) (by decide) (Or.inl ⟨by rfl,?_⟩) hHeld.1 hHeld.2 ?_
   rotate_left
   ·intro w' hSw
    have hSX:=hSw.2
    (try dsimp only at hSX)
    have hS1:=hx1j.trans hSX
    have hSS:=Ext.refl w'
    go_simp
    try with_reducible rfl
   try simp only [Act.put,zA,zB,zC]
   refine takeU 7 (v:=?_) rfl (by kernel_rfl) (by kernel_rfl) (by kernel_rfl) (by kernel_rfl) (by kernel_rfl) (fun _ _ _ h=>h) (by decide) (Or.inl ⟨by rfl,?_⟩) hHeld.1 hHeld.2 ?_
   rotate_left
   ·intro w' hSw
    have hSX:=hSw.2
    (try dsimp only at hSX)
    have hS1:=hx1j.trans hSX
    have hSS:=Ext.refl w'
    go_simp
    try with_reducible rfl
   try simp only [Act.put,zA,zB,zC]
   refine takeU 8 (v:=?_) rfl (by kernel_rfl) (by kernel_rfl) (by kernel_rfl) (by kernel_rfl) (by kernel_rfl) (fun _ _ _ h=>h) (by decide) (Or.inl ⟨by rfl,?_⟩) hHeld.1 hHeld.2 ?_
   rotate_left
   ·intro w' hSw
    have hSX:=hSw.2
    (try dsimp only at hSX)
    have hS1:=hx1j.trans hSX
    have hSS:=Ext.refl w'
    go_simp
    try with_reducible rfl
   try simp only [Act.put,zA,zB,zC]
   refine takeU 10 (v:=?_) rfl (by kernel_rfl) (by kernel_rfl) (by kernel_rfl) (by kernel_rfl) (by kernel_rfl) (fun _ _ _ h=>h) (by decide) (Or.inl ⟨by rfl,?_⟩) hHeld.1 hHeld.2 ?_
   rotate_left
   ·intro w' hSw
    have hSX:=hSw.2
    (try dsimp only at hSX)
    have hS1:=hx1j.trans hSX
    have hSS:=Ext.refl w'
    go_simp
    try with_reducible rfl
   try simp only [Act.put,zA,zB,zC]
   refine takeU 11 (v:=?_) rfl (by kernel_rfl) (by kernel_rfl) (by kernel_rfl) (by kernel_rfl) (by kernel_rfl) (fun _ _ _ h=>h) (by decide) (Or.inl ⟨by rfl,?_⟩) hHeld.1 hHeld.2 ?_
   rotate_left
   ·intro w' hSw
    have hSX:=hSw.2
    (try dsimp only at hSX)
    have hS1:=hx1j.trans hSX
    have hSS:=Ext.refl w'
    go_simp
    try with_reducible rfl
   try simp only [Act.put,zA,zB,zC]
   clear c10 l10
   refine wpAnyT_ready (rs:=[9]) (by kernel_rfl) (by simp) ?_
   refine AllReadyT.cons rfl (fun K hK=>?_) AllReadyT.nil
   go_simp
   go_at_call 96
   refine (HE1.out wj.drew hxwj.drew).mono ?_
   rintro e w6 ⟨rfl,hx6⟩
   have hxj6:Ext wj w6:=(Ext.refl wj).drew.trans hx6
   refine hK.out _ _ ⟨trivial,hxj6⟩ (fun hHeld2=>?_)
   clear hK K
   try simp only [Act.put]
   refine wpAnyT_ready (rs:=[12]) (by kernel_rfl) (by simp) ?_
   refine AllReadyT.cons rfl (fun K hK=>?_) AllReadyT.nil
   go_simp
   go_at_call 96
   refine (HE2.out w6 (hxwj.trans hxj6)).mono ?_
   rintro e w7 ⟨rfl,hx7⟩
   have hxj7:Ext wj w7:=hxj6.trans hx7
   refine hK.out _ _ ⟨trivial,hxj7⟩ (fun hHeld3=>?_)
   clear hK K
   try simp only [Act.put]
   refine wpAnyT_ready (rs:=[13]) (by kernel_rfl) (by simp) ?_
   refine AllReadyT.cons rfl (fun K hK=>?_) AllReadyT.nil
   go_simp
   go_at_call 95
   refine (HD1.out w7 (hxwj.trans hxj7)).mono ?_
   rintro e w8 ⟨rfl,hx8⟩
   have hxj8:Ext wj w8:=hxj7.trans hx8
   refine hK.out _ _ ⟨trivial,hxj8⟩ (fun hHeld4=>?_)
   clear hK K
   try simp only [Act.put]
   clear hHeld hHeld2 hHeld3 hHeld4 hx6 hx7 hx8 hxj6 hxj7
   have hB8:=HBj.out.ext hxj8
   have hR8:=hB8.row i (Nat.lt_succ_self _)
   have s0:∀ w',Ext w8 w'→w'.cell? ⟨rb5 i,j,none⟩=some (.bool (fj i j)):=fun w' x=>x.cell (hR8.c j hlj)
   have sf:∀ w',Ext w8 w'→∀ o,w'.frozen? ⟨rb5 i,o,none⟩=false:=fun w' x o=>(x.frozen (p:=⟨rb5 i,o,none⟩) hR8.lt).trans (hR8.fr o)
   have sl:∀ w',Ext w8 w'→rb5 i<w'.heap.size:=fun w' x=>Nat.lt_of_lt_of_le hR8.lt x.le
   have h88:Ext w8 w8:=Ext.refl _
   have HB9:=Lib.hid (hB8.set (Nat.lt_succ_self i) hlj b)
   have HX9:=Lib.hid ((hx1j.trans hxj8).setCell (p:=⟨rb5 i,j,none⟩) (Nat.le_trans HG.out.2 (hB8.lo i (Nat.lt_succ_self _)).1) (.bool b))
   clear hB8 hR8
   refine wpAnyT_ready (rs:=[14]) (by kernel_rfl) (by simp) ?_
   refine AllReadyT.late rfl (by decide) (fun K hK=>?_) AllReadyT.nil
   go_simp
   refine hK.out _ _ trivial (fun hHeld5=>?_)
   clear hK K
   try simp only [Act.put]
   refine wpAnyT_ready (rs:=[15]) (by kernel_rfl) (by simp) ?_
   refine AllReadyT.late rfl (by decide) (fun K hK=>?_) AllReadyT.nil
   go_simp
   refine hK.out _ _ trivial (fun hHeld6=>?_)
   clear hK K
   try simp only [Act.put]
   refine wpAnyT_done (by kernel_rfl) ?_ _
   clear s0 sf sl h88 hHeld5 hHeld6 hxj8
   generalize w8.setCell ⟨rb5 i,j,none⟩ (.bool b)=w9 at HB9 HX9 ⊢
   have HFa2:=Lib.hid (show ∀ a c,a<i→c<n→(setF fj i j b a c=true↔T.toTr.DN D.l a c) from fun a c ha hc=>by unfold setF;rw [if_neg (by omega)];exact HFa.out a c ha hc)
   have HFi2:=Lib.hid (show ∀ c,c<j+1→(setF fj i j b i c=true↔T.toTr.DN D.l i c) from fun c hc=>by
    unfold setF
    by_cases e:c=j
    ·subst e;rw [if_pos ⟨rfl,rfl⟩];exact HBB.out
    ·rw [if_neg fun h=>e h.2];exact HFi.out c (by omega))
   go_wp2_with fail
   go_roundg (n - (j+1))
   case rel=>exact ⟨j+1,_,by omega,rfl,by go_num,HB9.out,HX9.out,HFa2.out,HFi2.out⟩
   case measure=>omega
end Go.Proofs.YtkhgpockmaghjaaGreat
