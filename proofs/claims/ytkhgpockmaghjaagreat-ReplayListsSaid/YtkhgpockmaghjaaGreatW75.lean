/- Contracts and laws in plain Lean for RLis: group W75. -/
import Derived.Test.YtkhgpockmaghjaaGreatW38
import Derived.Test.YtkhgpockmaghjaaGreatW65
import Derived.Test.YtkhgpockmaghjaaGreatW36
import Derived.Test.YtkhgpockmaghjaaGreatW56
set_option maxRecDepth 100000
namespace Go.Proofs.YtkhgpockmaghjaaGreat
open Go.RowKit Go.Shelf
attribute [local go_sem] Oper.semAt_some
set_option maxHeartbeats 1000000 in
theorem rnegative_any (w : World) (a : Option Addr) (g o n cap : Nat) (v : Nat → Int) (h : NumAt w n a g o v) :
    Calls Tryz.prog 73 #[.slice a n cap] w (BoolPost (∃ i,i<n∧v i<0) w):=by
 have hn:=h.hn
 have H:=Lib.hid h
 have hww:Ext w w:=Ext.refl _
 clear h
 go_enter Tryz.func73,Tryz.ntmps73
 go_wp2_with fail
 go_loopg [3] n (fun gg v3 wr=>∃ k:Nat,k≤n∧gg=n - k∧v3=.int .i64 k∧Ext w wr∧∀ i,i<k→¬v i<0)
 case atStart=>exact ⟨0,by omega,rfl,rfl,hww,fun i h=>absurd h (Nat.not_lt_zero _)⟩
 case round=>
  obtain ⟨k,hk,rfl,rfl,hxr,hN⟩:=hrel
  have HN:=Lib.hid hN
  clear hN
  by_cases hlt:k<n
  case neg=>
   obtain rfl:k=n:=by omega
   have HA:=Lib.hid (show ¬ ∃ i,i<k∧v i<0 from fun ⟨i,hi,h⟩=>HN.out i hi h)
   go_wp2_with fail
   go_ret
   exact ⟨false,rfl,⟨fun h=>(by cases h),fun h=>absurd h HA.out⟩,hxr⟩
  have hlt':(k:Int)<(n:Int):=by omega
  obtain rfl:=H.out.pa (by omega)
  obtain ⟨x,hx⟩:∃ z,z=v k:=⟨_,rfl⟩
  have pb:∀ w',Ext w w'→g<w'.heap.size:=fun w' y=>Nat.lt_of_lt_of_le (H.out.pb (by omega)) y.le
  have pc:∀ w',Ext w w'→w'.cell? ⟨g,o+k,none⟩=some (.int .i64 x):=fun w' y=>by rw [hx];exact y.cell (H.out.c k hlt)
  have HX:=Lib.hid hx
  clear hx
  by_cases h0:x<0
  ·have HY:=Lib.hid (show ∃ i,i<n∧v i<0 from ⟨k,hlt,by rw [←HX.out];exact h0⟩)
   go_wp2_with fail
   go_ret
   exact ⟨true,rfl,⟨fun _=>HY.out,fun _=>rfl⟩,hxr⟩
  ·have h1:(0:Int)≤x:=by omega
   have HN2:=Lib.hid (show ∀ i,i<k+1→¬v i<0 from fun i hi=>by
    by_cases e:i=k
    ·subst e;rw [←HX.out];exact h0
    ·exact HN.out i (by omega))
   go_wp2_with fail
   go_roundg (n - (k+1))
   case rel=>exact ⟨k+1,by omega,rfl,by go_num,hxr,HN2.out⟩
   case measure=>omega
set_option maxHeartbeats 4000000 in
theorem rins45_any (w : World) (n base : Nat) (v : Value) (R : List Row) (hR : RowsQ w base v R) (hb : base ≤ w.heap.size) (hO : ∀ x ∈ R, RowOk n x) (hl : R.length ≤ 100000) (r : Row) (hr : r.At w) (hro : RowOk n r) :
    Calls Tryz.prog 75 #[v,r.val] w (RinsPost n base v R r w):=by
 obtain ⟨j0,hj0,hy0,hy1,hy2⟩:=info_parts infoInts1
 obtain ⟨a,g,o,cap,rfl,hcap,hag,hget⟩:=hR.get
 have HBE:=Lib.hid (fun W (x:Ext w W) k (hk:k<R.length)=>(show Calls Tryz.prog 106 #[.slice R[k].a R[k].l.length R[k].c,.slice r.a r.l.length r.c] W (BoolPost (R[k].bef n r) W) from by
  have h1:=hO _ (List.getElem_mem hk)
  have h2:=(hR.2 _ (List.getElem_mem hk)).ext x
  have h3:=hr.ext x
  unfold Row.At at h2 h3
  rw [h1.len] at h2 ⊢
  rw [hro.len] at h3 ⊢
  exact rbef_any W R[k].a r.a R[k].g R[k].o r.g r.o n R[k].c r.c (fn R[k].l) (fn r.l) h2 h3 h1.sm hro.sm))
 have HSA:=Lib.hid (fun W (x:Ext w W) k (hk:k<R.length)=>(show Calls Tryz.prog 107 #[.slice R[k].a R[k].l.length R[k].c,.slice r.a r.l.length r.c] W (BoolPost (R[k].l=r.l) W) from
  (rsamecut_any W R[k].a r.a R[k].g R[k].o r.g r.o R[k].l.length r.l.length R[k].c r.c (natV (fn R[k].l)) (natV (fn r.l)) ((hR.2 _ (List.getElem_mem hk)).ext x) (hr.ext x)).mono fun e w' ⟨b,he,hb,hx⟩=>⟨b,he,hb.trans ⟨fun h=>fn_ext h.1 fun p hp=>by have:=h.2 p hp;show fn R[k].l p=fn r.l p;exact Int.ofNat.inj this,fun h=>by rw [h];exact ⟨rfl,fun _ _=>rfl⟩⟩,hx⟩))
 have HR:=Lib.hid hR
 have HGE:=Lib.hid hget
 have HAG:=Lib.hid hag
 have HRR:=Lib.hid hr
 have HB:=Lib.hid hb
 unfold RinsPost
 simp only [Row.val]
 obtain ⟨len,hlen⟩:∃ z,z=R.length:=⟨_,rfl⟩
 have HLE:=Lib.hid hlen
 obtain ⟨rn,hrn⟩:∃ z,z=r.l.length:=⟨_,rfl⟩
 have HRN:=Lib.hid hrn
 rw [←hlen] at hl hcap ⊢
 rw [←hrn] at HSA HBE ⊢
 have hww:Ext w w:=Ext.refl _
 clear hR hO hr hro hget hag hlen hrn
 go_enter Tryz.func75,Tryz.ntmps75
 go_wp2_with fail
 go_loopg [5] len (fun gg v5 wr=>∃ k:Nat,k≤len∧gg=len - k∧v5=.int .i64 k∧Ext w wr∧∀ j (hj:j<R.length),j<k→R[j].bef n r)
 case atStart=>exact ⟨0,by omega,rfl,rfl,hww,fun j _ h=>by omega⟩
 case round=>
  obtain ⟨k,hk,rfl,rfl,hxr,hall⟩:=hrel
  have HA:=Lib.hid hall
  clear hall
  by_cases hlt:k<len
  ·have hlt':(k:Int)<(len:Int):=by omega
   have hkR:k<R.length:=by rw [←HLE.out];exact hlt
   obtain ⟨rfl,hbg,hgl⟩:=HAG.out (by omega)
   have hbe:=HBE.out wr hxr k hkR
   have hcell:=HGE.out k hkR
   obtain ⟨ra,hra⟩:∃ z,z=R[k].a:=⟨_,rfl⟩
   obtain ⟨rl,hrl⟩:∃ z,z=R[k].l.length:=⟨_,rfl⟩
   obtain ⟨rc,hrc⟩:∃ z,z=R[k].c:=⟨_,rfl⟩
   have HEQ:=Lib.hid (And.intro hra (And.intro hrl hrc))
   rw [←hra,←hrl,←hrc] at hbe hcell
   have pb:∀ w',Ext w w'→g<w'.heap.size:=fun w' x=>Nat.lt_of_lt_of_le hgl x.le
   clear hra hrl hrc hgl
   go_wp2_with fail
   go_at_call 106
   refine hbe.mono ?_
   rintro e w2 ⟨bb,rfl,hbb,hx2⟩
   have hx02:=hxr.trans hx2
   have HBB:=Lib.hid hbb
   clear hbe hbb hx2
   cases bb with
   | true =>
    go_wp2_with fail
    go_roundg (len - (k+1))
    case rel=>exact ⟨k+1,by omega,rfl,by go_num,hx02,fun j hj hjk=>by
     by_cases e:j=k
     ·subst e;exact HBB.out.1 (by first | rfl | trivial)
     ·exact HA.out j hj (by omega)⟩
    case measure=>omega
   | false =>
    have HNB:=Lib.hid (show ¬R[k].bef n r from fun h=>absurd (HBB.out.2 h) (by decide))
    have hsa:=HSA.out w2 hx02 k hkR
    rw [←HEQ.out.1,←HEQ.out.2.1,←HEQ.out.2.2] at hsa
    go_wp2_with fail
    go_at_call 107
    refine hsa.mono ?_
    rintro e w3 ⟨bs,rfl,hbs,hx3⟩
    have hx03:=hx02.trans hx3
    have HBS:=Lib.hid hbs
    clear hsa hbs hx3
    cases bs with
    | true =>
     go_wp2_with fail
     go_ret
     exact ⟨hx03,_,R,rfl,by rw [HLE.out];exact HR.out.ext hx03,⟨k,by rw [←HLE.out];omega,HA.out,fun _=>HNB.out,.inl ⟨hkR,HBS.out.1 (by first | rfl | trivial),rfl⟩⟩,.inl rfl⟩
    | false =>
     have hck:¬cap=k:=by omega
     go_upto_region 7 with (at_builtin;refine wpList_append_que _ rfl _ _ 47 47 rfl (base:=w.heap.size) (e:=39) (size:=1) j0 (.slice none 0 0) 24 Tryz.underlying47 hj0 hy0 hy1 hy2 rfl rfl (v:=.slice (some ⟨(w3).heap.size,0,none⟩) 0 0) (n:=0) (xs:=[]) ⟨rfl,.inl ⟨_,rfl,rfl,fun a e=>by cases e;exact (hx03).le⟩⟩ (by rw [World.size_alloc];have:=(hx03).le;omega) (.slice (some ⟨g,o,none⟩) k cap) k ((R.take k).map Row.val) rfl (rows_take HGE.out (by rw [←HLE.out];omega) cap (hx03.alloc' _)) (by unfold maxLen;omega) (by omega) ?_;rintro v5 w5 hq5 hg5 -)
     rw [Nat.zero_add,List.nil_append] at hq5
     have hx5:Ext w w5:=((hx03).alloc' _).below.grown hg5 (by rw [World.size_alloc];have:=(hx03).le;omega) (by intro k hk;simp [Value.ownBlock] at hk;have:=(hx03).le;omega)
     obtain ⟨a5,c5,rfl⟩:=hq5.slice
     have HQ5:=Lib.hid hq5
     clear hq5 hg5
     refine wp_region_held_drew (S:=fun w'=>Ext w w') (by kernel_rfl) hx5.drew (fun hHeld=>?_)
     refine hQ 0 (v:=?_) rfl (y:=.inl ⟨by rfl,?_⟩) (h:=?_)
     rotate_left
     ·(intro w' hSw;(try dsimp only at hSw);have hSS:=Ext.refl w';go_simp;try with_reducible rfl)
     try simp only [Act.put,zA,zB,zC]
     refine hQ 1 (v:=?_) rfl (y:=.inl ⟨by rfl,?_⟩) (h:=?_)
     rotate_left
     ·(intro w' hSw;(try dsimp only at hSw);have hSS:=Ext.refl w';go_simp;try with_reducible rfl)
     try simp only [Act.put,zA,zB,zC]
     refine hQ 4 (v:=?_) rfl (y:=.inl ⟨by rfl,?_⟩) (h:=?_)
     rotate_left
     ·(intro w' hSw;(try dsimp only at hSw);have hSS:=Ext.refl w';go_simp;try with_reducible rfl)
     try simp only [Act.put,zA,zB,zC]
     refine hQ 5 (v:=?_) rfl (y:=.inl ⟨by rfl,?_⟩) (h:=?_)
     rotate_left
     ·(intro w' hSw;(try dsimp only at hSw);have hSS:=Ext.refl w';go_simp;try with_reducible rfl)
     try simp only [Act.put,zA,zB,zC]
     refine hQ 6 (v:=?_) rfl (y:=.inl ⟨by rfl,?_⟩) (h:=?_)
     rotate_left
     ·(intro w' hSw;(try dsimp only at hSw);have hSS:=Ext.refl w';go_simp;try with_reducible rfl)
     try simp only [Act.put,zA,zB,zC]
     refine wpAnyH_ready (rs:=[2]) (by kernel_rfl) (by simp) ?_
     refine AllReadyH.cons rfl (fun K hK=>?_) AllReadyH.nil
     go_simp
     refine hK.out _ _ (hx5.drew.alloc' _) (fun hHeld2=>?_)
     clear hK K
     try simp only [Act.put]
     refine wpAnyH_ready (rs:=[3]) (by kernel_rfl) (by simp) ?_
     refine AllReadyH.cons rfl (fun K hK=>?_) AllReadyH.nil
     refine step_append_que _ rfl _ _ 47 47 rfl (base:=w.heap.size) (e:=39) (size:=1) j0 (.slice none 0 0) 24 Tryz.underlying47 hj0 hy0 hy1 hy2 rfl (v:=.slice a5 k c5) (n:=k) (xs:=(R.take k).map Row.val) rfl (HQ5.out.ext ((Ext.alloc w5 _).trans (Ext.refl _).drew)) (Nat.le_trans hx5.le (by show w5.heap.size≤(w5.alloc _).heap.size;simp)) (.slice (some ⟨w5.heap.size,0,none⟩) 1 1) 1 [.slice r.a rn r.c] rfl (((RowM.new w5 [.slice r.a rn r.c] 39 1 rfl).ext (Ext.refl _).drew).src (P:=Tryz.prog) Tryz.underlying47 (by intro u hu;simp at hu;subst hu;rfl)) (by unfold maxLen;omega) (by omega) ?_
     intro v6 w6 hq6 hg6 hat6
     have hx6:Ext w w6:=Below.grown (show Below w.heap.size w _ from hx5.trans ((Ext.alloc w5 _).trans (Ext.refl _).drew)) hg6 (Nat.le_trans hx5.le (by show w5.heap.size≤(w5.alloc _).heap.size;simp)) HQ5.out.block
     obtain ⟨a6,c6,rfl⟩:=hq6.slice
     have HQ6:=Lib.hid hq6
     clear hq6 hg6 hat6
     refine hK.out _ _ hx6 (fun hHeld3=>?_)
     clear hK K
     try simp only [Act.put,List.getElem_toArray,List.getElem_cons_succ,List.getElem_cons_zero,List.setIfInBounds_toArray,List.set_cons_succ,List.set_cons_zero]
     refine wpAnyH_ready (rs:=[7]) (by kernel_rfl) (by simp) ?_
     refine AllReadyH.cons rfl (fun K hK=>?_) AllReadyH.nil
     refine step_append_que _ rfl _ _ 47 47 rfl (base:=w.heap.size) (e:=39) (size:=1) j0 (.slice none 0 0) 24 Tryz.underlying47 hj0 hy0 hy1 hy2 rfl (v:=.slice a6 (k+1) c6) (n:=k+1) (xs:=(R.take k).map Row.val++[.slice r.a rn r.c]) rfl (by exact HQ6.out) (by have:=hx6.le;omega) (.slice (some ⟨g,o+k,none⟩) (len - k) (cap - k)) (len - k) ((R.drop k).map Row.val) rfl (by have h1:=rows_drop HGE.out hkR (cap - k) hx6;rw [←HLE.out] at h1;exact h1) (by unfold maxLen;omega) (by omega) ?_
     intro v7 w7 hq7 hg7 hat7
     have hx7:Ext w w7:=(hx6.below).grown hg7 (by have:=hx6.le;omega) HQ6.out.block
     obtain ⟨a7,c7,rfl⟩:=hq7.slice
     have HF:=Lib.hid (fun _:True=>(show RowsQ w7 base (.slice a7 (k+1+(len - k)) c7) (R.take k++r :: R.drop k) from ⟨by
      have h1:(R.take k++r :: R.drop k).map Row.val=(R.take k).map Row.val++[.slice r.a rn r.c]++(R.drop k).map Row.val:=by rw [HRN.out];simp [Row.val]
      have h2:(R.take k++r :: R.drop k).length=k+1+(len - k):=by rw [List.length_append,List.length_cons,List.length_take,List.length_drop];have:=HLE.out;omega
      rw [h1,h2];exact hq7.mono HB.out,fun x hx=>by
      have h3:x=r∨x∈R:=by
       rcases List.mem_append.1 hx with h | h
       ·exact .inr (List.mem_of_mem_take h)
       ·rcases List.mem_cons.1 h with h | h
        ·exact .inl h
        ·exact .inr (List.mem_of_mem_drop h)
      rcases h3 with rfl | h3
      ·exact HRR.out.ext hx7
      ·exact (HR.out.2 x h3).ext hx7⟩))
     have HFB:=Lib.hid hq7.block
     clear hq7 hg7 hat7
     refine hK.out _ _ hx7 (fun hHeld4=>?_)
     clear hK K
     try simp only [Act.put,List.getElem_toArray,List.getElem_cons_succ,List.getElem_cons_zero,List.setIfInBounds_toArray,List.set_cons_succ,List.set_cons_zero]
     refine hQ 8 (v:=?_) rfl (y:=.inl ⟨by rfl,?_⟩) (h:=?_)
     rotate_left
     ·(intro w' hSw;(try dsimp only at hSw);have hSS:=Ext.refl w';go_simp;try with_reducible rfl)
     try simp only [Act.put,zA,zB,zC]
     refine wpAnyH_done (by kernel_rfl) ?_ _
     clear hHeld hHeld2 hHeld3 hHeld4
     go_wp2_with fail
     go_ret
     first | exact ⟨hx7,_,_,rfl,HF.out trivial,⟨k,by have:=HLE.out;omega,HA.out,fun _=>HNB.out,.inr ⟨fun _ h=>absurd (HBS.out.2 h) (by decide),rfl⟩⟩,.inr HFB.out⟩ | exact ⟨hx7,_,rfl,_,HF.out trivial,⟨k,by have:=HLE.out;omega,HA.out,fun _=>HNB.out,.inr ⟨fun _ h=>absurd (HBS.out.2 h) (by decide),rfl⟩⟩,.inr HFB.out⟩
  ·obtain rfl:k=len:=by omega
   have HNK:=Lib.hid (show ∀ hk:k<R.length,¬R[k].bef n r from fun h=>absurd h (by have:=HLE.out;omega))
   have HNL:=Lib.hid (show ∀ hk:k<R.length,R[k].l≠r.l from fun h=>absurd h (by have:=HLE.out;omega))
   have HDK:=Lib.hid (show (R.drop k).map Row.val=[] from by rw [List.drop_of_length_le (by have:=HLE.out;omega)];rfl)
   have HK0:=Lib.hid (show k≤R.length from by have:=HLE.out;omega)
   by_cases h0:0<k
   ·obtain ⟨rfl,hbg,hgl⟩:=HAG.out (by have:=HLE.out;omega)
    by_cases hck:cap=k
    ·subst hck
     go_upto_region 7 with (at_builtin;refine wpList_append_que _ rfl _ _ 47 47 rfl (base:=w.heap.size) (e:=39) (size:=1) j0 (.slice none 0 0) 24 Tryz.underlying47 hj0 hy0 hy1 hy2 rfl rfl (v:=.slice (some ⟨(wr).heap.size,0,none⟩) 0 0) (n:=0) (xs:=[]) ⟨rfl,.inl ⟨_,rfl,rfl,fun a e=>by cases e;exact (hxr).le⟩⟩ (by rw [World.size_alloc];have:=(hxr).le;omega) (.slice (some ⟨g,o,none⟩) cap cap) cap ((R.take cap).map Row.val) rfl (rows_take HGE.out HK0.out cap (hxr.alloc' _)) (by unfold maxLen;omega) (by omega) ?_;rintro v5 w5 hq5 hg5 -)
     rw [Nat.zero_add,List.nil_append] at hq5
     have hx5:Ext w w5:=((hxr).alloc' _).below.grown hg5 (by rw [World.size_alloc];have:=(hxr).le;omega) (by intro k hk;simp [Value.ownBlock] at hk;have:=(hxr).le;omega)
     obtain ⟨a5,c5,rfl⟩:=hq5.slice
     have HQ5:=Lib.hid hq5
     clear hq5 hg5
     refine wp_region_held_drew (S:=fun w'=>Ext w w') (by kernel_rfl) hx5.drew (fun hHeld=>?_)
     refine hQ 0 (v:=?_) rfl (y:=.inl ⟨by rfl,?_⟩) (h:=?_)
     rotate_left
     ·(intro w' hSw;(try dsimp only at hSw);have hSS:=Ext.refl w';go_simp;try with_reducible rfl)
     try simp only [Act.put,zA,zB,zC]
     refine hQ 1 (v:=?_) rfl (y:=.inl ⟨by rfl,?_⟩) (h:=?_)
     rotate_left
     ·(intro w' hSw;(try dsimp only at hSw);have hSS:=Ext.refl w';go_simp;try with_reducible rfl)
     try simp only [Act.put,zA,zB,zC]
     refine hQ 4 (v:=?_) rfl (y:=.inl ⟨by rfl,?_⟩) (h:=?_)
     rotate_left
     ·(intro w' hSw;(try dsimp only at hSw);have hSS:=Ext.refl w';go_simp;try with_reducible rfl)
     try simp only [Act.put,zA,zB,zC]
     refine hQ 5 (v:=?_) rfl (y:=.inl ⟨by rfl,?_⟩) (h:=?_)
     rotate_left
     ·(intro w' hSw;(try dsimp only at hSw);have hSS:=Ext.refl w';go_simp;try with_reducible rfl)
     try simp only [Act.put,zA,zB,zC]
     refine hQ 6 (v:=?_) rfl (y:=.inl ⟨by rfl,?_⟩) (h:=?_)
     rotate_left
     ·(intro w' hSw;(try dsimp only at hSw);have hSS:=Ext.refl w';go_simp;try with_reducible rfl)
     try simp only [Act.put,zA,zB,zC]
     refine wpAnyH_ready (rs:=[2]) (by kernel_rfl) (by simp) ?_
     refine AllReadyH.cons rfl (fun K hK=>?_) AllReadyH.nil
     go_simp
     refine hK.out _ _ (hx5.drew.alloc' _) (fun hHeld2=>?_)
     clear hK K
     try simp only [Act.put]
     refine wpAnyH_ready (rs:=[3]) (by kernel_rfl) (by simp) ?_
     refine AllReadyH.cons rfl (fun K hK=>?_) AllReadyH.nil
     refine step_append_que _ rfl _ _ 47 47 rfl (base:=w.heap.size) (e:=39) (size:=1) j0 (.slice none 0 0) 24 Tryz.underlying47 hj0 hy0 hy1 hy2 rfl (v:=.slice a5 cap c5) (n:=cap) (xs:=(R.take cap).map Row.val) rfl (HQ5.out.ext ((Ext.alloc w5 _).trans (Ext.refl _).drew)) (Nat.le_trans hx5.le (by show w5.heap.size≤(w5.alloc _).heap.size;simp)) (.slice (some ⟨w5.heap.size,0,none⟩) 1 1) 1 [.slice r.a rn r.c] rfl (((RowM.new w5 [.slice r.a rn r.c] 39 1 rfl).ext (Ext.refl _).drew).src (P:=Tryz.prog) Tryz.underlying47 (by intro u hu;simp at hu;subst hu;rfl)) (by unfold maxLen;omega) (by omega) ?_
     intro v6 w6 hq6 hg6 hat6
     have hx6:Ext w w6:=Below.grown (show Below w.heap.size w _ from hx5.trans ((Ext.alloc w5 _).trans (Ext.refl _).drew)) hg6 (Nat.le_trans hx5.le (by show w5.heap.size≤(w5.alloc _).heap.size;simp)) HQ5.out.block
     obtain ⟨a6,c6,rfl⟩:=hq6.slice
     have HQ6:=Lib.hid hq6
     clear hq6 hg6 hat6
     refine hK.out _ _ hx6 (fun hHeld3=>?_)
     clear hK K
     try simp only [Act.put,List.getElem_toArray,List.getElem_cons_succ,List.getElem_cons_zero,List.setIfInBounds_toArray,List.set_cons_succ,List.set_cons_zero]
     refine wpAnyH_ready (rs:=[7]) (by kernel_rfl) (by simp) ?_
     refine AllReadyH.cons rfl (fun K hK=>?_) AllReadyH.nil
     refine step_append_que _ rfl _ _ 47 47 rfl (base:=w.heap.size) (e:=39) (size:=1) j0 (.slice none 0 0) 24 Tryz.underlying47 hj0 hy0 hy1 hy2 rfl (v:=.slice a6 (cap+1) c6) (n:=cap+1) (xs:=(R.take cap).map Row.val++[.slice r.a rn r.c]) rfl (by exact HQ6.out) (by have:=hx6.le;omega) (.slice (some ⟨g,o,none⟩) 0 0) 0 ((R.drop cap).map Row.val) rfl (by rw [HDK.out];exact Src.ofSlice w6 Tryz.underlying47 ⟨g,o,none⟩ 0 0 [] (by simp) (by intro _ _ h';simp at h') (by intro u hu;cases hu)) (by unfold maxLen;omega) (by omega) ?_
     intro v7 w7 hq7 hg7 hat7
     have hx7:Ext w w7:=(hx6.below).grown hg7 (by have:=hx6.le;omega) HQ6.out.block
     obtain ⟨a7,c7,rfl⟩:=hq7.slice
     have HF:=Lib.hid (fun _:True=>(show RowsQ w7 base (.slice a7 (cap+1+0) c7) (R.take cap++r :: R.drop cap) from ⟨by
      have h1:(R.take cap++r :: R.drop cap).map Row.val=(R.take cap).map Row.val++[.slice r.a rn r.c]++(R.drop cap).map Row.val:=by rw [HRN.out];simp [Row.val]
      have h2:(R.take cap++r :: R.drop cap).length=cap+1+0:=by rw [List.length_append,List.length_cons,List.length_take,List.length_drop];have:=HLE.out;omega
      rw [h1,h2];exact hq7.mono HB.out,fun x hx=>by
      have h3:x=r∨x∈R:=by
       rcases List.mem_append.1 hx with h | h
       ·exact .inr (List.mem_of_mem_take h)
       ·rcases List.mem_cons.1 h with h | h
        ·exact .inl h
        ·exact .inr (List.mem_of_mem_drop h)
      rcases h3 with rfl | h3
      ·exact HRR.out.ext hx7
      ·exact (HR.out.2 x h3).ext hx7⟩))
     have HFB:=Lib.hid hq7.block
     clear hq7 hg7 hat7
     refine hK.out _ _ hx7 (fun hHeld4=>?_)
     clear hK K
     try simp only [Act.put,List.getElem_toArray,List.getElem_cons_succ,List.getElem_cons_zero,List.setIfInBounds_toArray,List.set_cons_succ,List.set_cons_zero]
     refine hQ 8 (v:=?_) rfl (y:=.inl ⟨by rfl,?_⟩) (h:=?_)
     rotate_left
     ·(intro w' hSw;(try dsimp only at hSw);have hSS:=Ext.refl w';go_simp;try with_reducible rfl)
     try simp only [Act.put,zA,zB,zC]
     refine wpAnyH_done (by kernel_rfl) ?_ _
     clear hHeld hHeld2 hHeld3 hHeld4
     go_wp2_with fail
     go_ret
     first | exact ⟨hx7,_,_,rfl,HF.out trivial,⟨cap,HK0.out,HA.out,HNK.out,.inr ⟨HNL.out,rfl⟩⟩,.inr HFB.out⟩ | exact ⟨hx7,_,rfl,_,HF.out trivial,⟨cap,HK0.out,HA.out,HNK.out,.inr ⟨HNL.out,rfl⟩⟩,.inr HFB.out⟩
    ·have hck':k<cap:=by omega
     go_upto_region 7 with (at_builtin;refine wpList_append_que _ rfl _ _ 47 47 rfl (base:=w.heap.size) (e:=39) (size:=1) j0 (.slice none 0 0) 24 Tryz.underlying47 hj0 hy0 hy1 hy2 rfl rfl (v:=.slice (some ⟨(wr).heap.size,0,none⟩) 0 0) (n:=0) (xs:=[]) ⟨rfl,.inl ⟨_,rfl,rfl,fun a e=>by cases e;exact (hxr).le⟩⟩ (by rw [World.size_alloc];have:=(hxr).le;omega) (.slice (some ⟨g,o,none⟩) k cap) k ((R.take k).map Row.val) rfl (rows_take HGE.out HK0.out cap (hxr.alloc' _)) (by unfold maxLen;omega) (by omega) ?_;rintro v5 w5 hq5 hg5 -)
     rw [Nat.zero_add,List.nil_append] at hq5
     have hx5:Ext w w5:=((hxr).alloc' _).below.grown hg5 (by rw [World.size_alloc];have:=(hxr).le;omega) (by intro k hk;simp [Value.ownBlock] at hk;have:=(hxr).le;omega)
     obtain ⟨a5,c5,rfl⟩:=hq5.slice
     have HQ5:=Lib.hid hq5
     clear hq5 hg5
     refine wp_region_held_drew (S:=fun w'=>Ext w w') (by kernel_rfl) hx5.drew (fun hHeld=>?_)
     refine hQ 0 (v:=?_) rfl (y:=.inl ⟨by rfl,?_⟩) (h:=?_)
     rotate_left
     ·(intro w' hSw;(try dsimp only at hSw);have hSS:=Ext.refl w';go_simp;try with_reducible rfl)
     try simp only [Act.put,zA,zB,zC]
     refine hQ 1 (v:=?_) rfl (y:=.inl ⟨by rfl,?_⟩) (h:=?_)
     rotate_left
     ·(intro w' hSw;(try dsimp only at hSw);have hSS:=Ext.refl w';go_simp;try with_reducible rfl)
     try simp only [Act.put,zA,zB,zC]
     refine hQ 4 (v:=?_) rfl (y:=.inl ⟨by rfl,?_⟩) (h:=?_)
     rotate_left
     ·(intro w' hSw;(try dsimp only at hSw);have hSS:=Ext.refl w';go_simp;try with_reducible rfl)
     try simp only [Act.put,zA,zB,zC]
     refine hQ 5 (v:=?_) rfl (y:=.inl ⟨by rfl,?_⟩) (h:=?_)
     rotate_left
     ·(intro w' hSw;(try dsimp only at hSw);have hSS:=Ext.refl w';go_simp;try with_reducible rfl)
     try simp only [Act.put,zA,zB,zC]
     refine hQ 6 (v:=?_) rfl (y:=.inl ⟨by rfl,?_⟩) (h:=?_)
     rotate_left
     ·(intro w' hSw;(try dsimp only at hSw);have hSS:=Ext.refl w';go_simp;try with_reducible rfl)
     try simp only [Act.put,zA,zB,zC]
     refine wpAnyH_ready (rs:=[2]) (by kernel_rfl) (by simp) ?_
     refine AllReadyH.cons rfl (fun K hK=>?_) AllReadyH.nil
     go_simp
     refine hK.out _ _ (hx5.drew.alloc' _) (fun hHeld2=>?_)
     clear hK K
     try simp only [Act.put]
     refine wpAnyH_ready (rs:=[3]) (by kernel_rfl) (by simp) ?_
     refine AllReadyH.cons rfl (fun K hK=>?_) AllReadyH.nil
     refine step_append_que _ rfl _ _ 47 47 rfl (base:=w.heap.size) (e:=39) (size:=1) j0 (.slice none 0 0) 24 Tryz.underlying47 hj0 hy0 hy1 hy2 rfl (v:=.slice a5 k c5) (n:=k) (xs:=(R.take k).map Row.val) rfl (HQ5.out.ext ((Ext.alloc w5 _).trans (Ext.refl _).drew)) (Nat.le_trans hx5.le (by show w5.heap.size≤(w5.alloc _).heap.size;simp)) (.slice (some ⟨w5.heap.size,0,none⟩) 1 1) 1 [.slice r.a rn r.c] rfl (((RowM.new w5 [.slice r.a rn r.c] 39 1 rfl).ext (Ext.refl _).drew).src (P:=Tryz.prog) Tryz.underlying47 (by intro u hu;simp at hu;subst hu;rfl)) (by unfold maxLen;omega) (by omega) ?_
     intro v6 w6 hq6 hg6 hat6
     have hx6:Ext w w6:=Below.grown (show Below w.heap.size w _ from hx5.trans ((Ext.alloc w5 _).trans (Ext.refl _).drew)) hg6 (Nat.le_trans hx5.le (by show w5.heap.size≤(w5.alloc _).heap.size;simp)) HQ5.out.block
     obtain ⟨a6,c6,rfl⟩:=hq6.slice
     have HQ6:=Lib.hid hq6
     clear hq6 hg6 hat6
     refine hK.out _ _ hx6 (fun hHeld3=>?_)
     clear hK K
     try simp only [Act.put,List.getElem_toArray,List.getElem_cons_succ,List.getElem_cons_zero,List.setIfInBounds_toArray,List.set_cons_succ,List.set_cons_zero]
     refine wpAnyH_ready (rs:=[7]) (by kernel_rfl) (by simp) ?_
     refine AllReadyH.cons rfl (fun K hK=>?_) AllReadyH.nil
     refine step_append_que _ rfl _ _ 47 47 rfl (base:=w.heap.size) (e:=39) (size:=1) j0 (.slice none 0 0) 24 Tryz.underlying47 hj0 hy0 hy1 hy2 rfl (v:=.slice a6 (k+1) c6) (n:=k+1) (xs:=(R.take k).map Row.val++[.slice r.a rn r.c]) rfl (by exact HQ6.out) (by have:=hx6.le;omega) (.slice (some ⟨g,o+k,none⟩) 0 (cap - k)) 0 ((R.drop k).map Row.val) rfl (by rw [HDK.out];exact Src.ofSlice w6 Tryz.underlying47 ⟨g,o+k,none⟩ 0 _ [] (by simp) (by intro _ _ h';simp at h') (by intro u hu;cases hu)) (by unfold maxLen;omega) (by omega) ?_
     intro v7 w7 hq7 hg7 hat7
     have hx7:Ext w w7:=(hx6.below).grown hg7 (by have:=hx6.le;omega) HQ6.out.block
     obtain ⟨a7,c7,rfl⟩:=hq7.slice
     have HF:=Lib.hid (fun _:True=>(show RowsQ w7 base (.slice a7 (k+1+0) c7) (R.take k++r :: R.drop k) from ⟨by
      have h1:(R.take k++r :: R.drop k).map Row.val=(R.take k).map Row.val++[.slice r.a rn r.c]++(R.drop k).map Row.val:=by rw [HRN.out];simp [Row.val]
      have h2:(R.take k++r :: R.drop k).length=k+1+0:=by rw [List.length_append,List.length_cons,List.length_take,List.length_drop];have:=HLE.out;omega
      rw [h1,h2];exact hq7.mono HB.out,fun x hx=>by
      have h3:x=r∨x∈R:=by
       rcases List.mem_append.1 hx with h | h
       ·exact .inr (List.mem_of_mem_take h)
       ·rcases List.mem_cons.1 h with h | h
        ·exact .inl h
        ·exact .inr (List.mem_of_mem_drop h)
      rcases h3 with rfl | h3
      ·exact HRR.out.ext hx7
      ·exact (HR.out.2 x h3).ext hx7⟩))
     have HFB:=Lib.hid hq7.block
     clear hq7 hg7 hat7
     refine hK.out _ _ hx7 (fun hHeld4=>?_)
     clear hK K
     try simp only [Act.put,List.getElem_toArray,List.getElem_cons_succ,List.getElem_cons_zero,List.setIfInBounds_toArray,List.set_cons_succ,List.set_cons_zero]
     refine hQ 8 (v:=?_) rfl (y:=.inl ⟨by rfl,?_⟩) (h:=?_)
     rotate_left
     ·(intro w' hSw;(try dsimp only at hSw);have hSS:=Ext.refl w';go_simp;try with_reducible rfl)
     try simp only [Act.put,zA,zB,zC]
     refine wpAnyH_done (by kernel_rfl) ?_ _
     clear hHeld hHeld2 hHeld3 hHeld4
     go_wp2_with fail
     go_ret
     first | exact ⟨hx7,_,_,rfl,HF.out trivial,⟨k,HK0.out,HA.out,HNK.out,.inr ⟨HNL.out,rfl⟩⟩,.inr HFB.out⟩ | exact ⟨hx7,_,rfl,_,HF.out trivial,⟨k,HK0.out,HA.out,HNK.out,.inr ⟨HNL.out,rfl⟩⟩,.inr HFB.out⟩
   ·obtain rfl:k=0:=by omega
    cases a with
    | none =>
     go_upto_region 7 with (at_builtin;refine wpList_append_que _ rfl _ _ 47 47 rfl (base:=w.heap.size) (e:=39) (size:=1) j0 (.slice none 0 0) 24 Tryz.underlying47 hj0 hy0 hy1 hy2 rfl rfl (v:=.slice (some ⟨(wr).heap.size,0,none⟩) 0 0) (n:=0) (xs:=[]) ⟨rfl,.inl ⟨_,rfl,rfl,fun a e=>by cases e;exact (hxr).le⟩⟩ (by rw [World.size_alloc];have:=(hxr).le;omega) (.slice none 0 cap) 0 ((R.take 0).map Row.val) rfl (Src.ofNil _ Tryz.underlying47 _) (by unfold maxLen;omega) (by omega) ?_;rintro v5 w5 hq5 hg5 -)
     rw [Nat.zero_add,List.nil_append] at hq5
     have hx5:Ext w w5:=((hxr).alloc' _).below.grown hg5 (by rw [World.size_alloc];have:=(hxr).le;omega) (by intro k hk;simp [Value.ownBlock] at hk;have:=(hxr).le;omega)
     obtain ⟨a5,c5,rfl⟩:=hq5.slice
     have HQ5:=Lib.hid hq5
     clear hq5 hg5
     refine wp_region_held_drew (S:=fun w'=>Ext w w') (by kernel_rfl) hx5.drew (fun hHeld=>?_)
     refine hQ 0 (v:=?_) rfl (y:=.inl ⟨by rfl,?_⟩) (h:=?_)
     rotate_left
     ·(intro w' hSw;(try dsimp only at hSw);have hSS:=Ext.refl w';go_simp;try with_reducible rfl)
     try simp only [Act.put,zA,zB,zC]
     refine hQ 1 (v:=?_) rfl (y:=.inl ⟨by rfl,?_⟩) (h:=?_)
     rotate_left
     ·(intro w' hSw;(try dsimp only at hSw);have hSS:=Ext.refl w';go_simp;try with_reducible rfl)
     try simp only [Act.put,zA,zB,zC]
     refine hQ 4 (v:=?_) rfl (y:=.inl ⟨by rfl,?_⟩) (h:=?_)
     rotate_left
     ·(intro w' hSw;(try dsimp only at hSw);have hSS:=Ext.refl w';go_simp;try with_reducible rfl)
     try simp only [Act.put,zA,zB,zC]
     refine hQ 5 (v:=?_) rfl (y:=.inl ⟨by rfl,?_⟩) (h:=?_)
     rotate_left
     ·(intro w' hSw;(try dsimp only at hSw);have hSS:=Ext.refl w';go_simp;try with_reducible rfl)
     try simp only [Act.put,zA,zB,zC]
     refine hQ 6 (v:=?_) rfl (y:=.inl ⟨by rfl,?_⟩) (h:=?_)
     rotate_left
     ·(intro w' hSw;(try dsimp only at hSw);have hSS:=Ext.refl w';go_simp;try with_reducible rfl)
     try simp only [Act.put,zA,zB,zC]
     refine wpAnyH_ready (rs:=[2]) (by kernel_rfl) (by simp) ?_
     refine AllReadyH.cons rfl (fun K hK=>?_) AllReadyH.nil
     go_simp
     refine hK.out _ _ (hx5.drew.alloc' _) (fun hHeld2=>?_)
     clear hK K
     try simp only [Act.put]
     refine wpAnyH_ready (rs:=[3]) (by kernel_rfl) (by simp) ?_
     refine AllReadyH.cons rfl (fun K hK=>?_) AllReadyH.nil
     refine step_append_que _ rfl _ _ 47 47 rfl (base:=w.heap.size) (e:=39) (size:=1) j0 (.slice none 0 0) 24 Tryz.underlying47 hj0 hy0 hy1 hy2 rfl (v:=.slice a5 0 c5) (n:=0) (xs:=(R.take 0).map Row.val) rfl (HQ5.out.ext ((Ext.alloc w5 _).trans (Ext.refl _).drew)) (Nat.le_trans hx5.le (by show w5.heap.size≤(w5.alloc _).heap.size;simp)) (.slice (some ⟨w5.heap.size,0,none⟩) 1 1) 1 [.slice r.a rn r.c] rfl (((RowM.new w5 [.slice r.a rn r.c] 39 1 rfl).ext (Ext.refl _).drew).src (P:=Tryz.prog) Tryz.underlying47 (by intro u hu;simp at hu;subst hu;rfl)) (by unfold maxLen;omega) (by omega) ?_
     intro v6 w6 hq6 hg6 hat6
     have hx6:Ext w w6:=Below.grown (show Below w.heap.size w _ from hx5.trans ((Ext.alloc w5 _).trans (Ext.refl _).drew)) hg6 (Nat.le_trans hx5.le (by show w5.heap.size≤(w5.alloc _).heap.size;simp)) HQ5.out.block
     obtain ⟨a6,c6,rfl⟩:=hq6.slice
     have HQ6:=Lib.hid hq6
     clear hq6 hg6 hat6
     refine hK.out _ _ hx6 (fun hHeld3=>?_)
     clear hK K
     try simp only [Act.put,List.getElem_toArray,List.getElem_cons_succ,List.getElem_cons_zero,List.setIfInBounds_toArray,List.set_cons_succ,List.set_cons_zero]
     refine wpAnyH_ready (rs:=[7]) (by kernel_rfl) (by simp) ?_
     refine AllReadyH.cons rfl (fun K hK=>?_) AllReadyH.nil
     refine step_append_que _ rfl _ _ 47 47 rfl (base:=w.heap.size) (e:=39) (size:=1) j0 (.slice none 0 0) 24 Tryz.underlying47 hj0 hy0 hy1 hy2 rfl (v:=.slice a6 (0+1) c6) (n:=0+1) (xs:=(R.take 0).map Row.val++[.slice r.a rn r.c]) rfl (by exact HQ6.out) (by have:=hx6.le;omega) (.slice none 0 cap) 0 ((R.drop 0).map Row.val) rfl (by rw [HDK.out];exact Src.ofNil _ Tryz.underlying47 _) (by unfold maxLen;omega) (by omega) ?_
     intro v7 w7 hq7 hg7 hat7
     have hx7:Ext w w7:=(hx6.below).grown hg7 (by have:=hx6.le;omega) HQ6.out.block
     obtain ⟨a7,c7,rfl⟩:=hq7.slice
     have HF:=Lib.hid (fun _:True=>(show RowsQ w7 base (.slice a7 (0+1+0) c7) (R.take 0++r :: R.drop 0) from ⟨by
      have h1:(R.take 0++r :: R.drop 0).map Row.val=(R.take 0).map Row.val++[.slice r.a rn r.c]++(R.drop 0).map Row.val:=by rw [HRN.out];simp [Row.val]
      have h2:(R.take 0++r :: R.drop 0).length=0+1+0:=by rw [List.length_append,List.length_cons,List.length_take,List.length_drop];have:=HLE.out;omega
      rw [h1,h2];exact hq7.mono HB.out,fun x hx=>by
      have h3:x=r∨x∈R:=by
       rcases List.mem_append.1 hx with h | h
       ·exact .inr (List.mem_of_mem_take h)
       ·rcases List.mem_cons.1 h with h | h
        ·exact .inl h
        ·exact .inr (List.mem_of_mem_drop h)
      rcases h3 with rfl | h3
      ·exact HRR.out.ext hx7
      ·exact (HR.out.2 x h3).ext hx7⟩))
     have HFB:=Lib.hid hq7.block
     clear hq7 hg7 hat7
     refine hK.out _ _ hx7 (fun hHeld4=>?_)
     clear hK K
     try simp only [Act.put,List.getElem_toArray,List.getElem_cons_succ,List.getElem_cons_zero,List.setIfInBounds_toArray,List.set_cons_succ,List.set_cons_zero]
     refine hQ 8 (v:=?_) rfl (y:=.inl ⟨by rfl,?_⟩) (h:=?_)
     rotate_left
     ·(intro w' hSw;(try dsimp only at hSw);have hSS:=Ext.refl w';go_simp;try with_reducible rfl)
     try simp only [Act.put,zA,zB,zC]
     refine wpAnyH_done (by kernel_rfl) ?_ _
     clear hHeld hHeld2 hHeld3 hHeld4
     go_wp2_with fail
     go_ret
     first | exact ⟨hx7,_,_,rfl,HF.out trivial,⟨0,HK0.out,HA.out,HNK.out,.inr ⟨HNL.out,rfl⟩⟩,.inr HFB.out⟩ | exact ⟨hx7,_,rfl,_,HF.out trivial,⟨0,HK0.out,HA.out,HNK.out,.inr ⟨HNL.out,rfl⟩⟩,.inr HFB.out⟩
    | some ad =>
     go_upto_region 7 with (at_builtin;refine wpList_append_que _ rfl _ _ 47 47 rfl (base:=w.heap.size) (e:=39) (size:=1) j0 (.slice none 0 0) 24 Tryz.underlying47 hj0 hy0 hy1 hy2 rfl rfl (v:=.slice (some ⟨(wr).heap.size,0,none⟩) 0 0) (n:=0) (xs:=[]) ⟨rfl,.inl ⟨_,rfl,rfl,fun a e=>by cases e;exact (hxr).le⟩⟩ (by rw [World.size_alloc];have:=(hxr).le;omega) (.slice (some ad) 0 cap) 0 ((R.take 0).map Row.val) rfl (Src.ofSlice _ Tryz.underlying47 ad 0 _ [] (by simp) (by intro _ _ h';simp at h') (by intro u hu;cases hu)) (by unfold maxLen;omega) (by omega) ?_;rintro v5 w5 hq5 hg5 -)
     rw [Nat.zero_add,List.nil_append] at hq5
     have hx5:Ext w w5:=((hxr).alloc' _).below.grown hg5 (by rw [World.size_alloc];have:=(hxr).le;omega) (by intro k hk;simp [Value.ownBlock] at hk;have:=(hxr).le;omega)
     obtain ⟨a5,c5,rfl⟩:=hq5.slice
     have HQ5:=Lib.hid hq5
     clear hq5 hg5
     refine wp_region_held_drew (S:=fun w'=>Ext w w') (by kernel_rfl) hx5.drew (fun hHeld=>?_)
     refine hQ 0 (v:=?_) rfl (y:=.inl ⟨by rfl,?_⟩) (h:=?_)
     rotate_left
     ·(intro w' hSw;(try dsimp only at hSw);have hSS:=Ext.refl w';go_simp;try with_reducible rfl)
     try simp only [Act.put,zA,zB,zC]
     refine hQ 1 (v:=?_) rfl (y:=.inl ⟨by rfl,?_⟩) (h:=?_)
     rotate_left
     ·(intro w' hSw;(try dsimp only at hSw);have hSS:=Ext.refl w';go_simp;try with_reducible rfl)
     try simp only [Act.put,zA,zB,zC]
     refine hQ 4 (v:=?_) rfl (y:=.inl ⟨by rfl,?_⟩) (h:=?_)
     rotate_left
     ·(intro w' hSw;(try dsimp only at hSw);have hSS:=Ext.refl w';go_simp;try with_reducible rfl)
     try simp only [Act.put,zA,zB,zC]
     refine hQ 5 (v:=?_) rfl (y:=.inl ⟨by rfl,?_⟩) (h:=?_)
     rotate_left
     ·(intro w' hSw;(try dsimp only at hSw);have hSS:=Ext.refl w';go_simp;try with_reducible rfl)
     try simp only [Act.put,zA,zB,zC]
     refine hQ 6 (v:=?_) rfl (y:=.inl ⟨by rfl,?_⟩) (h:=?_)
     rotate_left
     ·(intro w' hSw;(try dsimp only at hSw);have hSS:=Ext.refl w';go_simp;try with_reducible rfl)
     try simp only [Act.put,zA,zB,zC]
     refine wpAnyH_ready (rs:=[2]) (by kernel_rfl) (by simp) ?_
     refine AllReadyH.cons rfl (fun K hK=>?_) AllReadyH.nil
     go_simp
     refine hK.out _ _ (hx5.drew.alloc' _) (fun hHeld2=>?_)
     clear hK K
     try simp only [Act.put]
     refine wpAnyH_ready (rs:=[3]) (by kernel_rfl) (by simp) ?_
     refine AllReadyH.cons rfl (fun K hK=>?_) AllReadyH.nil
     refine step_append_que _ rfl _ _ 47 47 rfl (base:=w.heap.size) (e:=39) (size:=1) j0 (.slice none 0 0) 24 Tryz.underlying47 hj0 hy0 hy1 hy2 rfl (v:=.slice a5 0 c5) (n:=0) (xs:=(R.take 0).map Row.val) rfl (HQ5.out.ext ((Ext.alloc w5 _).trans (Ext.refl _).drew)) (Nat.le_trans hx5.le (by show w5.heap.size≤(w5.alloc _).heap.size;simp)) (.slice (some ⟨w5.heap.size,0,none⟩) 1 1) 1 [.slice r.a rn r.c] rfl (((RowM.new w5 [.slice r.a rn r.c] 39 1 rfl).ext (Ext.refl _).drew).src (P:=Tryz.prog) Tryz.underlying47 (by intro u hu;simp at hu;subst hu;rfl)) (by unfold maxLen;omega) (by omega) ?_
     intro v6 w6 hq6 hg6 hat6
     have hx6:Ext w w6:=Below.grown (show Below w.heap.size w _ from hx5.trans ((Ext.alloc w5 _).trans (Ext.refl _).drew)) hg6 (Nat.le_trans hx5.le (by show w5.heap.size≤(w5.alloc _).heap.size;simp)) HQ5.out.block
     obtain ⟨a6,c6,rfl⟩:=hq6.slice
     have HQ6:=Lib.hid hq6
     clear hq6 hg6 hat6
     refine hK.out _ _ hx6 (fun hHeld3=>?_)
     clear hK K
     try simp only [Act.put,List.getElem_toArray,List.getElem_cons_succ,List.getElem_cons_zero,List.setIfInBounds_toArray,List.set_cons_succ,List.set_cons_zero]
     refine wpAnyH_ready (rs:=[7]) (by kernel_rfl) (by simp) ?_
     refine AllReadyH.cons rfl (fun K hK=>?_) AllReadyH.nil
     refine step_append_que _ rfl _ _ 47 47 rfl (base:=w.heap.size) (e:=39) (size:=1) j0 (.slice none 0 0) 24 Tryz.underlying47 hj0 hy0 hy1 hy2 rfl (v:=.slice a6 (0+1) c6) (n:=0+1) (xs:=(R.take 0).map Row.val++[.slice r.a rn r.c]) rfl (by exact HQ6.out) (by have:=hx6.le;omega) (.slice (some ad) 0 cap) 0 ((R.drop 0).map Row.val) rfl (by rw [HDK.out];exact Src.ofSlice _ Tryz.underlying47 ad 0 _ [] (by simp) (by intro _ _ h';simp at h') (by intro u hu;cases hu)) (by unfold maxLen;omega) (by omega) ?_
     intro v7 w7 hq7 hg7 hat7
     have hx7:Ext w w7:=(hx6.below).grown hg7 (by have:=hx6.le;omega) HQ6.out.block
     obtain ⟨a7,c7,rfl⟩:=hq7.slice
     have HF:=Lib.hid (fun _:True=>(show RowsQ w7 base (.slice a7 (0+1+0) c7) (R.take 0++r :: R.drop 0) from ⟨by
      have h1:(R.take 0++r :: R.drop 0).map Row.val=(R.take 0).map Row.val++[.slice r.a rn r.c]++(R.drop 0).map Row.val:=by rw [HRN.out];simp [Row.val]
      have h2:(R.take 0++r :: R.drop 0).length=0+1+0:=by rw [List.length_append,List.length_cons,List.length_take,List.length_drop];have:=HLE.out;omega
      rw [h1,h2];exact hq7.mono HB.out,fun x hx=>by
      have h3:x=r∨x∈R:=by
       rcases List.mem_append.1 hx with h | h
       ·exact .inr (List.mem_of_mem_take h)
       ·rcases List.mem_cons.1 h with h | h
        ·exact .inl h
        ·exact .inr (List.mem_of_mem_drop h)
      rcases h3 with rfl | h3
      ·exact HRR.out.ext hx7
      ·exact (HR.out.2 x h3).ext hx7⟩))
     have HFB:=Lib.hid hq7.block
     clear hq7 hg7 hat7
     refine hK.out _ _ hx7 (fun hHeld4=>?_)
     clear hK K
     try simp only [Act.put,List.getElem_toArray,List.getElem_cons_succ,List.getElem_cons_zero,List.setIfInBounds_toArray,List.set_cons_succ,List.set_cons_zero]
     refine hQ 8 (v:=?_) rfl (y:=.inl ⟨by rfl,?_⟩) (h:=?_)
     rotate_left
     ·(intro w' hSw;(try dsimp only at hSw);have hSS:=Ext.refl w';go_simp;try with_reducible rfl)
     try simp only [Act.put,zA,zB,zC]
     refine wpAnyH_done (by kernel_rfl) ?_ _
     clear hHeld hHeld2 hHeld3 hHeld4
     go_wp2_with fail
     go_ret
     first | exact ⟨hx7,_,_,rfl,HF.out trivial,⟨0,HK0.out,HA.out,HNK.out,.inr ⟨HNL.out,rfl⟩⟩,.inr HFB.out⟩ | exact ⟨hx7,_,rfl,_,HF.out trivial,⟨0,HK0.out,HA.out,HNK.out,.inr ⟨HNL.out,rfl⟩⟩,.inr HFB.out⟩
end Go.Proofs.YtkhgpockmaghjaaGreat
