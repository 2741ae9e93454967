/- Contracts and laws in plain Lean for RApp: group P97. -/
import Derived.Test.YtmhapcnlpoilpaaGreatDoorP96
import Derived.Test.YtmhapcnlpoilpaaGreatDoorP70
set_option maxRecDepth 100000
namespace Go.Proofs.YtmhapcnlpoilpaaGreatDoor
open Go.RowKit Go.Shelf
attribute [local go_sem] Oper.semAt_some
def DslPost (S:SlcD) (T:Tr) (w:World) (e:Ending) (w':World):Prop:=
 Ext w w'∧((¬S.Ok T∧e=.returned (.tuple #[.string ⟨#[]⟩,.int .i64 1]))∨(S.Ok T∧S.em=true∧e=.returned (.tuple #[.string ⟨#[101,109,112,116,121,10]⟩,.int .i64 0]))∨
  (S.Ok T∧S.em=false∧∃ G,IsGrp T.n (S.E T.n) (·∈S.own T.n) G∧GFin S T.n G∧e=.returned (limV (slcT T S T.n G))))
theorem Tr.Valid.nm {T:Tr} (h:T.Valid):∀ p,p<T.n→(T.name p).size≤1000:=fun p hp=>by
 have:=nameB_len (h.pr p hp).1
 omega
set_option maxHeartbeats 2000000 in
theorem dslice_bad (w : World) (T : TM) (hT : T.At w) (S : SlcD) (hS : S.At w) (h24 : tot T.en T.n ≤ 39) (hem : S.Ok T.toTr → S.em = true) :
    Calls Tryz.prog 27 #[T.val,S.val] w (DslPost S T.toTr w):=by
 have HGR:=Lib.hid (fun W (x:Ext w W)=>groups_any W T (hT.ext x) S (hS.ext x) h24)
 have HVA:=Lib.hid (fun W (x:Ext w W) (h:S.Ok T.toTr)=>(svalid_any W T (hT.ext x) S (hS.ext x)).mono fun e w' hp=>BoolPost.fix (b:=true) ⟨fun _=>h,fun _=>rfl⟩ hp)
 have HEM:=Lib.hid hem
 unfold GroupsPost at HGR
 unfold DslPost
 simp only [TM.val] at HGR HVA ⊢
 clear hT hS h24 hem
 go_enter Tryz.func27,Tryz.ntmps27
 go_upto_region 1 with fail
 refine boxed2 (w:=w) (G:=fun x=>Code.wp _ _ _ _ x) ?_
 intro w1 hx1 hs1 ⟨l0,c0,_,_⟩ ⟨l1,c1,_,_⟩
 have hx11:Ext w1 w1:=Ext.refl _
 clear hs1
 go_wp2_with fail
 go_at_call 62
 refine (HGR.out w1 hx1).mono ?_
 rintro e w2 ⟨hx12,⟨hn,rfl⟩ | ⟨ho,he,rfl⟩ | ⟨ho,he,_⟩⟩
 ·have HN:=Lib.hid hn
  have hxw2:=hx1.trans hx12
  clear hn
  go_wp2_with fail
  go_ret2
  exact ⟨hxw2,.inl ⟨HN.out,rfl⟩⟩
 ·have HN:=Lib.hid (And.intro ho he)
  have HV2:=Lib.hid (HVA.out w2 (hx1.trans hx12) ho)
  rw [show S.val=.agg #[.bool S.em,S.f.s.v,S.l.s.v,S.j.s.v] from rfl,he] at HV2
  have hxw2:=hx1.trans hx12
  rw [he] at c1
  clear ho he
  go_wp2_with fail
  go_at_call 63
  refine HV2.out.mono ?_
  rintro e w3 ⟨rfl,hx23⟩
  have hx13:=hx12.trans hx23
  clear HV2
  go_wp2_with fail
  go_ret2
  exact ⟨hxw2.trans hx23,.inr (.inl ⟨HN.out.1,HN.out.2,rfl⟩)⟩
 ·exact absurd (HEM.out ho) (by rw [he];decide)
set_option maxHeartbeats 8000000 in
theorem dslice_any (w : World) (hTb : Tb w) (T : TM) (hT : T.At w) (S : SlcD) (hS : S.At w) (h24 : tot T.en T.n ≤ 39) :
    Calls Tryz.prog 27 #[T.val,S.val] w (DslPost S T.toTr w):=by
 by_cases hc:S.Ok T.toTr∧S.em=false
 case neg=>
  exact dslice_bad w T hT S hS h24 fun h=>by
   cases he:S.em with
   | true => rfl
   | false => exact absurd ⟨h,he⟩ hc
 obtain ⟨hok,hem⟩:=hc
 have hO:=hok.gok hem h24
 have hN:=hok.1.nm
 obtain ⟨n,hn⟩:∃ n,n=T.n:=⟨_,rfl⟩
 have HS:=Lib.hid hS
 have HT:=Lib.hid hT
 have HTB:=Lib.hid hTb
 have HOK:=Lib.hid (And.intro hok hem)
 have HGR:=Lib.hid (fun W (x:Ext w W)=>groups_any W T (hT.ext x) S (hS.ext x) h24)
 have HVA:=Lib.hid (fun W (x:Ext w W)=>(svalid_any W T (hT.ext x) S (hS.ext x)).mono fun e w' hp=>BoolPost.fix (b:=true) ⟨fun _=>hok,fun _=>rfl⟩ hp)
 obtain ⟨s0,hs0,ht0,ht1,ht2⟩:=info_parts infoStr
 obtain ⟨ja,hja⟩:∃ z,z=S.j.s.a:=⟨_,rfl⟩
 have HJA:=Lib.hid hja
 have hv:S.val=.agg #[.bool false,.slice S.f.s.a S.f.s.n S.f.s.c,.slice S.l.s.a S.l.s.n S.l.s.c,.slice ja S.j.s.n S.j.s.c]:=by rw [hja,←hem]
 obtain ⟨ta,hta⟩:∃ z,z=T.a:=⟨_,rfl⟩
 have HTA:=Lib.hid hta
 rw [hv] at HGR HVA ⊢
 unfold GroupsPost at HGR
 unfold DslPost
 have HNT:=Lib.hid hn
 rw [←hn] at hO hN HGR ⊢
 have HO:=Lib.hid hO
 have HNN:=Lib.hid hN
 simp only [TM.val] at HGR HVA ⊢
 rw [←hn,←hta] at HGR HVA ⊢
 have hfb:∀ p,p<n→0≤S.f.z p∧S.f.z p≤1000:=fun p hp=>by have:=hO.b p hp;omega
 have hlb:∀ p,p<n→0≤S.l.z p∧S.l.z p≤1000:=fun p hp=>by have:=hO.b p hp;have:=hO.lz p hp;omega
 obtain ⟨fw,hfw⟩:∃ z,z=wriL S.f.z n:=⟨_,rfl⟩
 obtain ⟨lw,hlw⟩:∃ z,z=wriL S.l.z n:=⟨_,rfl⟩
 have hfl:fw.length≤110000:=by rw [hfw];exact wriL_len hO.hn hfb
 have hll:lw.length≤110000:=by rw [hlw];exact wriL_len hO.hn hlb
 have HWF:=Lib.hid (fun W (x:Ext w W)=>(show Calls Tryz.prog 65 #[.slice S.f.s.a S.f.s.n S.f.s.c] W (fun e w'=>e=.returned (.string (bts fw))∧Ext W w') from by
  have h1:=hS.f.num.ext x
  rw [hO.fn] at h1 ⊢
  rw [hfw]
  exact written_any W (hTb.ext x) n S.f.s.c _ _ _ _ h1 hO.hn fun p hp=>by have:=hfb p hp;omega))
 have HWL:=Lib.hid (fun W (x:Ext w W)=>(show Calls Tryz.prog 65 #[.slice S.l.s.a S.l.s.n S.l.s.c] W (fun e w'=>e=.returned (.string (bts lw))∧Ext W w') from by
  have h1:=hS.l.num.ext x
  rw [hO.ln] at h1 ⊢
  rw [hlw]
  exact written_any W (hTb.ext x) n S.l.s.c _ _ _ _ h1 hO.hn fun p hp=>by have:=hlb p hp;omega))
 have HWR:=Lib.hid (fun W (x:Ext w W) (va:Option Addr) (vc g o:Nat) (y:EvE) (hy:S.Has n y) (hA:NumAt W n va g o (natV (fn (S.E n y))))=>(written_any W (hTb.ext x) n vc va g o _ hA hO.hn fun p hp=>by have:=hy.bd p hp;omega))
 have HH:=Lib.hid (show slG T.toTr S n [] 0=cat [[102,105,114,115,116,32],fw,[10],[108,97,115,116,32],lw,[10]] from by rw [hfw,hlw];simp [slG,slH,cat])
 have hz1:=bts_size fw
 have hz2:=bts_size lw
 have hjn:=HS.out.j.s.hn
 clear hS hT hTb hO hem hok hv hja hta hn hN hfb hlb hfw hlw h24
 go_enter Tryz.func27,Tryz.ntmps27
 go_upto_region 1 with fail
 refine boxed2 (w:=w) (G:=fun x=>Code.wp _ _ _ _ x) ?_
 intro w1 hx1 hs1 ⟨l0,c0,_,_⟩ ⟨l1,c1,_,_⟩
 have hx11:Ext w1 w1:=Ext.refl _
 clear hs1
 go_wp2_with fail
 go_at_call 62
 refine (HGR.out w1 hx1).mono ?_
 rintro e wg ⟨hx1g,⟨hn,_⟩ | ⟨_,he,_⟩ | ⟨_,_,vg,G,rfl,⟨NG,hq,hqv⟩,hi,hf⟩⟩
 ·exact absurd HOK.out.1 hn
 ·exact absurd HOK.out.2 (by rw [he];decide)
 obtain ⟨ga,gc,hvg⟩:=hq.slice
 subst hvg
 have HQ:=Lib.hid hq
 have HQV:=Lib.hid hqv
 have HI:=Lib.hid hi
 have HF:=Lib.hid hf
 have HK9:=Lib.hid hf.len
 obtain ⟨K,hK⟩:∃ K,K=G.length:=⟨_,rfl⟩
 have HKE:=Lib.hid hK
 rw [←hK] at HQ HK9 ⊢
 have hK39:K≤39:=HK9.out
 have hxwg:=hx1.trans hx1g
 clear hq hqv hi hf hK HGR
 go_wp2_with fail
 go_at_call 63
 refine (HVA.out wg hxwg).mono ?_
 rintro e w2 ⟨rfl,hxg2⟩
 have hx12:=hx1g.trans hxg2
 have hxw2:=hxwg.trans hxg2
 have HXA:=Lib.hid hxw2
 have HXB:=Lib.hid hx12
 have HXC:=Lib.hid hxg2
 clear HVA
 go_upto_region 7 with fail
 obtain ⟨bb,hbb⟩:∃ z,z=w2.heap.size:=⟨_,rfl⟩
 have HB0:=Lib.hid (show Bld bb [] (w2.alloc (.cells #[.pointer none,.slice none 0 0] 106)) from by rw [hbb];exact Lib.IsBuilderF.of (Lib.fresh_isBuilder 106 5 w2))
 have hx26:Ext w2 (w2.alloc (.cells #[.pointer none,.slice none 0 0] 106)):=Ext.alloc' (Ext.refl w2) _
 rw [←hbb]
 generalize w2.alloc (.cells #[.pointer none,.slice none 0 0] 106)=w6 at hx26 HB0 ⊢
 have HBB:=Lib.hid hbb
 clear hbb
 refine wp_region_T (t:=8) (S:=Ext w2) (R:=fun _=>True) (by kernel_rfl) hx26.drew trivial (fun hHeld=>?_)
 have HB:=Lib.hid (HB0.out.ext (Ext.refl w6).drew)
 generalize w6.drew=w60 at hHeld HB ⊢
 refine takeS 0 (v:=?_) rfl (by kernel_rfl) (by kernel_rfl) (by kernel_rfl) (fun _ _ _ h=>h) (by decide) (Or.inl ⟨by rfl,?_⟩) hHeld.1 hHeld.2 ?_
 rotate_left
 ·intro w' hSw
  have hS0:=hSw
  have hS1:=HXA.out.trans hSw
  have hS2:=HXB.out.trans hSw
  have hS3:=HXC.out.trans hSw
  have hSS:=Ext.refl w'
  go_simp
  try with_reducible rfl
 try simp only [Act.put,zA,zB,zC]
 refine takeS 1 (v:=?_) rfl (by kernel_rfl) (by kernel_rfl) (by kernel_rfl) (fun _ _ _ h=>h) (by decide) (Or.inl ⟨by rfl,?_⟩) hHeld.1 hHeld.2 ?_
 rotate_left
 ·intro w' hSw
  have hS0:=hSw
  have hS1:=HXA.out.trans hSw
  have hS2:=HXB.out.trans hSw
  have hS3:=HXC.out.trans hSw
  have hSS:=Ext.refl w'
  go_simp
  try with_reducible rfl
 try simp only [Act.put,zA,zB,zC]
 refine takeS 3 (v:=?_) rfl (by kernel_rfl) (by kernel_rfl) (by kernel_rfl) (fun _ _ _ h=>h) (by decide) (Or.inl ⟨by rfl,?_⟩) hHeld.1 hHeld.2 ?_
 rotate_left
 ·intro w' hSw
  have hS0:=hSw
  have hS1:=HXA.out.trans hSw
  have hS2:=HXB.out.trans hSw
  have hS3:=HXC.out.trans hSw
  have hSS:=Ext.refl w'
  go_simp
  try with_reducible rfl
 try simp only [Act.put,zA,zB,zC]
 refine takeS 4 (v:=?_) rfl (by kernel_rfl) (by kernel_rfl) (by kernel_rfl) (fun _ _ _ h=>h) (by decide) (Or.inl ⟨by rfl,?_⟩) hHeld.1 hHeld.2 ?_
 rotate_left
 ·intro w' hSw
  have hS0:=hSw
  have hS1:=HXA.out.trans hSw
  have hS2:=HXB.out.trans hSw
  have hS3:=HXC.out.trans hSw
  have hSS:=Ext.refl w'
  go_simp
  try with_reducible rfl
 try simp only [Act.put,zA,zB,zC]
 refine wpAnyT_ready (rs:=[2]) (by kernel_rfl) (by simp) ?_
 refine AllReadyT.cons rfl (fun K hK=>?_) AllReadyT.nil
 go_simp
 go_at_call 65
 refine (HWF.out w60 (hxw2.trans hHeld.1)).mono ?_
 rintro e wA ⟨rfl,hxA⟩
 have hx2A:=hHeld.1.trans hxA
 have HBA:=Lib.hid (HB.out.ext hxA)
 refine hK.out _ _ ⟨hx2A,trivial⟩ (fun hH2=>?_)
 clear hK K
 try simp only [Act.put,zA,zB,zC]
 clear hHeld
 refine wpAnyT_ready (rs:=[5]) (by kernel_rfl) (by simp) ?_
 refine AllReadyT.cons rfl (fun K hK=>?_) AllReadyT.nil
 go_simp
 go_at_call 65
 refine (HWL.out wA (hxw2.trans hx2A)).mono ?_
 rintro e wB ⟨rfl,hxB⟩
 have hx2B:=hx2A.trans hxB
 have HBC:=Lib.hid (HBA.out.ext hxB)
 refine hK.out _ _ ⟨hx2B,trivial⟩ (fun hH3=>?_)
 clear hK K
 try simp only [Act.put,zA,zB,zC]
 clear hH2
 refine wpAnyT_ready (rs:=[6]) (by kernel_rfl) (by simp) ?_
 refine AllReadyT.cons rfl (fun K hK=>?_) AllReadyT.nil
 go_simp
 refine hK.out _ _ ⟨hx2B.alloc' _,trivial⟩ (fun hH4=>?_)
 clear hK K
 try simp only [Act.put,zA,zB,zC]
 clear hH3
 refine wpAnyT_ready (rs:=[7]) (by kernel_rfl) (by simp) ?_
 refine AllReadyT.cons rfl (fun K hK=>?_) AllReadyT.nil
 go_simp
 go_at_call 64
 refine (write1_any wB bb _ HBC.out [[102,105,114,115,116,32],fw,[10],[108,97,115,116,32],lw,[10]] 6 rfl (by omega) (fun x hx=>by simp only [List.mem_cons,List.mem_nil_iff,or_false] at hx;rcases hx with rfl | rfl | rfl | rfl | rfl | rfl <;> first | omega | simp) (by simp)).mono ?_
 rintro e w8 ⟨rfl,hb8,hbe8⟩
 have HB8:=Lib.hid (show Bld bb (slG T.toTr S n G 0) w8 from by
  rw [show slG T.toTr S n G 0=_ from HH.out];exact hb8)
 have hx28:Ext w2 w8:=Below.trans hx2B (by rw [←HBB.out];exact hbe8)
 refine hK.out _ _ ⟨hx28,trivial⟩ (fun hH5=>?_)
 clear hK K
 try simp only [Act.put,zA,zB,zC]
 refine wpAnyT_done (by kernel_rfl) ?_ _
 clear hH4 hH5 hb8 hbe8 hx2B hxB hx2A hxA HBA HBC HB HB0 hx26
 go_wp2_with fail
 go_loopg [42] K (fun gg v42 wo=>∃ i:Nat,i≤K∧gg=K - i∧v42=.int .i64 i∧Ext w2 wo∧Hid (Bld bb (slG T.toTr S n G i) wo))
 case atStart=>exact ⟨0,by omega,rfl,rfl,hx28,HB8⟩
 case round=>
  clear HB8 hx28
  obtain ⟨i,hi,rfl,rfl,hx2o,HBO⟩:=hrel
  have hxgo:=hxg2.trans hx2o
  have hx1o:=hx12.trans hx2o
  have hxwo:=hxw2.trans hx2o
  have HXL:=Lib.hid (slG_len HO.out HF.out HNN.out (show i≤G.length by have:=HKE.out;omega))
  obtain ⟨X,hX⟩:∃ X,X=slG T.toTr S n G i:=⟨_,rfl⟩
  have HXE:=Lib.hid hX
  rw [←hX] at HXL HBO
  have hXl:X.length≤9000000:=by have:=HXL.out;omega
  have hzX:=bts_size X
  clear hX
  by_cases hik:i<K
  case neg=>
   obtain rfl:i=K:=by omega
   have hlt':¬(i:Int)<(i:Int):=by omega
   have HLV:=Lib.hid (show limV (slG T.toTr S n G G.length)=.tuple #[.string (bts (limS X)),.int .i64 (limE X)] from by rw [limV_eq,show slG T.toTr S n G G.length=X from by rw [HXE.out,←HKE.out]])
   go_wp2_with (first | (go_at_call 68;refine (Tryz.Builder_String_any_k bb bb X wr HBO.out (Nat.le_of_lt HBO.out.lt)).mono ?_;rintro e w10 ⟨rfl,h1,h2,h3⟩;have HB11:=Lib.hid h2;clear h1 h2 h3) | (go_at_call 37;refine (limited2_any _ X).mono ?_;rintro e w11 ⟨rfl,hx11'⟩))
   go_ret2
   exact ⟨Ext.trans hxw2 (Ext.trans (show Ext w2 w10 from Below.trans hx2o (by rw [←HBB.out];exact HB11.out)) hx11'),.inr (.inr ⟨HOK.out.1,HOK.out.2,G,HI.out,HF.out,congrArg Ending.returned HLV.out.symm⟩)⟩
  have hik':(i:Int)<(K:Int):=by omega
  have hiG:i<G.length:=by rw [←HKE.out];exact hik
  obtain ⟨g,o,gcap,hga,_,hgl,_,hcs⟩:=HQ.out.shape (by omega)
  obtain rfl:ga=some ⟨g,o,none⟩:=by cases hga;rfl
  obtain ⟨ng,no,ncap,hnv,_,hngl,_,hce⟩:=(HQV.out i hiG).shape (HF.out.hd hiG).1
  have c1g:∀ w',Ext wg w'→w'.cell? ⟨g,o+i,none⟩=some (.slice (some ⟨ng,no,none⟩) (G.getD i []).length ncap):=fun w' x=>x.cell (by rw [hcs i (by omega)];simp [hik,hnv])
  have cgb:∀ w',Ext wg w'→g<w'.heap.size:=fun w' x=>Nat.lt_of_lt_of_le hgl x.le
  have cnb:∀ w',Ext wg w'→ng<w'.heap.size:=fun w' x=>Nat.lt_of_lt_of_le hngl x.le
  have HCE:=Lib.hid (show ∀ k (hk:k<(G.getD i []).length) w',Ext wg w'→w'.cell? ⟨ng,no+k*2,none⟩=some (.int .i64 ((G.getD i []).getD k (0,0)).1)∧w'.cell? ⟨ng,no+k*2+1,none⟩=some (.int .i64 ((G.getD i []).getD k (0,0)).2) from fun k hk w' x=>by
   have hge:(G.getD i [])[k]'hk=(G.getD i []).getD k (0,0):=by rw [List.getD_eq_getElem?_getD (l:=G.getD i []),List.getElem?_eq_getElem hk];rfl
   refine ⟨x.cell ?_,x.cell ?_⟩
   ·rw [hce (k*2) (by omega),evCells_get0 _ k hk,hge]
   ·rw [Nat.add_assoc,hce (k*2+1) (by omega),evCells_get1 _ k hk,hge])
  have HLJ:=Lib.hid (fun k (hk:k≤(G.getD i []).length)=>jnG_len HO.out HF.out HNN.out hk)
  have HGO:=Lib.hid (fun k (hk:k<(G.getD i []).length)=>getD_own HF.out hk)
  have HHD:=Lib.hid (HF.out.hd hiG)
  have HL9:=Lib.hid (HF.out.lens i)
  obtain ⟨g0,hg0⟩:∃ z,z=G.getD i []:=⟨_,rfl⟩
  have HG0:=Lib.hid hg0
  rw [←hg0] at c1g HCE HLJ HGO HHD HL9
  obtain ⟨L,hL⟩:∃ L,L=g0.length:=⟨_,rfl⟩
  have HLL:=Lib.hid hL
  rw [←hL] at c1g HCE HLJ HGO HHD HL9
  have hL39:L≤39:=HL9.out
  have hL0:0<L:=HHD.out.1
  have hoo:Ext wr wr:=Ext.refl _
  clear hnv hce hcs hg0 hL hga hgl hngl
  go_wp2_with fail
  go_loopg [11,48] L (fun gg v11 v48 wi=>∃ k:Nat,k≤L∧gg=L - k∧v48=.int .i64 k∧Ext wr wi∧Hid (Que wi wr.heap.size 1 v11 k (strV ((List.range k).map fun j=>evT T.toTr (g0.getD j (0,0)))))∧Hid (∀ b,v11.ownBlock=some b→b<wi.heap.size))
  case atStart=>exact ⟨0,by omega,rfl,rfl,hoo,Lib.hid (Que.nil _ _ _),Lib.hid (fun b e=>(by cases e))⟩
  case round=>
   rename World=>wi
   obtain ⟨k,hk,rfl,rfl,hxri,HQN,HQO⟩:=hrel
   obtain ⟨na,nc,hu11⟩:=HQN.out.slice
   subst hu11
   have hx2i:=hx2o.trans hxri
   have hxgi:=hxg2.trans hx2i
   have hx1i:=hx12.trans hx2i
   have hxwi:=hxw2.trans hx2i
   have hii:Ext wi wi:=Ext.refl _
   by_cases hkl:k<L
   case neg=>
    obtain rfl:k=L:=by omega
    have hlt':¬(k:Int)<(k:Int):=by omega
    have HHAS:=Lib.hid (show S.Has n (g0.getD 0 (0,0)) from HO.out.has _ (HGO.out 0 hL0))
    have HCX:=Lib.hid (HCE.out 0 hL0)
    obtain ⟨x,hx⟩:∃ x,x=g0.getD 0 (0,0):=⟨_,rfl⟩
    have HXG:=Lib.hid hx
    rw [←hx] at HHAS HCX
    obtain ⟨p,q,hxe,hp,hq,hrn,hvb⟩:=HHAS.out
    obtain ⟨xi,hxi⟩:∃ z,z=(q:Int)+1:=⟨_,rfl⟩
    have e0:∀ w',Ext wg w'→w'.cell? ⟨ng,no,none⟩=some (.int .i64 p):=fun w' y=>by
     have h:=(HCX.out w' y).1
     rw [hxe] at h;exact h
    have e1:∀ w',Ext wg w'→w'.cell? ⟨ng,no+1,none⟩=some (.int .i64 xi):=fun w' y=>by
     have h:=(HCX.out w' y).2
     rw [hxe] at h;rw [hxi];exact h
    have hM:=(HS.out.j.c p hp).2.at'
    have hnm:=hM.hn
    have hp':(p:Int)<(S.j.s.n:Int):=by omega
    have hq':(q:Int)<((S.j.m p).n:Int):=by omega
    have hb1:∀ w',Ext w w'→S.j.s.b<w'.heap.size:=fun w' x=>Nat.lt_of_lt_of_le (HS.out.j.s.hb (by omega)) x.le
    have hb2:=hM.pb (by omega)
    have k1:∀ w',Ext w w'→w'.cell? ⟨S.j.s.b,S.j.s.o+p,none⟩=some (.slice (some ⟨(S.j.m p).b,(S.j.m p).off,none⟩) (S.j.m p).n (S.j.m p).cap):=fun w' x=>by
     rw [←hM.pa (by omega)];exact x.cell (HS.out.j.c p hp).1
    have k2:∀ w',Ext w w'→w'.cell? ⟨(S.j.m p).b,(S.j.m p).off+q,none⟩=some (.slice ((S.j.m p).ra q) ((S.j.m p).rn q) ((S.j.m p).rc q)):=fun w' x=>hM.p0 w' x q hq
    have hxw:IntKind.i64.wrap (xi - 1)=(q:Int):=by rw [IntWalk.i64_in _ (by omega)];omega
    have hxs:xi - 1=(q:Int):=by omega
    have hqw:IntKind.i64.wrap (q:Int)=(q:Int):=IntWalk.i64_in _ (by omega)
    have HRA:=Lib.hid (SlcD.row_at HS.out HHAS.out)
    have hrv:=HRA.out.2
    have hrow:(S.row n x).val=.slice ((S.j.m p).ra q) n ((S.j.m p).rc q):=by
     rw [hrv,hxe];simp only [Int.toNat_natCast];rw [show ((q:Int)+1).toNat - 1=q by omega]
    obtain ⟨r,hr⟩:∃ r,r=S.row n x:=⟨_,rfl⟩
    rw [hrn] at k2
    rw [←hr] at hrow HRA
    obtain ⟨va,hva⟩:∃ z,z=(S.j.m p).ra q:=⟨_,rfl⟩
    obtain ⟨vc,hvc⟩:∃ z,z=(S.j.m p).rc q:=⟨_,rfl⟩
    rw [←hva,←hvc] at hrow k2
    have HRV:=Lib.hid hrow
    have HVA:=Lib.hid (show r.a=va∧r.c=vc∧r.l.length=n from by
     have h1:=hrow
     unfold Row.val at h1
     simp only [Value.slice.injEq] at h1
     exact ⟨h1.1,h1.2.2,h1.2.1⟩)
    obtain rfl:ja=some ⟨S.j.s.b,S.j.s.o,none⟩:=by rw [HJA.out];exact HS.out.j.s.ha (by omega)
    generalize (S.j.m p).n=nm at *
    generalize (S.j.m p).b=bm at *
    generalize (S.j.m p).off=om at *
    generalize (S.j.m p).cap=cm at *
    obtain ⟨ew,hew⟩:∃ z,z=wriL (natV (fn (S.E n x))) n:=⟨_,rfl⟩
    have hel:ew.length≤110000:=by rw [hew];exact wriL_len HO.out.hn HHAS.out.bd
    have HWE:=Lib.hid (fun W (y:Ext w W)=>(show Calls Tryz.prog 65 #[.slice va n vc] W (fun e w'=>e=.returned (.string (bts ew))∧Ext W w') from by
     have h3:=HRA.out.1.ext y
     unfold Row.At at h3
     rw [HVA.out.2.2,HVA.out.1,show r.l=S.E n x from by rw [hr];rfl] at h3
     rw [hew]
     exact HWR.out W y va vc r.g r.o x HHAS.out h3))
    have HEW:=Lib.hid hew
    have hze:=bts_size ew
    obtain ⟨JN,hJN⟩:∃ z,z=jn (fun j=>evT T.toTr (g0.getD j (0,0))) 32 k:=⟨_,rfl⟩
    have HJN:=Lib.hid hJN
    have hJNl:JN.length≤90000:=by
     have h:=HLJ.out k (Nat.le_refl _)
     rw [List.length_cons,←hJN] at h;omega
    have HJO:=Lib.hid (fun W (y:Ext wi W)=>(show Calls Tryz.prog 67 #[.slice na k nc,.string ⟨#[32]⟩] W (fun e w'=>e=.returned (.string (bts JN))∧Ext W w') from by
     have h:=join_any W wr.heap.size na k nc _ (by simp) (HQN.out.ext y) 32 (by rw [join_jn,←hJN];omega) (by omega)
     rw [join_jn,←hJN] at h;exact h))
    have hzj:=bts_size JN
    clear hxe hM hrn hvb hrow hrv hr hva hvc hxi hx hew hJN
    go_upto_region 17 with fail
    have hi70:Ext wi wi.drew:=hii.drew
    have HBI:=Lib.hid ((HBO.out.ext hxri).ext hi70)
    refine wp_region_T (t:=20) (S:=Ext w2) (R:=fun _=>True) (by kernel_rfl) hx2i.drew trivial (fun hHeld=>?_)
    generalize wi.drew=w70 at hHeld hi70 HBI ⊢
    refine takeS 0 (v:=?_) rfl (by kernel_rfl) (by kernel_rfl) (by kernel_rfl) (fun _ _ _ h=>h) (by decide) (Or.inl ⟨by rfl,?_⟩) hHeld.1 hHeld.2 ?_
    rotate_left
    ·intro w' hSw
     have hS0:=hSw
     have hS1:=HXA.out.trans hSw
     have hS2:=HXB.out.trans hSw
     have hS3:=HXC.out.trans hSw
     have hSS:=Ext.refl w'
     go_simp
     try with_reducible rfl
    try simp only [Act.put,zA,zB,zC]
    refine takeS 2 (v:=?_) rfl (by kernel_rfl) (by kernel_rfl) (by kernel_rfl) (fun _ _ _ h=>h) (by decide) (Or.inl ⟨by rfl,?_⟩) hHeld.1 hHeld.2 ?_
    rotate_left
    ·intro w' hSw
     have hS0:=hSw
     have hS1:=HXA.out.trans hSw
     have hS2:=HXB.out.trans hSw
     have hS3:=HXC.out.trans hSw
     have hSS:=Ext.refl w'
     go_simp
     try with_reducible rfl
    try simp only [Act.put,zA,zB,zC]
    refine takeS 3 (v:=?_) rfl (by kernel_rfl) (by kernel_rfl) (by kernel_rfl) (fun _ _ _ h=>h) (by decide) (Or.inl ⟨by rfl,?_⟩) hHeld.1 hHeld.2 ?_
    rotate_left
    ·intro w' hSw
     have hS0:=hSw
     have hS1:=HXA.out.trans hSw
     have hS2:=HXB.out.trans hSw
     have hS3:=HXC.out.trans hSw
     have hSS:=Ext.refl w'
     go_simp
     try with_reducible rfl
    try simp only [Act.put,zA,zB,zC]
    refine takeS 4 (v:=?_) rfl (by kernel_rfl) (by kernel_rfl) (by kernel_rfl) (fun _ _ _ h=>h) (by decide) (Or.inl ⟨by rfl,?_⟩) hHeld.1 hHeld.2 ?_
    rotate_left
    ·intro w' hSw
     have hS0:=hSw
     have hS1:=HXA.out.trans hSw
     have hS2:=HXB.out.trans hSw
     have hS3:=HXC.out.trans hSw
     have hSS:=Ext.refl w'
     go_simp
     try with_reducible rfl
    try simp only [Act.put,zA,zB,zC]
    refine takeS 5 (v:=?_) rfl (by kernel_rfl) (by kernel_rfl) (by kernel_rfl) (fun _ _ _ h=>h) (by decide) (Or.inl ⟨by rfl,?_⟩) hHeld.1 hHeld.2 ?_
    rotate_left
    ·intro w' hSw
     have hS0:=hSw
     have hS1:=HXA.out.trans hSw
     have hS2:=HXB.out.trans hSw
     have hS3:=HXC.out.trans hSw
     have hSS:=Ext.refl w'
     go_simp
     try with_reducible rfl
    try simp only [Act.put,zA,zB,zC]
    refine takeS 6 (v:=?_) rfl (by kernel_rfl) (by kernel_rfl) (by kernel_rfl) (fun _ _ _ h=>h) (by decide) (Or.inl ⟨by rfl,?_⟩) hHeld.1 hHeld.2 ?_
    rotate_left
    ·intro w' hSw
     have hS0:=hSw
     have hS1:=HXA.out.trans hSw
     have hS2:=HXB.out.trans hSw
     have hS3:=HXC.out.trans hSw
     have hSS:=Ext.refl w'
     go_simp
     try with_reducible rfl
    try simp only [Act.put,zA,zB,zC]
    refine takeS 7 (v:=?_) rfl (by kernel_rfl) (by kernel_rfl) (by kernel_rfl) (fun _ _ _ h=>h) (by decide) (Or.inl ⟨by rfl,?_⟩) hHeld.1 hHeld.2 ?_
    rotate_left
    ·intro w' hSw
     have hS0:=hSw
     have hS1:=HXA.out.trans hSw
     have hS2:=HXB.out.trans hSw
     have hS3:=HXC.out.trans hSw
     have hSS:=Ext.refl w'
     go_simp
     try with_reducible rfl
    try simp only [Act.put,zA,zB,zC]
    refine takeS 8 (v:=?_) rfl (by kernel_rfl) (by kernel_rfl) (by kernel_rfl) (fun _ _ _ h=>h) (by decide) (Or.inl ⟨by rfl,?_⟩) hHeld.1 hHeld.2 ?_
    rotate_left
    ·intro w' hSw
     have hS0:=hSw
     have hS1:=HXA.out.trans hSw
     have hS2:=HXB.out.trans hSw
     have hS3:=HXC.out.trans hSw
     have hSS:=Ext.refl w'
     go_simp
     try with_reducible rfl
    try simp only [Act.put,zA,zB,zC]
    refine takeS 9 (v:=?_) rfl (by kernel_rfl) (by kernel_rfl) (by kernel_rfl) (fun _ _ _ h=>h) (by decide) (Or.inl ⟨by rfl,?_⟩) hHeld.1 hHeld.2 ?_
    rotate_left
    ·intro w' hSw
     have hS0:=hSw
     have hS1:=HXA.out.trans hSw
     have hS2:=HXB.out.trans hSw
     have hS3:=HXC.out.trans hSw
     have hSS:=Ext.refl w'
     go_simp
     try with_reducible rfl
    try simp only [Act.put,zA,zB,zC]
    refine takeS 10 (v:=?_) rfl (by kernel_rfl) (by kernel_rfl) (by kernel_rfl) (fun _ _ _ h=>h) (by decide) (Or.inl ⟨by rfl,?_⟩) hHeld.1 hHeld.2 ?_
    rotate_left
    ·intro w' hSw
     have hS0:=hSw
     have hS1:=HXA.out.trans hSw
     have hS2:=HXB.out.trans hSw
     have hS3:=HXC.out.trans hSw
     have hSS:=Ext.refl w'
     go_simp
     try with_reducible rfl
    try simp only [Act.put,zA,zB,zC]
    refine takeS 11 (v:=?_) rfl (by kernel_rfl) (by kernel_rfl) (by kernel_rfl) (fun _ _ _ h=>h) (by decide) (Or.inl ⟨by rfl,?_⟩) hHeld.1 hHeld.2 ?_
    rotate_left
    ·intro w' hSw
     have hS0:=hSw
     have hS1:=HXA.out.trans hSw
     have hS2:=HXB.out.trans hSw
     have hS3:=HXC.out.trans hSw
     have hSS:=Ext.refl w'
     go_simp
     try with_reducible rfl
    try simp only [Act.put,zA,zB,zC]
    refine takeS 12 (v:=?_) rfl (by kernel_rfl) (by kernel_rfl) (by kernel_rfl) (fun _ _ _ h=>h) (by decide) (Or.inl ⟨by rfl,?_⟩) hHeld.1 hHeld.2 ?_
    rotate_left
    ·intro w' hSw
     have hS0:=hSw
     have hS1:=HXA.out.trans hSw
     have hS2:=HXB.out.trans hSw
     have hS3:=HXC.out.trans hSw
     have hSS:=Ext.refl w'
     go_simp
     try with_reducible rfl
    try simp only [Act.put,zA,zB,zC]
    refine takeS 13 (v:=?_) rfl (by kernel_rfl) (by kernel_rfl) (by kernel_rfl) (fun _ _ _ h=>h) (by decide) (Or.inl ⟨by rfl,?_⟩) hHeld.1 hHeld.2 ?_
    rotate_left
    ·intro w' hSw
     have hS0:=hSw
     have hS1:=HXA.out.trans hSw
     have hS2:=HXB.out.trans hSw
     have hS3:=HXC.out.trans hSw
     have hSS:=Ext.refl w'
     go_simp
     try with_reducible rfl
    try simp only [Act.put,zA,zB,zC]
    refine takeS 14 (v:=?_) rfl (by kernel_rfl) (by kernel_rfl) (by kernel_rfl) (fun _ _ _ h=>h) (by decide) (Or.inl ⟨by rfl,?_⟩) hHeld.1 hHeld.2 ?_
    rotate_left
    ·intro w' hSw
     have hS0:=hSw
     have hS1:=HXA.out.trans hSw
     have hS2:=HXB.out.trans hSw
     have hS3:=HXC.out.trans hSw
     have hSS:=Ext.refl w'
     go_simp
     try with_reducible rfl
    try simp only [Act.put,zA,zB,zC]
    refine takeS 15 (v:=?_) rfl (by kernel_rfl) (by kernel_rfl) (by kernel_rfl) (fun _ _ _ h=>h) (by decide) (Or.inl ⟨by rfl,?_⟩) hHeld.1 hHeld.2 ?_
    rotate_left
    ·intro w' hSw
     have hS0:=hSw
     have hS1:=HXA.out.trans hSw
     have hS2:=HXB.out.trans hSw
     have hS3:=HXC.out.trans hSw
     have hSS:=Ext.refl w'
     go_simp
     try with_reducible rfl
    try simp only [Act.put,zA,zB,zC]
    refine takeS 16 (v:=?_) rfl (by kernel_rfl) (by kernel_rfl) (by kernel_rfl) (fun _ _ _ h=>h) (by decide) (Or.inl ⟨by rfl,?_⟩) hHeld.1 hHeld.2 ?_
    rotate_left
    ·intro w' hSw
     have hS0:=hSw
     have hS1:=HXA.out.trans hSw
     have hS2:=HXB.out.trans hSw
     have hS3:=HXC.out.trans hSw
     have hSS:=Ext.refl w'
     go_simp
     try with_reducible rfl
    try simp only [Act.put,zA,zB,zC]
    refine wpAnyT_ready (rs:=[1]) (by kernel_rfl) (by simp) ?_
    refine AllReadyT.cons rfl (fun K hK=>?_) AllReadyT.nil
    go_simp
    go_at_call 67
    refine (HJO.out w70 hi70).mono ?_
    rintro e wA ⟨rfl,hxA⟩
    have hx2A:=hHeld.1.trans hxA
    have HBA:=Lib.hid (HBI.out.ext hxA)
    refine hK.out _ _ ⟨hx2A,trivial⟩ (fun hH2=>?_)
    clear hK K
    try simp only [Act.put,zA,zB,zC]
    clear hHeld
    refine wpAnyT_ready (rs:=[17]) (by kernel_rfl) (by simp) ?_
    refine AllReadyT.cons rfl (fun K hK=>?_) AllReadyT.nil
    go_simp
    go_at_call 65
    refine (HWE.out wA (hxw2.trans hx2A)).mono ?_
    rintro e wB ⟨rfl,hxB⟩
    have hx2B:=hx2A.trans hxB
    have HBC:=Lib.hid (HBA.out.ext hxB)
    refine hK.out _ _ ⟨hx2B,trivial⟩ (fun hH3=>?_)
    clear hK K
    try simp only [Act.put,zA,zB,zC]
    clear hH2
    refine wpAnyT_ready (rs:=[18]) (by kernel_rfl) (by simp) ?_
    refine AllReadyT.cons rfl (fun K hK=>?_) AllReadyT.nil
    go_simp
    refine hK.out _ _ ⟨hx2B.alloc' _,trivial⟩ (fun hH4=>?_)
    clear hK K
    try simp only [Act.put,zA,zB,zC]
    clear hH3
    refine wpAnyT_ready (rs:=[19]) (by kernel_rfl) (by simp) ?_
    refine AllReadyT.cons rfl (fun K hK=>?_) AllReadyT.nil
    go_simp
    go_at_call 64
    refine (write1_any wB bb X HBC.out [[123],JN,[125,32],ew,[10]] 5 rfl (by omega) (fun x hx=>by simp only [List.mem_cons,List.mem_nil_iff,or_false] at hx;rcases hx with rfl | rfl | rfl | rfl | rfl <;> first | omega | simp) (by omega)).mono ?_
    rintro e w8 ⟨rfl,hb8,hbe8⟩
    have HNX:=Lib.hid (show slG T.toTr S n G (i+1)=X++cat [[123],JN,[125,32],ew,[10]] from by
     show slG T.toTr S n G i++grpT T.toTr S n (G.getD i [])=_
     unfold grpT
     rw [←HG0.out,←HLL.out,←HXE.out,←HJN.out,HHD.out.2,←HXG.out,←HEW.out]
     simp [cat])
    have HB8:=Lib.hid (show Bld bb (slG T.toTr S n G (i+1)) w8 from by rw [HNX.out];exact hb8)
    have hx28:Ext w2 w8:=Below.trans hx2B (by rw [←HBB.out];exact hbe8)
    refine hK.out _ _ ⟨hx28,trivial⟩ (fun hH5=>?_)
    clear hK K
    try simp only [Act.put,zA,zB,zC]
    refine wpAnyT_done (by kernel_rfl) ?_ _
    clear hH4 hH5 hb8 hbe8 hx2B hxB hx2A hxA HBA HBC HBI
    go_wp2_with fail
    go_roundg (K - (i+1))
    case rel=>exact ⟨i+1,by omega,rfl,by go_num,hx28,HB8⟩
    case measure=>omega
   have hkl':(k:Int)<(L:Int):=by omega
   have hev:=HO.out.ev (HGO.out k hkl)
   have hcx:=HCE.out k hkl
   obtain ⟨x,hx⟩:∃ x,x=g0.getD k (0,0):=⟨_,rfl⟩
   rw [←hx] at hev hcx
   obtain ⟨p,hp⟩:∃ p,p=x.1.toNat:=⟨_,rfl⟩
   obtain ⟨xi,hxi⟩:∃ z,z=x.2:=⟨_,rfl⟩
   rw [←hp,←hxi] at hev
   have hxe:x=((p:Int),xi):=Prod.ext (by rw [hev.2.1]) hxi.symm
   have e0:∀ w',Ext wg w'→w'.cell? ⟨ng,no+k*2,none⟩=some (.int .i64 p):=fun w' y=>by
    have h:=(hcx w' y).1
    rw [hxe] at h;exact h
   have e1:∀ w',Ext wg w'→w'.cell? ⟨ng,no+k*2+1,none⟩=some (.int .i64 xi):=fun w' y=>by
    have h:=(hcx w' y).2
    rw [hxe] at h;exact h
   obtain ⟨ev,hevt⟩:∃ z,z=evT T.toTr ((p:Int),xi):=⟨_,rfl⟩
   have hTP:=HT.out.P
   have hpT:p<T.n:=by rw [←HNT.out];exact hev.1
   obtain rfl:ta=some ⟨T.b,T.off,none⟩:=by rw [HTA.out];exact hTP.pa (by omega)
   have p0:∀ w',Ext w w'→w'.cell? ⟨T.b,T.off+p*3,none⟩=some (.string (T.name p)):=fun w' h=>hTP.p0 w' h p hpT
   have pb:=hTP.pb (by omega)
   obtain ⟨nm,hnm⟩:∃ nm,nm=(T.name p).data.toList:=⟨_,rfl⟩
   have hnb:T.name p=bts nm:=by rw [hnm];simp [bts]
   have hnl:nm.length≤1000:=by have:=bytes_len (T.name p);have:=HNN.out p hev.1;rw [hnm];omega
   rw [hnb] at p0
   have hpn':(p:Int)<(n:Int):=by have:=hev.1;omega
   have HIT:=Lib.hid (fun W (x:Ext w W)=>itoa_any xi (by have:=hev.2.2;omega) (by have:=hev.2.2;omega) W (HTB.out.ext x))
   obtain ⟨d,hd⟩:∃ d,d=Lib.itoa xi:=⟨_,rfl⟩
   have hdl:d.length≤1001:=by have:=itoa_len xi (by have:=hev.2.2;omega);have:=hev.2.2.2;rw [hd];omega
   rw [←hd] at HIT
   have HEV:=Lib.hid (show bts nm++(⟨#[46]⟩:ByteArray)++bts d=bts ev from by
    rw [hevt,show (⟨#[46]⟩:ByteArray)=bts [46] from rfl,bts_append,bts_append]
    unfold evT
    rw [hd,hnm];simp)
   have HEG:=Lib.hid (show evT T.toTr (g0.getD k (0,0))=ev from by rw [←hx,hxe,hevt])
   have hk1:¬9223372036854775807<nm.length+1:=by omega
   have hk2:¬9223372036854775807<nm.length+1+d.length:=by omega
   have hzn:=bts_size nm
   have hzd:=bts_size d
   clear hev hcx hx hp hxi hxe hevt hnm hnb hd hTP hpT
   go_upto_region 15 with fail
   refine boxed1 (w:=wi) (G:=fun x=>Code.wp _ _ _ _ x) ?_
   intro wj hxj hsj ⟨lj,cj,_,kj⟩
   obtain ⟨xb,hxb⟩:∃ z,z=wi.heap.size:=⟨_,rfl⟩
   have HKX:=Lib.hid (show Hold wj wi.heap.size #[.int .i64 (p:Int),.int .i64 xi] from kj)
   have HQX:=Lib.hid (show ∀ b,(Value.slice na k nc).ownBlock=some b→wr.heap.size≤b∧b<xb from fun b e=>⟨HQN.out.block b e,by rw [hxb];exact HQO.out b e⟩)
   rw [←hxb] at HKX ⊢
   have hx2j:=hx2i.trans hxj
   have HQJ:=Lib.hid (HQN.out.ext hxj)
   have hrj:=hxri.trans hxj
   clear hsj kj lj cj e0 e1 hxb
   have hdj:Ext wj wj.drew:=(Ext.refl wj).drew
   refine wp_region_T (t:=16) (S:=fun w'=>Ext w2 w'∧Hold w' xb #[Value.int .i64 (p:Int),.int .i64 xi]) (R:=fun _=>True) (by kernel_rfl) ⟨hx2j.drew,HKX.out.drew⟩ trivial (fun hHeld=>?_)
   generalize wj.drew=w80 at hHeld hdj ⊢
   refine takeS 0 (v:=?_) rfl (by kernel_rfl) (by kernel_rfl) (by kernel_rfl) (fun _ _ _ h=>h) (by decide) (Or.inl ⟨by rfl,?_⟩) hHeld.1 hHeld.2 ?_
   rotate_left
   ·intro w' hSw
    have hS0:=hSw.1
    have hS1:=HXA.out.trans hSw.1
    have hS2:=HXB.out.trans hSw.1
    have hS3:=HXC.out.trans hSw.1
    have hS4:=hSw.2.cell0
    have hS5:=hSw.2.lt
    have hSS:=Ext.refl w'
    go_simp
    try with_reducible rfl
   try simp only [Act.put,zA,zB,zC]
   refine takeS 1 (v:=?_) rfl (by kernel_rfl) (by kernel_rfl) (by kernel_rfl) (fun _ _ _ h=>h) (by decide) (Or.inl ⟨by rfl,?_⟩) hHeld.1 hHeld.2 ?_
   rotate_left
   ·intro w' hSw
    have hS0:=hSw.1
    have hS1:=HXA.out.trans hSw.1
    have hS2:=HXB.out.trans hSw.1
    have hS3:=HXC.out.trans hSw.1
    have hS4:=hSw.2.cell0
    have hS5:=hSw.2.lt
    have hSS:=Ext.refl w'
    go_simp
    try with_reducible rfl
   try simp only [Act.put,zA,zB,zC]
   refine takeS 2 (v:=?_) rfl (by kernel_rfl) (by kernel_rfl) (by kernel_rfl) (fun _ _ _ h=>h) (by decide) (Or.inl ⟨by rfl,?_⟩) hHeld.1 hHeld.2 ?_
   rotate_left
   ·intro w' hSw
    have hS0:=hSw.1
    have hS1:=HXA.out.trans hSw.1
    have hS2:=HXB.out.trans hSw.1
    have hS3:=HXC.out.trans hSw.1
    have hS4:=hSw.2.cell0
    have hS5:=hSw.2.lt
    have hSS:=Ext.refl w'
    go_simp
    try with_reducible rfl
   try simp only [Act.put,zA,zB,zC]
   refine takeS 3 (v:=?_) rfl (by kernel_rfl) (by kernel_rfl) (by kernel_rfl) (fun _ _ _ h=>h) (by decide) (Or.inl ⟨by rfl,?_⟩) hHeld.1 hHeld.2 ?_
   rotate_left
   ·intro w' hSw
    have hS0:=hSw.1
    have hS1:=HXA.out.trans hSw.1
    have hS2:=HXB.out.trans hSw.1
    have hS3:=HXC.out.trans hSw.1
    have hS4:=hSw.2.cell0
    have hS5:=hSw.2.lt
    have hSS:=Ext.refl w'
    go_simp
    try with_reducible rfl
   try simp only [Act.put,zA,zB,zC]
   refine takeS 4 (v:=?_) rfl (by kernel_rfl) (by kernel_rfl) (by kernel_rfl) (fun _ _ _ h=>h) (by decide) (Or.inl ⟨by rfl,?_⟩) hHeld.1 hHeld.2 ?_
   rotate_left
   ·intro w' hSw
    have hS0:=hSw.1
    have hS1:=HXA.out.trans hSw.1
    have hS2:=HXB.out.trans hSw.1
    have hS3:=HXC.out.trans hSw.1
    have hS4:=hSw.2.cell0
    have hS5:=hSw.2.lt
    have hSS:=Ext.refl w'
    go_simp
    try with_reducible rfl
   try simp only [Act.put,zA,zB,zC]
   refine takeS 5 (v:=?_) rfl (by kernel_rfl) (by kernel_rfl) (by kernel_rfl) (fun _ _ _ h=>h) (by decide) (Or.inl ⟨by rfl,?_⟩) hHeld.1 hHeld.2 ?_
   rotate_left
   ·intro w' hSw
    have hS0:=hSw.1
    have hS1:=HXA.out.trans hSw.1
    have hS2:=HXB.out.trans hSw.1
    have hS3:=HXC.out.trans hSw.1
    have hS4:=hSw.2.cell0
    have hS5:=hSw.2.lt
    have hSS:=Ext.refl w'
    go_simp
    try with_reducible rfl
   try simp only [Act.put,zA,zB,zC]
   refine takeS 6 (v:=?_) rfl (by kernel_rfl) (by kernel_rfl) (by kernel_rfl) (fun _ _ _ h=>h) (by decide) (Or.inl ⟨by rfl,?_⟩) hHeld.1 hHeld.2 ?_
   rotate_left
   ·intro w' hSw
    have hS0:=hSw.1
    have hS1:=HXA.out.trans hSw.1
    have hS2:=HXB.out.trans hSw.1
    have hS3:=HXC.out.trans hSw.1
    have hS4:=hSw.2.cell0
    have hS5:=hSw.2.lt
    have hSS:=Ext.refl w'
    go_simp
    try with_reducible rfl
   try simp only [Act.put,zA,zB,zC]
   refine takeS 7 (v:=?_) rfl (by kernel_rfl) (by kernel_rfl) (by kernel_rfl) (fun _ _ _ h=>h) (by decide) (Or.inl ⟨by rfl,?_⟩) hHeld.1 hHeld.2 ?_
   rotate_left
   ·intro w' hSw
    have hS0:=hSw.1
    have hS1:=HXA.out.trans hSw.1
    have hS2:=HXB.out.trans hSw.1
    have hS3:=HXC.out.trans hSw.1
    have hS4:=hSw.2.cell0
    have hS5:=hSw.2.lt
    have hSS:=Ext.refl w'
    go_simp
    try with_reducible rfl
   try simp only [Act.put,zA,zB,zC]
   refine takeS 8 (v:=?_) rfl (by kernel_rfl) (by kernel_rfl) (by kernel_rfl) (fun _ _ _ h=>h) (by decide) (Or.inl ⟨by rfl,?_⟩) hHeld.1 hHeld.2 ?_
   rotate_left
   ·intro w' hSw
    have hS0:=hSw.1
    have hS1:=HXA.out.trans hSw.1
    have hS2:=HXB.out.trans hSw.1
    have hS3:=HXC.out.trans hSw.1
    have hS4:=hSw.2.cell0
    have hS5:=hSw.2.lt
    have hSS:=Ext.refl w'
    go_simp
    try with_reducible rfl
   try simp only [Act.put,zA,zB,zC]
   refine takeS 9 (v:=?_) rfl (by kernel_rfl) (by kernel_rfl) (by kernel_rfl) (fun _ _ _ h=>h) (by decide) (Or.inl ⟨by rfl,?_⟩) hHeld.1 hHeld.2 ?_
   rotate_left
   ·intro w' hSw
    have hS0:=hSw.1
    have hS1:=HXA.out.trans hSw.1
    have hS2:=HXB.out.trans hSw.1
    have hS3:=HXC.out.trans hSw.1
    have hS4:=hSw.2.cell0
    have hS5:=hSw.2.lt
    have hSS:=Ext.refl w'
    go_simp
    try with_reducible rfl
   try simp only [Act.put,zA,zB,zC]
   refine takeS 10 (v:=?_) rfl (by kernel_rfl) (by kernel_rfl) (by kernel_rfl) (fun _ _ _ h=>h) (by decide) (Or.inl ⟨by rfl,?_⟩) hHeld.1 hHeld.2 ?_
   rotate_left
   ·intro w' hSw
    have hS0:=hSw.1
    have hS1:=HXA.out.trans hSw.1
    have hS2:=HXB.out.trans hSw.1
    have hS3:=HXC.out.trans hSw.1
    have hS4:=hSw.2.cell0
    have hS5:=hSw.2.lt
    have hSS:=Ext.refl w'
    go_simp
    try with_reducible rfl
   try simp only [Act.put,zA,zB,zC]
   refine wpAnyT_ready (rs:=[11]) (by kernel_rfl) (by simp) ?_
   refine AllReadyT.cons rfl (fun K hK=>?_) AllReadyT.nil
   go_simp
   go_at_call 66
   refine (HIT.out w80 (hxw2.trans hHeld.1.1)).mono ?_
   rintro e wA ⟨rfl,hxA⟩
   have hjA:=hdj.trans hxA
   refine hK.out _ _ ⟨⟨hHeld.1.1.trans hxA,hHeld.1.2.ext hxA⟩,trivial⟩ (fun hH2=>?_)
   clear hK K
   try simp only [Act.put,zA,zB,zC]
   clear hHeld
   have hHeld:=hH2
   refine takeS 12 (v:=?_) rfl (by kernel_rfl) (by kernel_rfl) (by kernel_rfl) (fun _ _ _ h=>h) (by decide) (Or.inl ⟨by rfl,?_⟩) hHeld.1 hHeld.2 ?_
   rotate_left
   ·intro w' hSw
    have hS0:=hSw.1
    have hS1:=HXA.out.trans hSw.1
    have hS2:=HXB.out.trans hSw.1
    have hS3:=HXC.out.trans hSw.1
    have hS4:=hSw.2.cell0
    have hS5:=hSw.2.lt
    have hSS:=Ext.refl w'
    go_simp
    try with_reducible rfl
   try simp only [Act.put,zA,zB,zC]
   rw [HEV.out]
   refine wpAnyT_ready (rs:=[13]) (by kernel_rfl) (by simp) ?_
   refine AllReadyT.cons rfl (fun K hK=>?_) AllReadyT.nil
   go_simp
   refine hK.out _ _ ⟨⟨hH2.1.1.alloc' _,hH2.1.2.ext (Ext.alloc _ _)⟩,trivial⟩ (fun hH3=>?_)
   clear hK K
   try simp only [Act.put,zA,zB,zC]
   clear hHeld
   have hjB:=hjA.alloc' (.cells #[.string (bts ev)] 9)
   have HNW:=Lib.hid (Hold.new wA #[.string (bts ev)] 9)
   have hX3:=hH2.1.1.alloc' (.cells #[.string (bts ev)] 9)
   have hH3':=hH2.1.2.ext (Ext.alloc wA (.cells #[.string (bts ev)] 9))
   obtain ⟨xn,hxn⟩:∃ z,z=wA.heap.size:=⟨_,rfl⟩
   rw [←hxn] at HNW ⊢
   clear hH2 hH3 hxn
   generalize World.alloc wA (.cells #[.string (bts ev)] 9)=wB at hjB HNW hX3 hH3' ⊢
   have HQB:=Lib.hid (HQJ.out.ext hjB)
   have hrB:=hrj.trans hjB
   refine wpAnyT_ready (rs:=[14]) (by kernel_rfl) (by simp) ?_
   refine AllReadyT.cons rfl (fun K hK=>?_) AllReadyT.nil
   refine step_appendG _ rfl _ _ 50 50 rfl (base:=wr.heap.size) (e:=9) (size:=1) s0 (.string ⟨#[]⟩) 16 Tryz.underlying50 hs0 ht0 ht1 ht2 rfl (v:=.slice na k nc) (n:=k) (xs:=strV ((List.range k).map fun j=>evT T.toTr (g0.getD j (0,0)))) rfl HQB.out hrB.le (.slice (some ⟨xn,0,none⟩) 1 1) 1 [.string (bts ev)] rfl (HNW.out.srcG Tryz.underlying50 rfl (one_str _)) (by unfold maxLen;omega) (by omega) ?_
   intro vz wC hq hg ho
   obtain ⟨za,zc,hsl⟩:=hq.slice
   subst hsl
   have hrC:Ext wr wC:=Below.grown hrB hg hrB.le (fun g e=>(HQX.out g e).1)
   refine hK.out _ _ ⟨⟨hx2o.trans hrC,hH3'.grownG hg (fun e=>by have:=HQX.out _ e;omega)⟩,trivial⟩ (fun hH4=>?_)
   clear hK K
   simp only [Act.put,List.getElem_toArray,List.getElem_cons_succ,List.getElem_cons_zero,List.setIfInBounds_toArray,List.set_cons_zero,List.set_cons_succ]
   have HQC:=Lib.hid (show Que wC wr.heap.size 1 (.slice za (k+1) zc) (k+1) (strV ((List.range (k+1)).map fun j=>evT T.toTr (g0.getD j (0,0)))) from by
    rw [List.range_succ,List.map_append,List.map_cons,List.map_nil,HEG.out]
    unfold strV
    rw [List.map_append];exact hq)
   have HQOC:=Lib.hid (Que.own_lt hq (by omega))
   have hHeld:=hH4
   clear hX3 hH3' hq hg ho hH4
   refine takeS 15 (v:=?_) rfl (by kernel_rfl) (by kernel_rfl) (by kernel_rfl) (fun _ _ _ h=>h) (by decide) (Or.inl ⟨by rfl,?_⟩) hHeld.1 hHeld.2 ?_
   rotate_left
   ·intro w' hSw
    have hS0:=hSw.1
    have hS1:=HXA.out.trans hSw.1
    have hS2:=HXB.out.trans hSw.1
    have hS3:=HXC.out.trans hSw.1
    have hS4:=hSw.2.cell0
    have hS5:=hSw.2.lt
    have hSS:=Ext.refl w'
    go_simp
    try with_reducible rfl
   try simp only [Act.put,zA,zB,zC]
   refine wpAnyT_done (by kernel_rfl) ?_ _
   clear hHeld
   go_wp2_with fail
   go_roundg (L - (k+1))
   case rel=>exact ⟨k+1,by omega,rfl,by go_num,hrC,HQC,HQOC⟩
   case measure=>omega
end Go.Proofs.YtmhapcnlpoilpaaGreatDoor
