/- Contracts and laws in plain Lean for SPos: group Ut. -/
import Derived.Test.YtnknkkmdbnaglaaGreatUs
import Derived.Test.YtnknkkmdbnaglaaGreatUr
import Derived.Deep.RegionHeld3
import Derived.Test.YtnknkkmdbnaglaaGreatUe
import Derived.Test.YtnknkkmdbnaglaaGreatUf
import Derived.Test.YtnknkkmdbnaglaaGreatUp
import Derived.Test.YtnknkkmdbnaglaaGreatUq
import Derived.Test.YtnknkkmdbnaglaaGreatUn
set_option maxRecDepth 100000
namespace Go.Proofs.YtnknkkmdbnaglaaGreat
open Go.RowKit Go.Shelf
def FcutPost (n:Nat) (L:List Edg) (s t:Nat) (w:World) (e:Ending) (w':World):Prop:=Ext w w'∧∃ (S:SetM) (val:Int) (f:Nat→Int),e=.returned (.tuple #[S.val,.int .i64 val,.int .i64 0])∧S.At w'∧S.Good n∧(Netw.ofList n L).Flow s t f val∧(∀ v,v<n→((S.wd (v / 64)).testBit (v % 64)=true↔(Netw.ofList n L).Reach s f v))∧¬(Netw.ofList n L).Reach s f t
theorem SetM.At.set2 {S:SetM} {w:World} (h:S.At w) {b i j:Nat} {u v:Value} (hb:S.b≠b):S.At ((w.setCell ⟨b,i,none⟩ u).setCell ⟨b,j,none⟩ v):=by
 have h1:S.At (w.setCell ⟨b,i,none⟩ u):=h.same (Nat.le_of_eq (by simp only [World.size_setCell])) fun _=>Below.heap_setCell _ _ _ _ hb
 exact h1.same (Nat.le_of_eq (by simp only [World.size_setCell])) fun _=>Below.heap_setCell _ _ _ _ hb
theorem fcut_results (tmps : Array Value) (W : World) (b : Nat) (x y u v : Value) (t6 : tmps[6]? = some (.pointer (some ⟨b, 0, none⟩))) (t7 : tmps[7]? = some u) (t8 : tmps[8]? = some v) (c : W.cell? ⟨b, 0, none⟩ = some x) (c' : W.cell? ⟨b, 1, none⟩ = some y) :
    (results Tryz.f158 tmps).run Tryz.prog W=.ok (.tuple #[.agg #[x,y],u,v]) W:=by
 simp [results,go_sem,t6,t7,t8,c,c']
theorem fill_bits {n:Nat} {by_:Nat→Int} {i:Nat} (hi:i<n):(∃ j,j<(memL by_ n).length∧(memL by_ n).getD j 0=i)↔by_ i≠-1:=by
 constructor
 ·rintro ⟨j,hj,e⟩
  rw [List.getD_eq_getElem?_getD,List.getElem?_eq_getElem hj] at e
  have:=List.getElem_mem hj
  rw [show (memL by_ n)[j]=i from e] at this
  exact (mem_memL.1 this).2
 ·intro h
  obtain ⟨j,hj,e⟩:=List.getElem_of_mem (mem_memL.2 ⟨hi,h⟩)
  exact ⟨j,hj,by rw [List.getD_eq_getElem?_getD,List.getElem?_eq_getElem hj];exact e⟩
set_option maxHeartbeats 4000000 in
theorem fcut_any (w : World) (n s t : Nat) (L : List Edg) (a : Option Addr) (b off c : Nat) (hN : NetOk n L) (hE : EdAt w a b off L) (hs : s < n) (ht : t < n) (hst : s ≠ t) :
    Calls Tryz.prog 158 #[.agg #[.int .i64 n,.slice a L.length c],.int .i64 s,.int .i64 t] w (FcutPost n L s t w):=by
 have HCk:=Lib.hid (fun W (h:Ext w W)=>flCheck_yes W n s t L a b off c hN (hE.ext h) hs ht hst)
 have HOp:=Lib.hid (fun W (h:Ext w W)=>fopen_any W n L a b off c hN (hE.ext h))
 have HFi:=Lib.hid (fun W R base l (h:RsA.At R base (Netw.ofList n L) l W) hF=>fill_any W R base (Netw.ofList n L) l h hN.n2 hN.m hN.ok hN.hi s t hs ht hst hF)
 have HZ:=Lib.hid (Netw.ResF.zero hN.ok s t)
 have hn1:=hN.n1
 have hn2:=hN.n2
 have HHT:=Lib.hid ht
 clear hN hE hs ht hst
 unfold FcutPost
 go_enter Tryz.func158,Tryz.ntmps158
 go_upto_region 1 with fail
 refine boxed2 (w:=w) (G:=fun x=>Code.wp _ _ _ _ x) ?_
 intro w1 hx1 hs1 ⟨l0,c0,_,k0⟩ ⟨l1,c1,f1,k1⟩
 have hx11:Ext w1 w1:=Ext.refl _
 have HS1:=Lib.hid hs1
 clear hs1
 go_wp2_with fail
 go_at_call 95
 refine (HCk.out w1 hx1).mono ?_
 rintro e w2 ⟨rfl,hx2⟩
 have hx02:=hx1.trans hx2
 go_wp2_with fail
 go_at_call 96
 refine (HOp.out w2 hx02).mono ?_
 rintro e w3 ⟨hx3,R,rfl,hR⟩
 have hx23:=hx2.trans hx3
 have hfi:=HFi.out w3 R _ _ hR HZ.out
 go_wp2_with fail
 go_at_call 97
 refine hfi.mono ?_
 rintro e w4 ⟨val,l',g,by_,rfl,hR4,hF4,hI4,hg4,hx4,hRe4,hbt4⟩
 have hx14:Ext w1 w4:=Below.trans hx23 (Below.mono hx4 hx2.le)
 have hx44:Ext w4 w4:=Ext.refl _
 have HI4:=Lib.hid hI4
 have HF4:=Lib.hid hF4
 have HRE:=Lib.hid hRe4
 have HBT:=Lib.hid hbt4
 have HX04:=Lib.hid (hx1.trans hx14)
 have HSZ:=Lib.hid (show w1.heap.size≤w4.heap.size from hx14.le)
 have HK4:=Lib.hid (Hold.ext k1 hx14)
 have HK0:=Lib.hid (Hold.ext k0 hx14)
 have HLEN:=Lib.hid (memL_len by_ n)
 have hme:∀ W,Ext w4 W→Calls Tryz.prog 211 #[.slice (some ⟨g,0,none⟩) n n,.int .i64 n] W (MemPost (memL by_ n) W):=fun W h=>members_any W g n by_ (HI4.out.ext h) hn2 (by omega)
 have HME:=Lib.hid hme
 clear hR hR4 hF4 hI4 hRe4 hbt4 hfi hme hx2 hx3 hx4 hg4
 go_upto_region 5 with fail
 refine wp_region_held_drew (S:=fun w'=>Hold w' w.heap.size #[.int .i64 n,.slice a L.length c]) (by kernel_rfl) (Hold.ext HK0.out (Ext.refl _).drew) (fun hHeld=>?_)
 refine hQ 0 (v:=?_) rfl (y:=.inl ⟨by rfl,?_⟩) (h:=?_)
 rotate_left
 ·(intro w' hSw;obtain ⟨lS,cS,_,_⟩:=hSw.box;have hSS:=Ext.refl w';go_simp;try with_reducible rfl)
 simp only [Act.put,zA,zB,zC]
 refine hQ 1 (v:=?_) rfl (y:=.inl ⟨by rfl,?_⟩) (h:=?_)
 rotate_left
 ·(intro w' hSw;obtain ⟨lS,cS,_,_⟩:=hSw.box;have hSS:=Ext.refl w';go_simp;try with_reducible rfl)
 simp only [Act.put,zA,zB,zC]
 refine hQ 2 (v:=?_) rfl (y:=.inl ⟨by rfl,?_⟩) (h:=?_)
 rotate_left
 ·(intro w' hSw;obtain ⟨lS,cS,_,_⟩:=hSw.box;have hSS:=Ext.refl w';go_simp;try with_reducible rfl)
 simp only [Act.put,zA,zB,zC]
 refine hQ 3 (v:=?_) rfl (y:=.inl ⟨by rfl,?_⟩) (h:=?_)
 rotate_left
 ·(intro w' hSw;obtain ⟨lS,cS,_,_⟩:=hSw.box;have hSS:=Ext.refl w';go_simp;try with_reducible rfl)
 simp only [Act.put,zA,zB,zC]
 refine hQ 4 (v:=?_) rfl (y:=.inl ⟨by rfl,?_⟩) (h:=?_)
 rotate_left
 ·(intro w' hSw;obtain ⟨lS,cS,_,_⟩:=hSw.box;have hSS:=Ext.refl w';go_simp;try with_reducible rfl)
 simp only [Act.put,zA,zB,zC]
 refine wpAnyH_ready (rs:=[5]) (by kernel_rfl) (by simp) ?_
 refine AllReadyH.cons rfl (fun K hK=>?_) AllReadyH.nil
 go_simp
 go_at_call 211
 refine (HME.out _ (Ext.refl w4).drew).mono ?_
 rintro e w5 ⟨hx5,v5,rfl,hq5⟩
 obtain ⟨a5,g5,o5,c5,rfl,hc5,ha5,hq5'⟩:=hq5.cells1
 have hx45:Ext w4 w5:=(Ext.refl w4).drew.trans hx5
 refine hK.out _ _ ?_ (fun hHeld2=>?_)
 ·exact (Hold.ext HK0.out hx45)
 clear hK K
 try simp only [Act.put,zA,zB,zC]
 have HQ:=Lib.hid (fun k (hk:k<(memL by_ n).length) w' (x:Ext w5 w')=>(show w'.cell? ⟨g5,o5+k,none⟩=some (.int .i64 (((memL by_ n).getD k 0:Nat):Int)) from x.cell ((hq5' k hk).trans (by
  rw [List.getD_eq_getElem?_getD,List.getElem?_eq_getElem hk];exact natInts_get (List.getElem?_eq_getElem hk)))))
 have hof:=of_any n hn2 a5 g5 o5 (memL by_ n).length c5 (fun k=>(memL by_ n).getD k 0) w5 (by have:=HLEN.out;omega) (fun h=>(ha5 h).1) (fun h w' x=>Nat.lt_of_lt_of_le (ha5 h).2.2 x.le) (fun w' x k hk=>HQ.out k hk w' x) (fun k hk=>by
  have:=List.getElem_mem hk
  have h2:(memL by_ n).getD k 0=(memL by_ n)[k]:=by rw [List.getD_eq_getElem?_getD,List.getElem?_eq_getElem hk];rfl
  rw [h2];exact (mem_memL.1 this).1)
 have HOF:=Lib.hid hof
 clear hof hq5 hq5' ha5
 refine wpAnyH_ready (rs:=[6]) (by kernel_rfl) (by simp) ?_
 refine AllReadyH.cons rfl (fun K hK=>?_) AllReadyH.nil
 go_simp
 go_at_call 210
 refine HOF.out.mono ?_
 rintro e w6 ⟨hx6,S,rfl,hS,hG,hSb,hbit⟩
 have hx46:Ext w4 w6:=hx45.trans hx6
 refine hK.out _ _ ?_ (fun hHeld3=>?_)
 ·exact (Hold.ext HK0.out hx46)
 clear hK K
 try simp only [Act.put,zA,zB,zC]
 refine hQ 7 (v:=?_) rfl (y:=.inl ⟨by rfl,?_⟩) (h:=?_)
 rotate_left
 ·(intro w' hSw;obtain ⟨lS,cS,_,_⟩:=hSw.box;have hSS:=Ext.refl w';go_simp;try with_reducible rfl)
 simp only [Act.put,zA,zB,zC]
 refine hQ 8 (v:=?_) rfl (y:=.inl ⟨by rfl,?_⟩) (h:=?_)
 rotate_left
 ·(intro w' hSw;obtain ⟨lS,cS,_,_⟩:=hSw.box;have hSS:=Ext.refl w';go_simp;try with_reducible rfl)
 simp only [Act.put,zA,zB,zC]
 refine hQ 9 (v:=?_) rfl (y:=.inl ⟨by rfl,?_⟩) (h:=?_)
 rotate_left
 ·(intro w' hSw;obtain ⟨lS,cS,_,_⟩:=hSw.box;have hSS:=Ext.refl w';go_simp;try with_reducible rfl)
 simp only [Act.put,zA,zB,zC]
 have hx16:Ext w1 w6:=hx14.trans hx46
 have HX06:=Lib.hid (hx1.trans hx16)
 have HS6:=Lib.hid hS
 have HSB:=Lib.hid (show w.heap.size+1<S.b by have:=HS1.out;have:=HSZ.out;have:=hx5.le;have h9:w4.drew.heap.size=w4.heap.size:=rfl;omega)
 have HBIT:=Lib.hid hbit
 have HG:=Lib.hid hG
 have HK1:=Lib.hid (Hold.ext HK4.out hx46)
 clear hS hG hbit hSb
 refine wpAnyH_ready (rs:=[10]) (by kernel_rfl) (by simp) ?_
 refine AllReadyH.cons rfl (fun K hK=>?_) AllReadyH.nil
 go_simp
 refine hK.out _ _ ?_ (fun hHeld4=>?_)
 ·exact (Hold.other (Hold.other (Hold.ext HK0.out hx46) _ _ (by show w.heap.size≠w.heap.size+1;omega)) _ _ (by show w.heap.size≠w.heap.size+1;omega))
 clear hK K
 try simp only [Act.put,zA,zB,zC]
 refine wpAnyH_ready (rs:=[11]) (by kernel_rfl) (by simp) ?_
 refine AllReadyH.cons rfl (fun K hK=>?_) AllReadyH.nil
 go_simp
 refine hK.out _ _ ?_ (fun hHeld5=>?_)
 ·exact (Hold.other (Hold.other (Hold.ext HK0.out hx46) _ _ (by show w.heap.size≠w.heap.size+1;omega)) _ _ (by show w.heap.size≠w.heap.size+1;omega))
 clear hK K
 try simp only [Act.put,zA,zB,zC]
 refine wpAnyH_done (by kernel_rfl) ?_ _
 clear hHeld hHeld2 hHeld3 hHeld4 hHeld5 l0 c0 l1 c1 f1 k0 k1 hx16 hx45 hx46 hx6
 go_upto_region 6 with fail
 refine setd2 (w:=w6) (G:=fun x=>Code.wp _ _ _ _ x) ?_
 intro w7 hw7
 have hk7:Hold w7 (w.heap.size+1) #[.int .i64 S.N,.slice S.a S.m S.cap]:=by rw [hw7];exact Hold.set (Hold.set HK1.out 0 (.int .i64 S.N)) 1 (.slice S.a S.m S.cap)
 have HS7:=Lib.hid (show S.At w7 from by
  rw [hw7]
  exact HS6.out.set2 (by have:=HSB.out;omega))
 have HX7:=Lib.hid (show Ext w w7 from by rw [hw7];exact (HX06.out.setCell (by show w.heap.size≤w.heap.size+1;omega) _).setCell (by show w.heap.size≤w.heap.size+1;omega) _)
 have HK7:=Lib.hid hk7
 obtain ⟨l7,c7,f7,_⟩:=hk7.box
 have hx77:Ext w7 w7:=Ext.refl _
 clear hw7 hk7
 go_wp2_with fail
 refine bodyPost_ret (fcut_results _ _ _ _ _ _ _ rfl rfl rfl ((Hold.set (Hold.set HK7.out 0 _) 1 _).cell0 0) ((Hold.set (Hold.set HK7.out 0 _) 1 _).cell0 1)) rfl ?_
 refine ⟨(HX7.out.setCell (by show w.heap.size≤w.heap.size+1;omega) _).setCell (by show w.heap.size≤w.heap.size+1;omega) _,S,val,rfl,HS7.out.set2 (by have:=HSB.out;omega),HG.out,flowOf l',HF4.out.flow,fun v hv=>?_,fun h=>?_⟩
 ·rw [HBIT.out v hv,decide_eq_true_iff,fill_bits hv];exact HRE.out v hv
 ·exact (HRE.out t HHT.out).2 h HBT.out
end Go.Proofs.YtnknkkmdbnaglaaGreat

namespace Go.Proofs.YtnknkkmdbnaglaaGreat
open Go.RowKit
def Tr.num (T:Tr) (x:NN):Nat:=tott T.en x.1+x.2
theorem tott_tot (f:Nat→Nat):∀ n,tott f n=tot f n
 | 0 => rfl
 | n+1 => by show tott f n+f n=tot f n+f n;rw [tott_tot f n]
theorem Tr.num_lt {T:Tr} {x:NN} (h:T.V x):T.num x<tott T.en T.n:=tott_lt T.en h.1 h.2
theorem Tr.num_inj {T:Tr} {x y:NN} (hx:T.V x) (hy:T.V y) (h:T.num x=T.num y):x=y:=by
 obtain ⟨p,i⟩:=x
 obtain ⟨q,j⟩:=y
 obtain ⟨h1,h2⟩:=tott_inj T.en hx.2 hy.2 h
 dsimp only at h1 h2
 rw [h1,h2]
noncomputable def Tr.needL (T:Tr) (l:List T.Id):List (Nat × Nat):=l.flatMap fun x=>(T.bk x.1).map fun y=>(T.num x.1,T.num y)
noncomputable def Tr.needs (T:Tr):List (Nat × Nat):=T.needL T.evs
theorem Tr.needL_snoc (T:Tr) (l:List T.Id) (x:T.Id):T.needL (l++[x])=T.needL l++(T.bk x.1).map fun y=>(T.num x.1,T.num y):=by simp [Tr.needL]
theorem Tr.bk_le (T:Tr) (x:NN):(T.bk x).length≤2:=by
 unfold Tr.bk
 rw [List.length_append]
 split <;> split <;> simp
theorem Tr.needL_len (T:Tr):∀ l:List T.Id,(T.needL l).length≤2*l.length
 | [] => Nat.le_refl _
 | x :: l => by
  have h1:=T.needL_len l
  have h2:=T.bk_le x.1
  have e:T.needL (x :: l)=((T.bk x.1).map fun y=>(T.num x.1,T.num y))++T.needL l:=by simp [Tr.needL]
  rw [e,List.length_append,List.length_map,List.length_cons];omega
theorem Tr.mem_needs {T:Tr} {e:Nat × Nat}:e∈T.needs↔∃ x:T.Id,∃ y,y∈T.bk x.1∧e=(T.num x.1,T.num y):=by
 unfold Tr.needs Tr.needL
 constructor
 ·intro h
  obtain ⟨x,_,h2⟩:=List.mem_flatMap.1 h
  obtain ⟨y,h3,h4⟩:=List.mem_map.1 h2
  exact ⟨x,y,h3,h4.symm⟩
 ·rintro ⟨x,y,h3,h4⟩
  exact List.mem_flatMap.2 ⟨x,evs_all x,List.mem_map.2 ⟨y,h3,h4.symm⟩⟩
theorem Tr.mem_bkx {T:Tr} {x y:NN}:y∈T.bk x↔(0<x.2∧y=(x.1,x.2 - 1))∨(T.kind x.1 x.2=3∧y=T.sndN x):=by
 unfold Tr.bk
 rw [List.mem_append]
 constructor
 ·rintro (h | h)
  ·split at h
   ·next h0=>exact .inl ⟨h0,by simpa using h⟩
   ·simp at h
  ·split at h
   ·next h0=>exact .inr ⟨h0,by simpa using h⟩
   ·simp at h
 ·rintro (⟨h0,rfl⟩ | ⟨h0,rfl⟩)
  ·left;rw [if_pos h0];simp
  ·right;rw [if_pos h0];simp
theorem Tr.bk_V {T:Tr} {x y:NN} (hx:T.V x) (h:y∈T.bk x):T.V y:=by
 rcases Tr.mem_bkx.1 h with ⟨h0,rfl⟩ | ⟨_,rfl⟩
 ·exact ⟨hx.1,by have:=hx.2;show x.2 - 1<T.en x.1;omega⟩
 ·exact Tr.sndN_V hx
theorem Tr.bk_ne {T:Tr} (hV:T.Valid) {x y:NN} (hx:T.V x) (h:y∈T.bk x):x≠y:=by
 rcases Tr.mem_bkx.1 h with ⟨h0,rfl⟩ | ⟨h3,rfl⟩
 ·intro e
  have:=congrArg Prod.snd e
  dsimp only at this;omega
 ·intro e
  have h2:=(hV.sndN hx h3).1
  rw [←e,h3] at h2;omega
structure Tr.CutOk (T:Tr) (c:Nat→Nat):Prop where
 le:∀ p,p<T.n→c p≤T.en p
 cl:∀ x,T.V x→x.2<c x.1→T.kind x.1 x.2=3→(T.sndN x).2<c (T.sndN x).1
theorem Tr.CutOk.zero (T:Tr):T.CutOk fun _=>0:=⟨fun _ _=>Nat.zero_le _,fun _ _ h=>by omega⟩
theorem Tr.CutOk.congr {T:Tr} {c d:Nat→Nat} (h:T.CutOk c) (e:∀ p,p<T.n→d p=c p):T.CutOk d:=
 ⟨fun p hp=>by rw [e p hp];exact h.le p hp,fun x hx hl h3=>by rw [e _ (Tr.sndN_V hx).1];rw [e _ hx.1] at hl;exact h.cl x hx hl h3⟩
open Classical in
noncomputable def Tr.inCut (T:Tr) (c:Nat→Nat) (v:Nat):Bool:=decide (∃ x,T.V x∧T.num x=v∧x.2<c x.1)
theorem Tr.inCut_iff {T:Tr} {c:Nat→Nat} {x:NN} (hx:T.V x):T.inCut c (T.num x)=true↔x.2<c x.1:=by
 simp only [Tr.inCut,decide_eq_true_eq]
 constructor
 ·rintro ⟨y,hy,e,h⟩
  rw [←Tr.num_inj hy hx e];exact h
 ·exact fun h=>⟨x,hx,rfl,h⟩
theorem Tr.CutOk.closed {T:Tr} {c:Nat→Nat} (h:T.CutOk c):Closed T.needs (T.inCut c):=by
 intro e he h1
 obtain ⟨x,y,hy,rfl⟩:=Tr.mem_needs.1 he
 have h2:=(Tr.inCut_iff x.2).1 h1
 refine (Tr.inCut_iff (Tr.bk_V x.2 hy)).2 ?_
 rcases Tr.mem_bkx.1 hy with ⟨h0,rfl⟩ | ⟨h3,rfl⟩
 ·dsimp only;omega
 ·exact h.cl x.1 x.2 h2 h3
theorem Tr.closed_cut {T:Tr} {R:Nat→Bool} (h:Closed T.needs R):T.CutOk (cutOf T.en R)∧∀ x,T.V x→(R (T.num x)=true↔x.2<cutOf T.en R x.1):=by
 have key:∀ x,T.V x→(R (T.num x)=true↔x.2<cutOf T.en R x.1):=by
  rintro ⟨p,i⟩ hx
  refine cntB_prefix (R:=fun i=>R (tott T.en p+i)) (m:=T.en p) (fun j hj hR=>?_) i hx.2
  have hx1:T.V (p,j+1):=⟨hx.1,hj⟩
  exact h (T.num (p,j+1),T.num (p,j)) (Tr.mem_needs.2 ⟨⟨(p,j+1),hx1⟩,(p,j),Tr.mem_bkx.2 (.inl ⟨by simp,rfl⟩),rfl⟩) hR
 refine ⟨⟨fun p _=>cntB_le _ _,fun x hx hl h3=>?_⟩,key⟩
 refine (key _ (Tr.sndN_V hx)).1 ?_
 exact h (T.num x,T.num (T.sndN x)) (Tr.mem_needs.2 ⟨⟨x,hx⟩,T.sndN x,Tr.mem_bkx.2 (.inr ⟨h3,rfl⟩),rfl⟩) ((key x hx).2 hl)
theorem Tr.needs_lt {T:Tr}:∀ x∈T.needs,x.1<tott T.en T.n∧x.2<tott T.en T.n:=by
 intro e he
 obtain ⟨x,y,hy,rfl⟩:=Tr.mem_needs.1 he
 exact ⟨Tr.num_lt x.2,Tr.num_lt (Tr.bk_V x.2 hy)⟩
theorem Tr.needs_ne {T:Tr} (hV:T.Valid):∀ x∈T.needs,x.1≠x.2:=by
 intro e he h
 obtain ⟨x,y,hy,rfl⟩:=Tr.mem_needs.1 he
 exact Tr.bk_ne hV x.2 hy (Tr.num_inj x.2 (Tr.bk_V x.2 hy) h)
def Tr.atC (T:Tr) (w:Nat→Int) (c:Nat→Nat):Int:=isum T.n fun p=>isum (c p) fun i=>w (T.num (p,i))
theorem Tr.atC_congr {T:Tr} {w:Nat→Int} {c d:Nat→Nat} (e:∀ p,p<T.n→d p=c p):T.atC w d=T.atC w c:=isum_congr fun p hp=>by rw [e p hp]
theorem Tr.atC_wsum {T:Tr} {w:Nat→Int} {c:Nat→Nat} {R:Nat→Bool} (hc:∀ p,p<T.n→c p≤T.en p) (hR:∀ x,T.V x→(R (T.num x)=true↔x.2<c x.1)):wsum w R (tott T.en T.n)=T.atC w c:=by
 unfold wsum Tr.atC
 rw [isum_tot]
 refine isum_congr fun p hp=>?_
 rw [←isum_cut (fun i=>w (T.num (p,i))) (hc p hp)]
 refine isum_congr fun i hi=>?_
 by_cases e:i<c p
 ·have h2:R (tott T.en p+i)=true:=(hR (p,i) ⟨hp,hi⟩).2 e
  rw [if_pos h2,if_pos e];rfl
 ·have h2:¬R (tott T.en p+i)=true:=fun h=>e ((hR (p,i) ⟨hp,hi⟩).1 h)
  rw [if_neg h2,if_neg e]
structure Tr.Best (T:Tr) (b:Int) (w:Nat→Int) (v:Int) (c:Nat→Nat):Prop where
 cut:T.CutOk c
 val:v=b+T.atC w c
 most:∀ d,T.CutOk d→T.atC w d≤T.atC w c
 least:∀ d,T.CutOk d→T.atC w d=T.atC w c→∀ p,p<T.n→c p≤d p
theorem Tr.best_of {T : Tr} {w : Nat → Int} {f : Nat → Int} {val : Int} {R : Nat → Bool} (hok : (Netw.ofList (tott T.en T.n + 2) (closureNet (tott T.en T.n) w T.needs)).Ok)
    (hf:(Netw.ofList (tott T.en T.n+2) (closureNet (tott T.en T.n) w T.needs)).Flow (tott T.en T.n) (tott T.en T.n+1) f val)
    (hR:∀ v,R v=true↔(Netw.ofList (tott T.en T.n+2) (closureNet (tott T.en T.n) w T.needs)).Reach (tott T.en T.n) f v) (ht:R (tott T.en T.n+1)=false) (b:Int) :
    val=wpos w (tott T.en T.n) - T.atC w (cutOf T.en R)∧T.Best b w (b+T.atC w (cutOf T.en R)) (cutOf T.en R):=by
 obtain ⟨h1,h2,h3⟩:=closure_best Tr.needs_lt hok hf hR ht
 obtain ⟨h4,h5⟩:=Tr.closed_cut h1
 have hs:=Tr.atC_wsum (w:=w) h4.le h5
 rw [hs] at h2
 refine ⟨h2,⟨h4,rfl,fun d hd=>?_,fun d hd he p hp=>?_⟩⟩
 ·have h6:=(h3 (T.inCut d) hd.closed).1
  rw [hs,Tr.atC_wsum hd.le fun x hx=>Tr.inCut_iff hx] at h6;exact h6
 ·have h6:=(h3 (T.inCut d) hd.closed).2
  rw [hs,Tr.atC_wsum hd.le fun x hx=>Tr.inCut_iff hx] at h6
  have h7:=h6 he
  refine Nat.le_of_not_lt fun hlt=>?_
  have hx:T.V (p,d p):=⟨hp,by have:=h4.le p hp;show d p<T.en p;omega⟩
  have h8:=h7 (T.num (p,d p)) (Tr.num_lt hx) ((h5 _ hx).2 hlt)
  have:=(Tr.inCut_iff hx).1 h8
  dsimp only at this;omega
theorem Tr.Best.uniq {T:Tr} {b:Int} {w:Nat→Int} {v v':Int} {c c':Nat→Nat} (h:T.Best b w v c) (h':T.Best b w v' c'):v=v'∧∀ p,p<T.n→c p=c' p:=by
 have h1:=h.most c' h'.cut
 have h2:=h'.most c h.cut
 refine ⟨by rw [h.val,h'.val];omega,fun p hp=>?_⟩
 have h3:=h.least c' h'.cut (by omega) p hp
 have h4:=h'.least c h.cut (by omega) p hp
 omega
structure WOk (w:Nat→Int) (b:Int) (m:Nat):Prop where
 few:m≤510
 mass:iabs b+isum m (fun i=>iabs (w i))≤562949953421312
theorem iabs_nonneg (x:Int):0≤iabs x:=by unfold iabs;split <;> omega
theorem isum_nonneg {g:Nat→Int}:∀ {m:Nat},(∀ i,i<m→0≤g i)→0≤isum m g
 | 0,_ => Int.le_refl _
 | m+1,h => by
  have h1:=isum_nonneg (g:=g) (m:=m) fun i hi=>h i (by omega)
  have h2:=h m (by omega)
  show 0≤isum m g+g m
  omega
theorem isum_one_le {g:Nat→Int}:∀ {m i:Nat},(∀ i,i<m→0≤g i)→i<m→g i≤isum m g
 | 0,_,_,h => by omega
 | m+1,i,h,hi => by
  have h1:=isum_nonneg (g:=g) (m:=m) fun i hi=>h i (by omega)
  have h2:=h m (by omega)
  show g i≤isum m g+g m
  by_cases e:i=m
  ·subst e;omega
  ·have h3:=isum_one_le (g:=g) (m:=m) (fun i hi=>h i (by omega)) (show i<m by omega);omega
theorem wpos_abs (w:Nat→Int) (m:Nat):wpos w m≤isum m fun i=>iabs (w i):=isum_le fun i _=>by unfold iabs;split <;> split <;> omega
theorem wpos_nonneg (w:Nat→Int) (m:Nat):0≤wpos w m:=isum_nonneg fun i _=>by split <;> omega
theorem WOk.w {w:Nat→Int} {b:Int} {m:Nat} (h:WOk w b m) {i:Nat} (hi:i<m):-562949953421312≤w i∧w i≤562949953421312:=by
 have h1:=isum_one_le (g:=fun i=>iabs (w i)) (fun i _=>iabs_nonneg _) hi
 have h2:=h.mass
 have h3:=iabs_nonneg b
 have h4:iabs (w i)=if w i<0 then - w i else w i:=rfl
 split at h4 <;> omega
theorem WOk.neg {w:Nat→Int} {b:Int} {m:Nat} (h:WOk w b m):WOk (fun i=>- w i) (- b) m:=by
 have e:∀ x,iabs (- x)=iabs x:=fun x=>by unfold iabs;split <;> split <;> omega
 refine ⟨h.few,?_⟩
 have:=h.mass
 simp only [e];exact this
theorem edgesW_len (n:Nat) (w:Nat→Int):∀ k,(edgesW n w k).length≤k
 | 0 => Nat.le_refl _
 | k+1 => by
  have:=edgesW_len n w k
  unfold edgesW
  rw [List.length_append]
  split
  ·simp;exact this
  ·split
   ·simp;exact this
   ·simp;omega
theorem mem_edgesW {n:Nat} {w:Nat→Int}:∀ {k:Nat} {e:Edg},e∈edgesW n w k→∃ i,i<k∧((0<w i∧e=(n,i,w i))∨(w i<0∧e=(i,n+1,- w i)))
 | 0,e,h => by cases h
 | k+1,e,h => by
  unfold edgesW at h
  rcases List.mem_append.1 h with h | h
  ·obtain ⟨i,hi,h⟩:=mem_edgesW h
   exact ⟨i,by omega,h⟩
  ·split at h
   ·next h0=>exact ⟨k,by omega,.inl ⟨h0,by simpa using h⟩⟩
   ·split at h
    ·next h0=>exact ⟨k,by omega,.inr ⟨h0,by simpa using h⟩⟩
    ·simp at h
theorem edgAt_mem {L:List Edg} {i:Nat} (h:i<L.length):edgAt L i∈L:=by rw [edgAt_eq h];exact List.getElem_mem h
theorem Tr.netOk {T:Tr} (hV:T.Valid) {w:Nat→Int} {b:Int} (h:WOk w b (tott T.en T.n)):NetOk (tott T.en T.n+2) (closureNet (tott T.en T.n) w T.needs):=by
 have hp:=wpos_abs w (tott T.en T.n)
 have hp0:=wpos_nonneg w (tott T.en T.n)
 have hm:=h.mass
 have hb:=iabs_nonneg b
 have hf:=h.few
 have key:∀ e∈closureNet (tott T.en T.n) w T.needs,e.1<tott T.en T.n+2∧e.2.1<tott T.en T.n+2∧e.1≠e.2.1∧0≤e.2.2∧e.2.2≤1125899906842624:=by
  intro e he
  unfold closureNet at he
  rcases List.mem_append.1 he with he | he
  ·obtain ⟨i,hi,⟨h0,rfl⟩ | ⟨h0,rfl⟩⟩:=mem_edgesW he
   ·have:=h.w hi
    refine ⟨?_,?_,?_,?_,?_⟩ <;> dsimp only <;> omega
   ·have:=h.w hi
    refine ⟨?_,?_,?_,?_,?_⟩ <;> dsimp only <;> omega
  ·obtain ⟨x,hx,rfl⟩:=List.mem_map.1 he
   obtain ⟨h1,h2⟩:=Tr.needs_lt x hx
   have h3:=Tr.needs_ne hV x hx
   refine ⟨?_,?_,h3,?_,?_⟩ <;> dsimp only <;> omega
 have hl:(closureNet (tott T.en T.n) w T.needs).length≤2000:=by
  have h1:=edgesW_len (tott T.en T.n) w (tott T.en T.n)
  have h2:=T.needL_len T.evs
  have h3:T.evs.length=tot T.en T.n:=T.evs_tot
  rw [←tott_tot] at h3
  unfold closureNet Tr.needs
  rw [List.length_append,List.length_map];omega
 exact ⟨by omega,by omega,hl,fun i hi=>(key _ (edgAt_mem hi)).1,fun i hi=>(key _ (edgAt_mem hi)).2.1,fun i hi=>(key _ (edgAt_mem hi)).2.2.1,fun i hi=>(key _ (edgAt_mem hi)).2.2.2.1,fun i hi=>(key _ (edgAt_mem hi)).2.2.2.2⟩
end Go.Proofs.YtnknkkmdbnaglaaGreat

namespace Go.Proofs.YtnknkkmdbnaglaaGreat
open Go.RowKit Go.Shelf
attribute [local go_sem] Oper.semAt_some
abbrev trmV (x:Trm):Value:=.agg #[.int .i64 x.1,.string x.2.1,.int .i64 x.2.2]
set_option maxHeartbeats 400000 in
theorem sabs_any (n : Int) (w : World) (h1 : -4611686018427387904 ≤ n) (h2 : n ≤ 4611686018427387904) :
    Calls Tryz.prog 156 #[.int .i64 n] w fun e w'=>e=.returned (.int .i64 (iabs n))∧w=w':=by
 have hw:IntKind.i64.wrap (-n)=-n:=IntWalk.i64_in _ (by omega)
 have hi:iabs n=if n<0 then - n else n:=rfl
 go_enter Tryz.func156,Tryz.ntmps156
 by_cases h:n<0
 ·rw [if_pos h] at hi
  have d:decide (n < -n)=true:=decide_eq_true (by omega)
  go_wp2
  go_ret
  exact ⟨ret_int (by first | rfl | rw [hi]),rfl⟩
 ·rw [if_neg h] at hi
  have d:decide (n < -n)=false:=decide_eq_false (by omega)
  go_wp2
  go_ret
  exact ⟨ret_int (by first | rfl | rw [hi]),rfl⟩
set_option maxHeartbeats 400000 in
theorem sidx1_any (w : World) (s nm : ByteArray) (v1 : Value) (bx : Nat) (hc : w.cell? ⟨bx, 1, none⟩ = some (.string nm)) :
    Calls Tryz.prog 207 #[.agg #[.string s,v1],.pointer (some ⟨bx,0,none⟩)] w fun e w'=>e=.returned (.bool (strEq s nm))∧Ext w w':=by
 have hlt:=cell_lt hc
 dsimp only at hlt
 go_enter Tryz.func207,Tryz.ntmps207
 go_wp2
 go_ret
 exact ⟨ret_bool (by simp [strEq]),Ext.alloc _ _⟩
set_option maxHeartbeats 1000000 in
theorem sindex_any (w : World) (T : TM) (hT : T.At w) (x : Trm) :
    Calls Tryz.prog 153 #[T.val,trmV x] w fun e w'=>e=.returned (.int .i64 (T.toTr.tix x))∧Ext w w':=by
 obtain ⟨p,nm,c⟩:=x
 have HT:=Lib.hid hT
 obtain ⟨ta,hta⟩:∃ a,a=T.a:=⟨_,rfl⟩
 have HTA:=Lib.hid hta
 simp only [TM.val,trmV]
 rw [←hta]
 obtain ⟨n,hn⟩:∃ n,n=T.n:=⟨_,rfl⟩
 have HN:=Lib.hid hn
 rw [←hn]
 clear hT hta hn
 go_enter Tryz.func153,Tryz.ntmps153
 by_cases h0:p<0
 ·have hr:T.toTr.tix (p,nm,c)=-1:=by unfold Tr.tix;rw [if_neg (by dsimp only;omega)]
  rw [hr]
  have d0:decide (p<0)=true:=decide_eq_true h0
  go_wp2
  go_ret
  exact ⟨rfl,(Ext.alloc _ _).alloc' _⟩
 ·have d0:decide (p<0)=false:=decide_eq_false h0
  by_cases h1:(n:Int)≤p
  ·have hr:T.toTr.tix (p,nm,c)=-1:=by unfold Tr.tix;rw [if_neg (by dsimp only;have:=HN.out;omega)]
   rw [hr]
   have d1:decide ((n:Int)≤p)=true:=decide_eq_true h1
   go_wp2
   go_ret
   exact ⟨rfl,(Ext.alloc _ _).alloc' _⟩
  ·have d1:decide ((n:Int)≤p)=false:=decide_eq_false h1
   obtain ⟨k,rfl⟩:∃ k:Nat,p=k:=⟨p.toNat,by omega⟩
   have hk:k<n:=by omega
   have hk':(k:Int)<(n:Int):=by omega
   have hr:T.toTr.tix ((k:Int),nm,c)=T.toTr.varI k nm:=by unfold Tr.tix;rw [if_pos (by dsimp only;have:=HN.out;omega)];rfl
   rw [hr]
   have hvn:=HT.out.V.hv k (by have:=HN.out;omega)
   obtain rfl:ta=some ⟨T.b,T.off,none⟩:=by rw [HTA.out];exact HT.out.P.pa (by have:=HN.out;omega)
   have pb:=HT.out.P.pb (by have:=HN.out;omega)
   have p1:∀ w',Ext w w'→w'.cell? ⟨T.b,T.off+k*3+1,none⟩=some (.slice (T.va k) (T.vn k) (T.vc k)):=fun w' h=>HT.out.P.p1 w' h k (by have:=HN.out;omega)
   clear hr h0 h1
   go_upto_region 1 with fail
   refine boxed2 (w:=w) (G:=fun x=>Code.wp _ _ _ _ x) ?_
   intro w1 hx1 hs1 ⟨l0,c0,_,_⟩ ⟨l1,c1,_,_⟩
   have hx11:Ext w1 w1:=Ext.refl _
   clear hs1
   have hI:=idx_Var w1 (T.va k) (T.vb k) (T.vo k) (T.vn k) (T.vc k) (fun v=>.string (T.vname k v)) (fun v=>.int .i64 (T.vinit k v)) 207 #[.pointer (some ⟨w.heap.size+1,0,none⟩)] (fun v=>strEq (T.vname k v) nm)
    hvn (fun h=>HT.out.V.va k (by have:=HN.out;omega) h) (fun w' h v hv=>HT.out.V.v0 w' (hx1.trans h) k v (by have:=HN.out;omega) hv) (fun w' h v hv=>HT.out.V.v1 w' (hx1.trans h) k v (by have:=HN.out;omega) hv) (enters_of Tryz.func207 (by kernel_rfl) rfl)
    (fun v hv w' h=>sidx1_any w' _ nm _ _ (by exact c1 w' h 1))
   go_wp2_with fail
   go_at_call 206
   refine hI.mono ?_
   rintro e w2 ⟨rfl,hx2⟩
   have hx12:=hx1.trans hx2
   clear hI
   go_wp2_with fail
   go_ret
   exact ⟨rfl,hx12⟩
set_option maxHeartbeats 400000 in
theorem sof1_any (w : World) (T : TM) (hT : T.At w) (bx : Nat) (hc : ∀ w', Ext w w' → w'.cell? ⟨bx, 0, none⟩ = some T.sl) (x : Trm) :
    Calls Tryz.prog 152 #[trmV x,.pointer (some ⟨bx,0,none⟩)] w fun e w'=>e=.returned (.bool (decide (T.toTr.tix x<0)))∧Ext w w':=by
 have hlt:=cell_lt (hc w (Ext.refl _))
 dsimp only at hlt
 have HI:=Lib.hid (fun W (h:Ext w W)=>sindex_any W T (hT.ext h) x)
 obtain ⟨p,nm,c⟩:=x
 simp only [trmV,TM.val] at HI ⊢
 have hlb:∀ w',Ext w w'→bx<w'.heap.size:=fun w' h=>Nat.lt_of_lt_of_le hlt h.le
 clear hT
 go_enter Tryz.func152,Tryz.ntmps152
 go_upto_region 1 with fail
 refine boxed1 (w:=w) (G:=fun x=>Code.wp _ _ _ _ x) ?_
 intro w1 hx1 hs1 ⟨l0,c0,_,_⟩
 have hx11:Ext w1 w1:=Ext.refl _
 clear hs1
 go_wp2_with fail
 go_at_call 153
 refine (HI.out w1 hx1).mono ?_
 rintro e w2 ⟨rfl,hx2⟩
 have hx12:=hx1.trans hx2
 go_wp2_with fail
 go_ret
 exact ⟨rfl,hx12⟩
set_option maxHeartbeats 400000 in
theorem sof2_any (w : World) (x : Trm) :
    Calls Tryz.prog 154 #[trmV x] w fun e w'=>e=.returned (.bool (decide (x.2.2 < -1048576∨1048576<x.2.2)))∧Ext w w':=by
 obtain ⟨p,nm,c⟩:=x
 simp only [trmV]
 go_enter Tryz.func154,Tryz.ntmps154
 by_cases h0:c < -1048576
 ·have d0:decide (c < -1048576)=true:=decide_eq_true h0
  go_wp2
  go_ret
  exact ⟨ret_bool (decide_eq_true (.inl h0)).symm,Ext.alloc _ _⟩
 ·have d0:decide (c < -1048576)=false:=decide_eq_false h0
  go_wp2
  go_ret
  exact ⟨ret_bool (decide_eq_decide.2 (by omega)),Ext.alloc _ _⟩
set_option maxHeartbeats 1000000 in
theorem schange_any (w : World) (T : TM) (hT : T.At w) (hV : T.toTr.Valid) (p : Nat) (hp : p < T.n) (nm : ByteArray) (c : Int) (v : Nat) (hv : v < T.vn p) (hvi : T.toTr.varI p nm = v) (k : Nat) (hk : k < T.en p) :
    Calls Tryz.prog 157 #[T.val,.agg #[.int .i64 p,.string nm,.int .i64 c],.int .i64 (k+1)] w fun e w'=>e=.returned (.int .i64 (T.st p v (k+1) - T.st p v k))∧Ext w w':=by
 have hen:=hV.en64 hp
 have h1:=fun W (h:Ext w W)=>value_yes W T (hT.ext h) hV p hp nm v hv hvi (k+1) (by omega)
 have h2:=fun W (h:Ext w W)=>value_yes W T (hT.ext h) hV p hp nm v hv hvi k (by omega)
 have e1:(((k+1:Nat):Int))=(k:Int)+1:=by omega
 simp only [e1,TM.val] at h1 h2 ⊢
 have b1:=hV.val_range hp hv (T.toTr.st_of p v (k+1) (by omega))
 have b2:=hV.val_range hp hv (T.toTr.st_of p v k (by omega))
 obtain ⟨a,ha⟩:∃ a,a=T.st p v (k+1):=⟨_,rfl⟩
 obtain ⟨b,hb⟩:∃ b,b=T.st p v k:=⟨_,rfl⟩
 rw [←ha] at h1 b1 ⊢
 rw [←hb] at h2 b2 ⊢
 have H1:=Lib.hid h1
 have H2:=Lib.hid h2
 have hw1:IntKind.i64.wrap ((k:Int)+1 - 1)=(k:Int):=by rw [IntWalk.i64_in _ (by omega)];omega
 have hw2:IntKind.i64.wrap (a - b)=a - b:=IntWalk.i64_in _ (by omega)
 clear hT hV h1 h2 ha hb hv hvi
 go_enter Tryz.func157,Tryz.ntmps157
 go_upto_region 1 with fail
 refine boxed2 (w:=w) (G:=fun x=>Code.wp _ _ _ _ x) ?_
 intro w1 hx1 hs1 ⟨l0,c0,_,_⟩ ⟨l1,c1,_,_⟩
 have hx11:Ext w1 w1:=Ext.refl _
 clear hs1
 go_wp2_with fail
 go_at_call 209
 refine (H1.out w1 hx1).mono ?_
 rintro e w2 ⟨rfl,hx2⟩
 have hx12:=hx1.trans hx2
 go_wp2_with fail
 go_at_call 209
 refine (H2.out w2 hx12).mono ?_
 rintro e w3 ⟨rfl,hx3⟩
 have hx13:=hx12.trans hx3
 have hx133:=hx2.trans hx3
 go_wp2_with fail
 go_ret
 exact ⟨rfl,hx13⟩
end Go.Proofs.YtnknkkmdbnaglaaGreat

namespace Go.Proofs.YtnknkkmdbnaglaaGreat
open Go.RowKit Go.Shelf
structure SumM where
 T:TM
 tv:Value
 wa:Option Addr
 wg:Nat
 wo:Nat
 wc:Nat
 w:Nat→Int
 b:Int
def SumM.m (S:SumM):Nat:=tott S.T.en S.T.n
def SumM.val (S:SumM):Value:=.agg #[S.T.sl,S.tv,.slice S.wa S.m S.wc,.int .i64 S.b]
structure SumM.At (S:SumM) (W:World):Prop where
 T:S.T.At W
 V:S.T.toTr.Valid
 ok:WOk S.w S.b S.m
 pa:0<S.m→S.wa=some ⟨S.wg,S.wo,none⟩
 pb:0<S.m→S.wg<W.heap.size
 c:∀ k,k<S.m→W.cell? ⟨S.wg,S.wo+k,none⟩=some (.int .i64 (S.w k))
theorem SumM.At.ext {S:SumM} {W W':World} (h:S.At W) (x:Ext W W'):S.At W':=
 ⟨h.T.ext x,h.V,h.ok,h.pa,fun h0=>Nat.lt_of_lt_of_le (h.pb h0) x.le,fun k hk=>x.cell (h.c k hk)⟩
structure CutAt (W:World) (n:Nat) (a:Option Addr) (g o:Nat) (c:Nat→Nat):Prop where
 pa:0<n→a=some ⟨g,o,none⟩
 pb:0<n→g<W.heap.size
 c:∀ k,k<n→W.cell? ⟨g,o+k,none⟩=some (.int .i64 (c k:Int))
theorem CutAt.ext {W W':World} {n:Nat} {a:Option Addr} {g o:Nat} {c:Nat→Nat} (h:CutAt W n a g o c) (x:Ext W W'):CutAt W' n a g o c:=
 ⟨h.pa,fun h0=>Nat.lt_of_lt_of_le (h.pb h0) x.le,fun k hk=>x.cell (h.c k hk)⟩
theorem iabs_le {x y:Int}:iabs x≤y↔-y≤x∧x≤y:=by unfold iabs;split <;> omega
theorem isum_mono {g:Nat→Int} (h:∀ i,0≤g i) {m:Nat}:∀ {n:Nat},m≤n→isum m g≤isum n g
 | 0, hm => by obtain rfl : m = 0 := by omega
               exact Int.le_refl _
 | n+1,hm => by
  by_cases e:m=n+1
  ·subst e;exact Int.le_refl _
  ·have h1:=isum_mono h (m:=m) (n:=n) (by omega)
   have h2:=h n
   show isum m g≤isum n g+g n
   omega
theorem wsum_abs (w:Nat→Int) (R:Nat→Bool):∀ v,iabs (wsum w R v)≤isum v fun i=>iabs (w i)
 | 0 => by show iabs 0≤0;decide
 | v+1 => by
  have h1:=wsum_abs w R v
  have h2:=iabs_nonneg (w v)
  rw [iabs_le] at h1 ⊢
  have h3:=(iabs_le (x:=w v)).1 (Int.le_refl _)
  show - (isum v (fun i=>iabs (w i))+iabs (w v))≤wsum w R v+(if R v=true then w v else 0)∧wsum w R v+(if R v=true then w v else 0)≤isum v (fun i=>iabs (w i))+iabs (w v)
  split <;> omega
theorem WOk.part {w:Nat→Int} {b:Int} {m:Nat} (h:WOk w b m) (R:Nat→Bool) {v:Nat} (hv:v≤m):-562949953421312≤b+wsum w R v∧b+wsum w R v≤562949953421312:=by
 have h1:=h.mass
 have h2:=wsum_abs w R v
 have h3:=isum_mono (g:=fun i=>iabs (w i)) (fun i=>iabs_nonneg _) hv
 have h4:=(iabs_le (x:=b)).1 (Int.le_refl _)
 rw [iabs_le] at h2
 omega
theorem wsum_succ (w:Nat→Int) (R:Nat→Bool) (v:Nat):wsum w R (v+1)=wsum w R v+if R v=true then w v else 0:=rfl
set_option maxHeartbeats 4000000 in
theorem sat_any (W : World) (S : SumM) (hS : S.At W) (a : Option Addr) (g o cap : Nat) (c : Nat → Nat) (hC : CutAt W S.T.n a g o c) (hc : ∀ p, p < S.T.n → c p ≤ S.T.en p) :
    Calls Tryz.prog 87 #[S.val,.slice a S.T.n cap] W fun e w'=>e=.returned (.int .i64 (S.b+S.T.toTr.atC S.w c))∧Ext W w':=by
 have hP:=hS.T.P
 have hE:=hS.T.E
 have HV:=Lib.hid hS.V
 have HC:=Lib.hid hC
 have HCL:=Lib.hid hc
 have HCO:=Lib.hid (fun k (hk:k<S.m) w' (x:Ext W w')=>x.cell (hS.c k hk))
 have HPB:=Lib.hid (fun (h:0<S.m) w' (x:Ext W w')=>Nat.lt_of_lt_of_le (hS.pb h) x.le)
 have HPA:=Lib.hid hS.pa
 have HOK:=Lib.hid (fun v (hv:v≤S.m)=>hS.ok.part (S.T.toTr.inCut c) hv)
 have HF:=Lib.hid (show wsum S.w (S.T.toTr.inCut c) S.m=S.T.toTr.atC S.w c from Tr.atC_wsum hc fun x hx=>Tr.inCut_iff hx)
 rw [←HF.out]
 obtain ⟨R,hR⟩:∃ R,R=S.T.toTr.inCut c:=⟨_,rfl⟩
 rw [←hR] at HOK ⊢
 have HR:=Lib.hid hR
 obtain ⟨m,hm⟩:∃ m,m=S.m:=⟨_,rfl⟩
 have HM:=Lib.hid hm
 have hm5:m≤510:=by rw [hm];exact hS.ok.few
 obtain ⟨T,tv,wa,wg,wo,wc,w,b⟩:=S
 simp only [SumM.val] at *
 rw [←hm] at HOK HPA HPB HCO ⊢
 have hb0:=HOK.out 0 (by omega)
 have HP:=Lib.hid hP
 have HE:=Lib.hid hE
 have HN8:=Lib.hid HV.out.n8
 clear hS hP hE hC hc hR HF hm
 have hn8:=HN8.out
 obtain ⟨ta,hta⟩:∃ z,z=T.a:=⟨_,rfl⟩
 have HTA:=Lib.hid hta
 simp only [TM.sl]
 rw [←hta]
 clear hta
 go_enter Tryz.func87,Tryz.ntmps87
 go_upto_region 1 with fail
 refine boxed1 (w:=W) (G:=fun x=>Code.wp _ _ _ _ x) ?_
 intro w1 hx1 hs1 ⟨l0,c0,_,_⟩
 have hx11:Ext w1 w1:=Ext.refl _
 clear hs1
 go_wp2_with fail
 go_loopg [5,6,16] T.n (fun gg v5 v6 v16 wr=>∃ k:Nat,k≤T.n∧gg=T.n - k∧v16=.int .i64 k∧v6=.int .i64 (tott T.en k:Nat)∧v5=.int .i64 (b+wsum w R (tott T.en k))∧Ext w1 wr)
 case atStart=>exact ⟨0,by omega,rfl,rfl,rfl,congrArg (Value.int .i64) (by show b=b+(0:Int);omega),hx11⟩
 case round=>
  obtain ⟨k,hk,rfl,rfl,rfl,rfl,hxr⟩:=hrel
  have htk:tott T.en k≤m:=by rw [HM.out];exact tott_mono T.en hk
  have hok:=HOK.out _ htk
  by_cases hlt:k<T.n
  ·obtain rfl:ta=some ⟨T.b,T.off,none⟩:=by rw [HTA.out];exact HP.out.pa (by omega)
   have hen:=HV.out.en64 hlt
   have pb:=HP.out.pb (by omega)
   have p0:∀ w',Ext W w'→w'.cell? ⟨T.b,T.off+k*3,none⟩=some (.string (T.name k)):=fun w' h=>HP.out.p0 w' h k hlt
   have p1:∀ w',Ext W w'→w'.cell? ⟨T.b,T.off+k*3+1,none⟩=some (.slice (T.va k) (T.vn k) (T.vc k)):=fun w' h=>HP.out.p1 w' h k hlt
   have p2:∀ w',Ext W w'→w'.cell? ⟨T.b,T.off+k*3+2,none⟩=some (.slice (T.ea k) (T.en k) (T.ec k)):=fun w' h=>HP.out.p2 w' h k hlt
   obtain rfl:=HC.out.pa (by omega)
   have hcb:∀ w',Ext W w'→g<w'.heap.size:=fun w' x=>Nat.lt_of_lt_of_le (HC.out.pb (by omega)) x.le
   have hcc:∀ w',Ext W w'→w'.cell? ⟨g,o+k,none⟩=some (.int .i64 (c k:Int)):=fun w' x=>x.cell (HC.out.c k hlt)
   have hlt':(k:Int)<(T.n:Int):=by omega
   have hx0r:=hx1.trans hxr
   have hck:=HCL.out k hlt
   go_upto_region 5 with fail
   refine boxed1 (w:=wr) (G:=fun x=>Code.wp _ _ _ _ x) ?_
   intro w2 hx2 hs2 ⟨l2,c2,_,_⟩
   have hx22:Ext w2 w2:=Ext.refl _
   have hx12:=hxr.trans hx2
   have hx02:=hx1.trans hx12
   clear hs2
   go_wp2_with fail
   go_loopg [5,6,24] (T.en k) (fun gg v5 v6 v24 wr=>∃ i:Nat,i≤T.en k∧gg=T.en k - i∧v24=.int .i64 i∧v6=.int .i64 (tott T.en k+i:Nat)∧v5=.int .i64 (b+wsum w R (tott T.en k+i))∧Ext w2 wr)
   case atStart=>exact ⟨0,by omega,rfl,rfl,rfl,rfl,hx22⟩
   case round=>
    obtain ⟨i,hi,rfl,rfl,rfl,rfl,hxi⟩:=hrel
    have hx1i:=hx12.trans hxi
    have hx0i:=hx02.trans hxi
    obtain ⟨v,hv⟩:∃ v,v=tott T.en k+i:=⟨_,rfl⟩
    have hvm:v≤m:=by
     rw [hv,HM.out]
     have h1:=tott_mono T.en (p:=k+1) (q:=T.n) hlt
     have h2:tott T.en (k+1)=tott T.en k+T.en k:=rfl
     show _≤tott T.en T.n;omega
    have hokv:=HOK.out v hvm
    by_cases hli:i<T.en k
    ·have hli':(i:Int)<(T.en k:Int):=by omega
     have hvl:v<m:=by
      rw [hv,HM.out]
      exact tott_lt T.en hlt hli
     have hokv1:=HOK.out (v+1) hvl
     rw [wsum_succ] at hokv1
     have hRi:=Tr.inCut_iff (T:=T.toTr) (c:=c) (x:=(k,i)) ⟨hlt,hli⟩
     have hnum:T.toTr.num (k,i)=v:=hv.symm
     rw [hnum,←HR.out] at hRi
     dsimp only at hRi
     by_cases hin:i<c k
     ·have hin':(i:Int)<(c k:Int):=by omega
      have d1:decide ((i:Int)<(c k:Int))=true:=decide_eq_true hin'
      obtain rfl:=HPA.out (by omega)
      have hwc:=HCO.out v hvl
      have hwb:=HPB.out (by omega)
      have hvl':(v:Int)<(m:Int):=by omega
      rw [if_pos (hRi.2 hin)] at hokv1
      have hw1:IntKind.i64.wrap (b+wsum w R v+w v)=b+wsum w R v+w v:=IntWalk.i64_in _ (by omega)
      have HW:=Lib.hid (show b+wsum w R (v+1)=b+wsum w R v+w v from by rw [wsum_succ,if_pos (hRi.2 hin)];omega)
      have HVE:=Lib.hid hv
      rw [←hv]
      clear hRi hnum hv
      generalize wsum w R v=u at *
      go_wp2_with fail
      go_roundg (T.en k - (i+1))
      case rel=>exact ⟨i+1,by omega,rfl,by go_num,congrArg (Value.int .i64) (by rw [HVE.out];omega),congrArg (Value.int .i64) (by rw [←Nat.add_assoc,←HVE.out];exact HW.out.symm),hxi⟩
      case measure=>omega
     ·have d1:decide ((i:Int)<(c k:Int))=false:=decide_eq_false (by omega)
      have HW:=Lib.hid (show b+wsum w R (v+1)=b+wsum w R v from by rw [wsum_succ,if_neg (fun h=>hin (hRi.1 h))];omega)
      have HVE:=Lib.hid hv
      rw [←hv]
      clear hRi hnum hv
      go_wp2_with fail
      go_roundg (T.en k - (i+1))
      case rel=>exact ⟨i+1,by omega,rfl,by go_num,congrArg (Value.int .i64) (by rw [HVE.out];omega),congrArg (Value.int .i64) (by rw [←Nat.add_assoc,←HVE.out];exact HW.out.symm),hxi⟩
      case measure=>omega
    ·obtain rfl:i=T.en k:=by omega
     go_wp2_with fail
     go_roundg (T.n - (k+1))
     case rel=>exact ⟨k+1,by omega,rfl,by go_num,rfl,rfl,hx12.trans hxi⟩
     case measure=>omega
  ·obtain rfl:k=T.n:=by omega
   have HE2:=Lib.hid (show tott T.en T.n=m from HM.out.symm)
   rw [HE2.out]
   go_wp2_with fail
   go_ret
   exact ⟨rfl,hx1.trans hxr⟩
end Go.Proofs.YtnknkkmdbnaglaaGreat
