/- Contracts and laws in plain Lean for RApp: group P68. -/
import Derived.Test.YtmhapcnlpoilpaaGreatDoorP65
import Derived.Test.YtmhapcnlpoilpaaGreatDoorP66
import Derived.Test.YtmhapcnlpoilpaaGreatDoorP67
namespace Go.Proofs.YtmhapcnlpoilpaaGreatDoor
open Go.RowKit Go.Shelf
theorem cat_getD (L:List (List UInt8)):(List.range L.length).map (fun j=>L.getD j [])=L:=by
 refine List.ext_getElem (by simp) fun j h1 h2=>?_
 simp [List.getD_eq_getElem?_getD,h2]
theorem write1_any (W : World) (b : Nat) (l : List UInt8) (hB : Bld b l W) (L : List (List UInt8)) (n : Nat) (hn : L.length = n) (hn1 : n ≤ 1000) (hx : ∀ x, x ∈ L → x.length ≤ 100000000) (hl : l.length ≤ 10000000000000) :
    Calls Tryz.prog 64 #[.pointer (some ⟨b,0,none⟩),.slice (some ⟨W.heap.size,0,none⟩) n n] (W.alloc (.cells (L.map fun s=>Value.string (bts s)).toArray 9)) fun e w'=>e=.returned (.tuple #[])∧Bld b (l++cat L) w'∧Below b W w':=by
 subst hn
 refine (write_any (W.alloc (.cells (L.map fun s=>Value.string (bts s)).toArray 9)) b l (hB.ext (Ext.alloc' (Ext.refl W) _)) W.heap.size (L.map fun s=>Value.string (bts s)).toArray 9 (0,0) (by show (W.heap.push _)[W.heap.size]?=_;simp) (by decide) (Nat.ne_of_gt hB.lt) L.length L.length (fun j=>L.getD j []) (fun j hj=>?_) hn1 (fun j hj=>?_) hl).mono ?_
 ·simp [List.getD_eq_getElem?_getD,hj]
 ·rw [List.getD_eq_getElem?_getD,List.getElem?_eq_getElem hj];exact hx _ (List.getElem_mem hj)
 ·rintro e w' ⟨h1,h2,h3,_⟩
  rw [cat_getD] at h2
  exact ⟨h1,h2,Below.trans ((Below.refl b W).alloc (Nat.le_of_lt hB.lt) _) h3⟩
attribute [local go_sem] Oper.semAt_some
def Tr.lab (T:Tr) (p i:Nat):List UInt8:=labL (T.kind p i) (T.msg p i)
theorem labL_len (k m:Int) (h:0≤m∧m≤199):(labL k m).length≤201:=by
 have h1:=itoa_len m h.1
 unfold labL
 by_cases h2:k=2
 ·rw [if_pos h2];simp;omega
 ·rw [if_neg h2]
  by_cases h3:k=3
  ·rw [if_pos h3];simp;omega
  ·rw [if_neg h3];simp
def Tr.nw (T:Tr):Nat→Nat | 0=>0 | k+1=>max (T.nw k) (T.name k).size
def Tr.we (T:Tr) (p s:Nat):Nat→Nat | 0=>s | i+1=>max (T.we p s i) (T.lab p i).length
def Tr.wd (T:Tr):Nat→Nat | 0=>1 | k+1=>T.we k (T.wd k) (T.en k)
theorem Tr.we_le {T:Tr} {p s c:Nat} (hs:s≤c):∀ {i:Nat},(∀ j,j<i→(T.lab p j).length≤c)→T.we p s i≤c
 | 0,_ => hs
 | i+1,h => by have h1:=Tr.we_le (T:=T) (p:=p) hs (i:=i) fun j hj => h j (by omega);have:=h i (by omega);unfold Tr.we;omega
theorem Tr.wd_le {T:Tr} {c:Nat} (hc:1≤c):∀ {k:Nat},(∀ p i,p<k→i<T.en p→(T.lab p i).length≤c)→T.wd k≤c
 | 0,_ => hc
 | k+1,h => Tr.we_le (Tr.wd_le hc fun p i hp hi => h p i (by omega) hi) fun j hj => h k j (by omega) hj
theorem Tr.nw_le {T:Tr} {c:Nat}:∀ {k:Nat},(∀ p,p<k→(T.name p).size≤c)→T.nw k≤c
 | 0,_ => Nat.zero_le _
 | k+1,h => by have h1:=Tr.nw_le (T:=T) (k:=k) fun p hp => h p (by omega);have:=h k (by omega);unfold Tr.nw;omega
def Tr.cel (T:Tr) (col:Nat→Nat→Int) (p:Nat):Nat→Nat→List UInt8
 | 0,_ => []
 | i+1,k => if col p i=k then T.lab p i else T.cel col p i k
def Tr.line (T:Tr) (col:Nat→Nat→Int) (m W p:Nat):List UInt8:=Lib.join ((List.range m).map fun k=>padL (T.cel col p (T.en p) k) 45 W) [45]
def Tr.lineC (T:Tr) (col:Nat→Nat→Int) (m W:Nat) (c:Option (Nat→Int)) (p:Nat):List UInt8:=
 match c with
 | none => T.line col m W p
 | some v => if 0 < v p then
     let e:=(col p (v p - 1).toNat*(W+1)+W).toNat
     Lib.replaceAll ((T.line col m W p).take e) [45] [61]++(T.line col m W p).drop e
  else T.line col m W p
theorem bytes_len (b:ByteArray):b.data.toList.length=b.size:=Array.length_toList
theorem padL_len (s:List UInt8) (c:UInt8) (n:Nat):(padL s c n).length=max s.length n:=by
 unfold padL;rw [List.length_append,List.length_replicate];omega
theorem Tr.cel_len {T:Tr} {col:Nat→Nat→Int} {p k c:Nat}:∀ {n:Nat},(∀ j,j<n→(T.lab p j).length≤c)→(T.cel col p n k).length≤c
 | 0,_ => Nat.zero_le _
 | n+1,h => by
  unfold Tr.cel
  split
  ·exact h n (by omega)
  ·exact Tr.cel_len fun j hj=>h j (by omega)
theorem Tr.line_len {T:Tr} {col:Nat→Nat→Int} {m W p:Nat} (hm:m≤512) (hW:W≤201) (hl:∀ j,j<T.en p→(T.lab p j).length≤201):(T.line col m W p).length≤200000:=by
 have h1:=join_len ((List.range m).map fun k=>padL (T.cel col p (T.en p) k) 45 W) 45 201 (fun x hx=>by
  simp only [List.mem_map,List.mem_range] at hx
  obtain ⟨k,_,rfl⟩:=hx
  have:=Tr.cel_len (col:=col) (k:=k) hl
  rw [padL_len];omega)
 rw [List.length_map,List.length_range] at h1
 have h2:m*(201+1)≤512*(201+1):=Nat.mul_le_mul_right _ hm
 unfold Tr.line;omega
def Tr.dra (T:Tr) (col:Nat→Nat→Int) (m N W:Nat) (c:Option (Nat→Int)):Nat→List UInt8
 | 0 => []
 | p+1 => T.dra col m N W c p++(padL (T.name p).data.toList 32 N++[32,124]++T.lineC col m W c p++[124,10])
theorem Tr.dra_len {T:Tr} {col:Nat→Nat→Int} {m N W:Nat} {c:Option (Nat→Int)} (hN:N≤1000):∀ {k:Nat},(∀ p,p<k→(T.name p).size≤1000∧(T.lineC col m W c p).length≤200000)→(T.dra col m N W c k).length≤k*300000
 | 0,_ => by simp [Tr.dra]
 | k+1,h => by
  have h1:=Tr.dra_len (T:=T) (col:=col) (m:=m) (W:=W) (c:=c) hN (k:=k) fun p hp=>h p (by omega)
  obtain ⟨h2,h3⟩:=h k (by omega)
  have h4:=bytes_len (T.name k)
  unfold Tr.dra
  simp only [List.length_append,padL_len,List.length_cons,List.length_nil]
  rw [Nat.succ_mul];omega
set_option maxRecDepth 100000 in
set_option maxHeartbeats 4000000 in
theorem draw_nil (w : World) (hTb : Tb w) (T : TM) (hT : T.At w) (hV : T.toTr.Valid) (hN : ∀ p, p < T.n → (T.name p).size ≤ 1000) :
    Calls Tryz.prog 38 #[T.val,.slice none 0 0] w fun e w'=>Ext w w'∧∃ rows m,T.toTr.Stamps rows∧T.toTr.Most rows m∧e=.returned (.string (bts (T.toTr.dra (fun p i=>(rows p).getD i 0 - 1) m.toNat (T.toTr.nw T.n) (T.toTr.wd T.n) none T.n))):=by
 have hn1:=hV.n1
 have hn8:=hV.n8
 have pa:=hT.P.pa (by omega)
 have pb:=hT.P.pb (by omega)
 have HE:=Lib.hid (show ∀ q,q<T.n→T.en q≤64 from fun q hq=>by have:=(hV.pr q hq).2.2.2.2;omega)
 have HM:=Lib.hid (show ∀ p i,p<T.n→i<T.en p→0≤T.msg p i∧T.msg p i≤199 from fun p i hp hi=>by
  have hf:FormedP T.toTr p (T.kind p i) (T.peer p i) (T.msg p i):=hV.formed ⟨(p,i),hp,hi⟩
  rcases hf with h | h <;> omega)
 have HLB:=Lib.hid (show ∀ p i,p<T.n→i<T.en p→(T.toTr.lab p i).length≤201 from fun p i hp hi=>labL_len _ _ (HM.out p i hp hi))
 obtain ⟨s0,hs0,ht0,ht1,ht2⟩:=info_parts infoStr
 have HTB:=Lib.hid hTb
 have HNM:=Lib.hid hN
 have HT:=Lib.hid hT
 have HV:=Lib.hid hV
 clear hT hV hTb hN
 simp only [TM.val,pa]
 go_enter Tryz.func38,Tryz.ntmps38
 go_upto_region 1 with fail
 refine boxed1 (w:=w) (G:=fun x=>Code.wp _ _ _ _ x) ?_
 intro w1 hx1 hs1 ⟨l0,c0,_,_⟩
 have hx11:Ext w1 w1:=Ext.refl _
 have hC:=columns_any w1 T (HT.out.ext hx1) HV.out
 simp only [TM.val,pa] at hC
 have HC:=Lib.hid hC
 clear hs1 hC
 go_upto_region 2 with (go_at_call 36;refine HC.out.mono ?_;rintro e w2 ⟨hx2,base,rows,vs,m,hbase,rfl,hst,hsp,hmo⟩)
 have HST:=Lib.hid hst
 have HSP:=Lib.hid hsp
 have HMO:=Lib.hid hmo
 have hxw2:=hx1.trans hx2
 have h22:Ext w2 w2:=Ext.refl _
 obtain ⟨mN,rfl⟩:∃ mN:Nat,m=mN:=⟨m.toNat,by
  rcases hmo.at' with h | ⟨k,i,hk,hi,h⟩
  ·omega
  ·have:=hsp.sm k i hk (by rw [←hsp.len k hk];exact hi);omega⟩
 have hmN:mN≤512:=by
  rcases hmo.at' with h | ⟨k,i,hk,hi,h⟩
  ·omega
  ·have h1:=hsp.sm k i hk (by rw [←hsp.len k hk];exact hi)
   have h2:tot T.en T.n≤T.n*64:=tot_small fun k hk=>HE.out k hk
   omega
 clear hst hsp hmo
 go_wp2_with fail
 go_loopg [7,8,30] T.n (fun gg v7 v8 v30 wr=>∃ k:Nat,k≤T.n∧gg=T.n - k∧v7=.int .i64 (T.toTr.nw k:Nat)∧v8=.int .i64 (T.toTr.wd k:Nat)∧v30=.int .i64 k∧Ext w2 wr)
 case atStart=>exact ⟨0,by omega,rfl,rfl,rfl,rfl,h22⟩
 case round=>
  obtain ⟨k,hk,rfl,rfl,rfl,rfl,hxr⟩:=hrel
  have hxwr:=hxw2.trans hxr
  have hx1r:=hx2.trans hxr
  obtain ⟨nk,hnk⟩:∃ z,z=T.toTr.nw k:=⟨_,rfl⟩
  obtain ⟨wk,hwk⟩:∃ z,z=T.toTr.wd k:=⟨_,rfl⟩
  rw [←hnk,←hwk]
  have HNK:=Lib.hid hnk
  have HWK:=Lib.hid hwk
  clear hnk hwk
  by_cases hlt:k<T.n
  ·have hlt':(k:Int)<(T.n:Int):=by omega
   have hen:=HE.out k hlt
   have p0:∀ w',Ext w w'→w'.cell? ⟨T.b,T.off+k*3,none⟩=some (.string (T.name k)):=fun w' h=>HT.out.P.p0 w' h k hlt
   have p1:∀ w',Ext w w'→w'.cell? ⟨T.b,T.off+k*3+1,none⟩=some (.slice (T.va k) (T.vn k) (T.vc k)):=fun w' h=>HT.out.P.p1 w' h k hlt
   have p2:∀ w',Ext w w'→w'.cell? ⟨T.b,T.off+k*3+2,none⟩=some (.slice (T.ea k) (T.en k) (T.ec k)):=fun w' h=>HT.out.P.p2 w' h k hlt
   go_upto_region 6 with fail
   refine boxed1 (w:=wr) (G:=fun x=>Code.wp _ _ _ _ x) ?_
   intro w5 hx5 hs5 ⟨l5,c5,_,_⟩
   have h55:Ext w5 w5:=Ext.refl _
   have hx25:=hxr.trans hx5
   have hxw5:=hxwr.trans hx5
   have hx15:=hx1r.trans hx5
   clear hs5 p0 p1 p2
   go_wp2_with fail
   obtain ⟨n1,hn1'⟩:∃ z:Nat,z=max nk (T.name k).size:=⟨_,rfl⟩
   rw [show (max (nk:Int) ((T.name k).size:Int))=(n1:Int) by omega]
   have HN1:=Lib.hid (show n1=T.toTr.nw (k+1) by rw [hn1',HNK.out];rfl)
   clear hn1'
   obtain ⟨ea,hea⟩:∃ z,z=T.ea k:=⟨_,rfl⟩
   rw [←hea]
   have HEA:=Lib.hid hea
   clear hea
   go_loopg [8,42] (T.en k) (fun gg v8 v42 wi=>∃ i:Nat,i≤T.en k∧gg=T.en k - i∧v8=.int .i64 (T.toTr.we k wk i:Nat)∧v42=.int .i64 i∧Ext w5 wi)
   case atStart=>exact ⟨0,by omega,rfl,rfl,rfl,h55⟩
   case round=>
    obtain ⟨i,hi,rfl,rfl,rfl,hxi⟩:=hrel
    have hxwi:=hxw5.trans hxi
    obtain ⟨wi,hwi⟩:∃ z,z=T.toTr.we k wk i:=⟨_,rfl⟩
    rw [←hwi]
    have HWI:=Lib.hid hwi
    clear hwi
    by_cases hie:i<T.en k
    ·have hie':(i:Int)<(T.en k:Int):=by omega
     obtain rfl:ea=some ⟨T.eb k,T.eo k,none⟩:=by rw [HEA.out];exact HT.out.E.ea k hlt (by omega)
     have eb:=HT.out.E.eb k hlt (by omega)
     have e0:∀ w',Ext w w'→w'.cell? ⟨T.eb k,T.eo k+i*5,none⟩=some (.int .i64 (T.kind k i)):=fun w' x=>HT.out.E.e0 w' x k i hlt hie
     have e1:∀ w',Ext w w'→w'.cell? ⟨T.eb k,T.eo k+i*5+1,none⟩=some (.int .i64 (T.peer k i)):=fun w' x=>HT.out.E.e1 w' x k i hlt hie
     have e2:∀ w',Ext w w'→w'.cell? ⟨T.eb k,T.eo k+i*5+2,none⟩=some (.int .i64 (T.msg k i)):=fun w' x=>HT.out.E.e2 w' x k i hlt hie
     have e3:∀ w',Ext w w'→w'.cell? ⟨T.eb k,T.eo k+i*5+3,none⟩=some (.int .i64 (T.time k i)):=fun w' x=>HT.out.E.e3 w' x k i hlt hie
     have e4:∀ w',Ext w w'→w'.cell? ⟨T.eb k,T.eo k+i*5+4,none⟩=some (.slice (T.aa k i) (T.an k i) (T.ac k i)):=fun w' x=>HT.out.E.e4 w' x k i hlt hie
     go_upto_region 10 with fail
     refine boxed1 (w:=wr) (G:=fun x=>Code.wp _ _ _ _ x) ?_
     intro w6 hx6 hs6 ⟨l6,c6,_,_⟩
     have h66:Ext w6 w6:=Ext.refl _
     have hx56:=hxi.trans hx6
     have hxw6:=hxwi.trans hx6
     have hla:=label_any w6 (HTB.out.ext hxw6) (T.kind k i) (T.peer k i) (T.msg k i) (T.time k i) (.slice (T.aa k i) (T.an k i) (T.ac k i)) (HM.out k i hlt hie)
     obtain ⟨d,hd⟩:∃ d,d=labL (T.kind k i) (T.msg k i):=⟨_,rfl⟩
     rw [←hd] at hla
     have HD:=Lib.hid (show T.toTr.lab k i=d from hd.symm)
     have hds:=bts_size d
     have HLA:=Lib.hid hla
     clear hs6 e0 e1 e2 e3 e4 eb hd hla
     go_wp2_with (go_at_call 85;refine HLA.out.mono ?_;rintro e w7 ⟨rfl,hx7⟩)
     go_roundg (T.en k - (i+1))
     case rel=>exact ⟨i+1,by omega,rfl,by rw [show T.toTr.we k wk (i+1)=max (T.toTr.we k wk i) (T.toTr.lab k i).length from rfl,←HWI.out,HD.out];exact congrArg (Value.int .i64) (by omega),by go_num,hx56.trans hx7⟩
     case measure=>omega
    ·have hie':¬(i:Int)<(T.en k:Int):=by omega
     obtain rfl:i=T.en k:=by omega
     go_wp2_with fail
     go_roundg (T.n - (k+1))
     case rel=>exact ⟨k+1,by omega,rfl,by rw [HN1.out],by rw [HWI.out,HWK.out];rfl,by go_num,hx25.trans hxi⟩
     case measure=>omega
  ·have hlt':¬(k:Int)<(T.n:Int):=by omega
   obtain rfl:k=T.n:=by omega
   have HNS:=Lib.hid (show nk=T.toTr.nw T.n∧wk=T.toTr.wd T.n from ⟨HNK.out,HWK.out⟩)
   have HW2:=Lib.hid (show wk≤201 from by rw [HWK.out];exact Tr.wd_le (by omega) fun p i hp hi=>HLB.out p i hp hi)
   have HN2:=Lib.hid (show nk≤1000 from by rw [HNK.out];exact Tr.nw_le fun p hp=>HNM.out p hp)
   clear HNK HWK
   go_upto_region 14 with fail
   obtain ⟨bb,hbb⟩:∃ z,z=wr.heap.size:=⟨_,rfl⟩
   have HB0:=Lib.hid (show Bld bb [] (wr.alloc (.cells #[.pointer none,.slice none 0 0] 106)) from by rw [hbb];exact Lib.IsBuilderF.of (Lib.fresh_isBuilder 106 5 wr))
   have hx6:Ext wr (wr.alloc (.cells #[.pointer none,.slice none 0 0] 106)):=Ext.alloc' (Ext.refl _) _
   have HSR:=Lib.hid (HST.out.ext (by omega) hxr)
   rw [←hbb]
   generalize wr.alloc (.cells #[.pointer none,.slice none 0 0] 106)=w6 at hx6 HB0 ⊢
   have hx16:=hx1r.trans hx6
   have hxw6:=hxwr.trans hx6
   have hxwr0:=hxwr
   have HBB:=Lib.hid hbb
   clear hbb HST
   go_wp2_with fail
   go_loopg [56] T.n (fun gg v56 wo=>∃ p:Nat,p≤T.n∧gg=T.n - p∧v56=.int .i64 p∧Ext wr wo∧Bld bb (T.toTr.dra (fun p i=>(rows p).getD i 0 - 1) mN nk wk none p) wo)
   case atStart=>exact ⟨0,by omega,rfl,rfl,hx6,HB0.out⟩
   case round=>
    obtain ⟨p,hp,rfl,rfl,hxo,hbo⟩:=hrel
    have HBO:=Lib.hid hbo
    clear hbo
    have hx1o:=hx1r.trans hxo
    have hxwo:=hxwr.trans hxo
    by_cases hpn:p<T.n
    ·have hpn':(p:Int)<(T.n:Int):=by omega
     have hen:=HE.out p hpn
     have p0:∀ w',Ext w w'→w'.cell? ⟨T.b,T.off+p*3,none⟩=some (.string (T.name p)):=fun w' h=>HT.out.P.p0 w' h p hpn
     have p1:∀ w',Ext w w'→w'.cell? ⟨T.b,T.off+p*3+1,none⟩=some (.slice (T.va p) (T.vn p) (T.vc p)):=fun w' h=>HT.out.P.p1 w' h p hpn
     have p2:∀ w',Ext w w'→w'.cell? ⟨T.b,T.off+p*3+2,none⟩=some (.slice (T.ea p) (T.en p) (T.ec p)):=fun w' h=>HT.out.P.p2 w' h p hpn
     go_upto_region 17 with fail
     refine boxed1 (w:=wr) (G:=fun x=>Code.wp _ _ _ _ x) ?_
     intro w7 hx7 hs7 ⟨l7,c7,f7,k7⟩
     have h77:Ext w7 w7:=Ext.refl _
     have HK7:=Lib.hid (show Hold w7 wr.heap.size _ from k7)
     have hx17:=hx1o.trans hx7
     have hxw7:=hxwo.trans hx7
     have HSR7:=Lib.hid (HSR.out.ext (by omega) (hxo.trans hx7))
     have HBO7:=Lib.hid (HBO.out.ext hx7)
     clear hs7 k7 p0 p1 p2
     go_upto_region 18 with (at_make;refine wpList_make_full _ rfl _ _ 50 rfl w7.heap.size 9 s0 (.string ⟨#[]⟩) 1 Tryz.underlying50 hs0 ht0 ht1 .i64 .i64 _ _ mN rfl rfl rfl rfl (by rw [ht2];omega) (by unfold maxLen;omega) (Nat.le_refl _) ?_;intro w8 hown8 hg8)
     have hx8:Ext w7 w8:=(Below.refl _ _).grown hg8 (Nat.le_refl _) (by simp)
     have HR8:=Lib.hid (StrRow.made hown8)
     have h88:Ext w8 w8:=Ext.refl _
     clear hown8 hg8
     obtain ⟨cb,hcb⟩:∃ z,z=w7.heap.size:=⟨_,rfl⟩
     rw [←hcb] at HR8 ⊢
     have HCB:=Lib.hid hcb
     clear hcb
     go_wp2_with fail
     obtain ⟨ea,hea⟩:∃ z,z=T.ea p:=⟨_,rfl⟩
     rw [←hea]
     have HEA:=Lib.hid hea
     clear hea c7 l7 f7
     go_loopg [66] (T.en p) (fun gg v66 wc=>∃ i:Nat,i≤T.en p∧gg=T.en p - i∧v66=.int .i64 i∧Ext w7 wc∧StrRow wc cb mN (fun k=>T.toTr.cel (fun p i=>(rows p).getD i 0 - 1) p i k))
     case atStart=>exact ⟨0,by omega,rfl,rfl,hx8,HR8.out⟩
     case round=>
      obtain ⟨i,hi,rfl,rfl,hxc,hrc⟩:=hrel
      have hxwc:=hxw7.trans hxc
      have HRC:=Lib.hid hrc
      clear hrc
      by_cases hie:i<T.en p
      ·have hie':(i:Int)<(T.en p:Int):=by omega
       obtain rfl:ea=some ⟨T.eb p,T.eo p,none⟩:=by rw [HEA.out];exact HT.out.E.ea p hpn (by omega)
       have eb:=HT.out.E.eb p hpn (by omega)
       have e0:∀ w',Ext w w'→w'.cell? ⟨T.eb p,T.eo p+i*5,none⟩=some (.int .i64 (T.kind p i)):=fun w' x=>HT.out.E.e0 w' x p i hpn hie
       have e1:∀ w',Ext w w'→w'.cell? ⟨T.eb p,T.eo p+i*5+1,none⟩=some (.int .i64 (T.peer p i)):=fun w' x=>HT.out.E.e1 w' x p i hpn hie
       have e2:∀ w',Ext w w'→w'.cell? ⟨T.eb p,T.eo p+i*5+2,none⟩=some (.int .i64 (T.msg p i)):=fun w' x=>HT.out.E.e2 w' x p i hpn hie
       have e3:∀ w',Ext w w'→w'.cell? ⟨T.eb p,T.eo p+i*5+3,none⟩=some (.int .i64 (T.time p i)):=fun w' x=>HT.out.E.e3 w' x p i hpn hie
       have e4:∀ w',Ext w w'→w'.cell? ⟨T.eb p,T.eo p+i*5+4,none⟩=some (.slice (T.aa p i) (T.an p i) (T.ac p i)):=fun w' x=>HT.out.E.e4 w' x p i hpn hie
       go_upto_region 21 with fail
       refine boxed1 (w:=wr) (G:=fun x=>Code.wp _ _ _ _ x) ?_
       intro wq hxq hsq ⟨lq,cq,_,_⟩
       have hqq:Ext wq wq:=Ext.refl _
       have hx7q:=hxc.trans hxq
       have hxwq:=hxwc.trans hxq
       have hlp:(dec rows p).length=T.en p:=by rw [dec_len,HSP.out.len p hpn]
       have hip:i<(rows p).length:=by rw [HSP.out.len p hpn];exact hie
       have hfo:=(HSR7.out.own p hpn).form
       have hf1:vs p=.slice (vAddr (vs p)) (T.en p) (vCap (vs p)):=by have h1:=hfo.1;rwa [hlp] at h1
       have hf2:=hfo.2.1 (by omega)
       obtain ⟨zN,hzN⟩:∃ zN:Nat,(rows p).getD i 0 - 1=zN:=⟨((rows p).getD i 0 - 1).toNat,by have:=HSP.out.sm p i hpn hie;omega⟩
       have hzm:zN<mN:=by have h1:=HMO.out.le p i hpn hip;omega
       obtain ⟨g5,hg5⟩:∃ z,z=vBlock (vs p):=⟨_,rfl⟩
       obtain ⟨c5',hc5⟩:∃ z,z=vCap (vs p):=⟨_,rfl⟩
       have hxvq:=hx7q
       have m0:∀ w',Ext wq w'→w'.cell? ⟨base,p,none⟩=some (.slice (some ⟨g5,0,none⟩) (T.en p) c5'):=fun w' x=>by
        rw [(hx7q.trans x).cell (HSR7.out.cell p hpn),hf1,hf2,hg5,hc5,hf1]
       have lb:∀ w',Ext wq w'→base<w'.heap.size:=fun w' x=>Nat.lt_of_lt_of_le (cell_lt (HSR7.out.cell p hpn):base<w7.heap.size) (hx7q.trans x).le
       have mr:∀ w',Ext wq w'→w'.cell? ⟨g5,i,none⟩=some (.int .i64 (zN:Int)):=fun w' x=>by
        have h1:=hfo.2.2.2.2 w' (hx7q.trans x) i (by omega)
        rw [hg5,h1,←hzN]
        have h2:=dec_get rows p i hip
        rw [List.getD_eq_getElem?_getD,List.getElem?_eq_getElem (by omega)] at h2
        simp only [Option.getD_some] at h2
        rw [h2]
       have lg:∀ w',Ext wq w'→g5<w'.heap.size:=fun w' x=>by rw [hg5];exact Nat.lt_of_lt_of_le ((HSR7.out.own p hpn).lt _ (hfo.2.2.2.1 (by omega))) (hx7q.trans x).le
       have HLA:=Lib.hid (fun W (h:Ext wq W)=>label_any W (HTB.out.ext (hxwq.trans h)) (T.kind p i) (T.peer p i) (T.msg p i) (T.time p i) (.slice (T.aa p i) (T.an p i) (T.ac p i)) (HM.out p i hpn hie))
       have HRQ:=Lib.hid (HRC.out.ext hxq)
       have HZ:=Lib.hid hzN
       have hzm':(zN:Int)<(mN:Int):=by omega
       clear hsq e0 e1 e2 e3 e4 eb hfo hf1 hf2 hg5 hc5 hlp hip hzN hxvq
       refine wp_region_T (t:=10) (S:=fun _=>True) (R:=fun w'=>Ext wq w') (by kernel_rfl) trivial (Ext.refl wq).drew (fun hHeld=>?_)
       refine takeR 0 (v:=?_) rfl (by kernel_rfl) (by kernel_rfl) (by kernel_rfl) (by kernel_rfl) (by kernel_rfl) (fun _ _ _ h=>h) (by decide) (Or.inl ⟨by rfl,?_⟩) hHeld.1 hHeld.2 ?_
       rotate_left
       ·intro w' hSw
        have hSX:=hSw.2
        (try dsimp only at hSX)
        have hSS:=Ext.refl w'
        go_simp
        try with_reducible rfl
       try simp only [Act.put,zA,zB,zC]
       refine takeR 1 (v:=?_) rfl (by kernel_rfl) (by kernel_rfl) (by kernel_rfl) (by kernel_rfl) (by kernel_rfl) (fun _ _ _ h=>h) (by decide) (Or.inl ⟨by rfl,?_⟩) hHeld.1 hHeld.2 ?_
       rotate_left
       ·intro w' hSw
        have hSX:=hSw.2
        (try dsimp only at hSX)
        have hSS:=Ext.refl w'
        go_simp
        try with_reducible rfl
       try simp only [Act.put,zA,zB,zC]
       refine takeR 2 (v:=?_) rfl (by kernel_rfl) (by kernel_rfl) (by kernel_rfl) (by kernel_rfl) (by kernel_rfl) (fun _ _ _ h=>h) (by decide) (Or.inl ⟨by rfl,?_⟩) hHeld.1 hHeld.2 ?_
       rotate_left
       ·intro w' hSw
        have hSX:=hSw.2
        (try dsimp only at hSX)
        have hSS:=Ext.refl w'
        go_simp
        try with_reducible rfl
       try simp only [Act.put,zA,zB,zC]
       refine takeR 3 (v:=?_) rfl (by kernel_rfl) (by kernel_rfl) (by kernel_rfl) (by kernel_rfl) (by kernel_rfl) (fun _ _ _ h=>h) (by decide) (Or.inl ⟨by rfl,?_⟩) hHeld.1 hHeld.2 ?_
       rotate_left
       ·intro w' hSw
        have hSX:=hSw.2
        (try dsimp only at hSX)
        have hSS:=Ext.refl w'
        go_simp
        try with_reducible rfl
       try simp only [Act.put,zA,zB,zC]
       refine takeR 4 (v:=?_) rfl (by kernel_rfl) (by kernel_rfl) (by kernel_rfl) (by kernel_rfl) (by kernel_rfl) (fun _ _ _ h=>h) (by decide) (Or.inl ⟨by rfl,?_⟩) hHeld.1 hHeld.2 ?_
       rotate_left
       ·intro w' hSw
        have hSX:=hSw.2
        (try dsimp only at hSX)
        have hSS:=Ext.refl w'
        go_simp
        try with_reducible rfl
       try simp only [Act.put,zA,zB,zC]
       refine takeR 5 (v:=?_) rfl (by kernel_rfl) (by kernel_rfl) (by kernel_rfl) (by kernel_rfl) (by kernel_rfl) (fun _ _ _ h=>h) (by decide) (Or.inl ⟨by rfl,?_⟩) hHeld.1 hHeld.2 ?_
       rotate_left
       ·intro w' hSw
        have hSX:=hSw.2
        (try dsimp only at hSX)
        have hSS:=Ext.refl w'
        go_simp
        try with_reducible rfl
       try simp only [Act.put,zA,zB,zC]
       refine takeR 6 (v:=?_) rfl (by kernel_rfl) (by kernel_rfl) (by kernel_rfl) (by kernel_rfl) (by kernel_rfl) (fun _ _ _ h=>h) (by decide) (Or.inl ⟨by rfl,?_⟩) hHeld.1 hHeld.2 ?_
       rotate_left
       ·intro w' hSw
        have hSX:=hSw.2
        (try dsimp only at hSX)
        have hSS:=Ext.refl w'
        go_simp
        try with_reducible rfl
       try simp only [Act.put,zA,zB,zC]
       refine takeR 7 (v:=?_) rfl (by kernel_rfl) (by kernel_rfl) (by kernel_rfl) (by kernel_rfl) (by kernel_rfl) (fun _ _ _ h=>h) (by decide) (Or.inl ⟨by rfl,?_⟩) hHeld.1 hHeld.2 ?_
       rotate_left
       ·intro w' hSw
        have hSX:=hSw.2
        (try dsimp only at hSX)
        have hSS:=Ext.refl w'
        go_simp
        try with_reducible rfl
       try simp only [Act.put,zA,zB,zC]
       refine takeR 8 (v:=?_) rfl (by kernel_rfl) (by kernel_rfl) (by kernel_rfl) (by kernel_rfl) (by kernel_rfl) (fun _ _ _ h=>h) (by decide) (Or.inl ⟨by rfl,?_⟩) hHeld.1 hHeld.2 ?_
       rotate_left
       ·intro w' hSw
        have hSX:=hSw.2
        (try dsimp only at hSX)
        have hSS:=Ext.refl w'
        go_simp
        try with_reducible rfl
       try simp only [Act.put,zA,zB,zC]
       refine wpAnyT_ready (rs:=[9]) (by kernel_rfl) (by simp) ?_
       refine AllReadyT.cons rfl (fun K hK=>?_) AllReadyT.nil
       go_simp
       go_at_call 85
       refine (HLA.out wq.drew (Ext.refl wq).drew).mono ?_
       rintro e wl ⟨rfl,hxl⟩
       have hxql:Ext wq wl:=(Ext.refl wq).drew.trans hxl
       refine hK.out _ _ ⟨trivial,hxql⟩ (fun hHeld2=>?_)
       clear hK K
       try simp only [Act.put,zA,zB,zC]
       have HRL:=Lib.hid (HRQ.out.ext hxql)
       have s0':∀ w',Ext wl w'→w'.cell? ⟨cb,zN,none⟩=some (.string (bts (T.toTr.cel (fun p i=>(rows p).getD i 0 - 1) p i zN))):=fun w' x=>x.cell (HRL.out.c zN hzm)
       have sf':∀ w',Ext wl w'→w'.frozen? ⟨cb,zN,none⟩=false:=fun w' x=>(x.frozen (p:=⟨cb,zN,none⟩) HRL.out.lt).trans (HRL.out.fr zN)
       have sl':∀ w',Ext wl w'→cb<w'.heap.size:=fun w' x=>Nat.lt_of_lt_of_le HRL.out.lt x.le
       have hll:Ext wl wl:=Ext.refl _
       refine wpAnyT_ready (rs:=[10]) (by kernel_rfl) (by simp) ?_
       refine AllReadyT.late rfl (by decide) (fun K hK=>?_) AllReadyT.nil
       go_simp
       refine hK.out _ _ trivial (fun hHeld3=>?_)
       clear hK K
       try simp only [Act.put,zA,zB,zC]
       refine wpAnyT_ready (rs:=[11]) (by kernel_rfl) (by simp) ?_
       refine AllReadyT.late rfl (by decide) (fun K hK=>?_) AllReadyT.nil
       go_simp
       refine hK.out _ _ trivial (fun hHeld4=>?_)
       clear hK K
       try simp only [Act.put,zA,zB,zC]
       refine wpAnyT_done (by kernel_rfl) ?_ _
       have HR9:=Lib.hid (HRL.out.set hzm (labL (T.kind p i) (T.msg p i)) (f':=fun k=>T.toTr.cel (fun p i=>(rows p).getD i 0 - 1) p (i+1) k) (by show (if (rows p).getD i 0 - 1=((zN:Nat):Int) then T.toTr.lab p i else _)=_;rw [if_pos HZ.out];rfl) (fun k hk=>by show (if (rows p).getD i 0 - 1=((k:Nat):Int) then _ else _)=_;rw [if_neg (by rw [HZ.out];omega)]))
       have HX9:=Lib.hid ((hx7q.trans hxql).setCell (p:=⟨cb,zN,none⟩) (by rw [HCB.out];exact Nat.le_refl _) (.string (bts (labL (T.kind p i) (T.msg p i)))))
       clear s0' sf' sl' hll hHeld hHeld2 hHeld3 hHeld4 m0 lb mr lg
       generalize wl.setCell ⟨cb,zN,none⟩ (.string (bts (labL (T.kind p i) (T.msg p i))))=w9 at HR9 HX9 ⊢
       go_wp2_with fail
       go_roundg (T.en p - (i+1))
       case rel=>exact ⟨i+1,by omega,rfl,by go_num,HX9.out,HR9.out⟩
       case measure=>omega
      ·have hie':¬(i:Int)<(T.en p:Int):=by omega
       obtain rfl:i=T.en p:=by omega
       have hn85:=hx7.le
       go_wp2_with fail
       go_loopg [85] mN (fun gg v85 wd=>∃ k:Nat,k≤mN∧gg=mN - k∧v85=.int .i64 k∧Ext w7 wd∧StrRow wd cb mN (fun j=>if j<k then padL (T.toTr.cel (fun p i=>(rows p).getD i 0 - 1) p (T.en p) j) 45 wk else T.toTr.cel (fun p i=>(rows p).getD i 0 - 1) p (T.en p) j))
       case atStart=>exact ⟨0,by omega,rfl,rfl,hxc,⟨fun k hk=>by rw [if_neg (by omega)];exact HRC.out.c k hk,HRC.out.fr,HRC.out.lt⟩⟩
       case round=>
        obtain ⟨k,hk,rfl,rfl,hxd,hrd⟩:=hrel
        have HRD:=Lib.hid hrd
        clear hrd
        have hx1d:=hx17.trans hxd
        by_cases hkl:k<mN
        ·have hkl':(k:Int)<(mN:Int):=by omega
         obtain ⟨ck,hck⟩:∃ z,z=T.toTr.cel (fun p i=>(rows p).getD i 0 - 1) p (T.en p) k:=⟨_,rfl⟩
         have hckl:ck.length≤1000000:=by rw [hck];exact Nat.le_trans (Tr.cel_len fun j hj=>HLB.out p j hpn hj) (by omega)
         have hwkl:wk≤1000000:=Nat.le_trans HW2.out (by omega)
         have HPD:=Lib.hid (fun W=>pad_any W ck 45 wk hwkl hckl)
         have d0:∀ w',Ext wr w'→w'.cell? ⟨cb,k,none⟩=some (.string (bts ck)):=fun w' x=>by
          rw [x.cell (HRD.out.c k hkl),if_neg (by omega),hck]
         have df:∀ w',Ext wr w'→w'.frozen? ⟨cb,k,none⟩=false:=fun w' x=>(x.frozen (p:=⟨cb,k,none⟩) HRD.out.lt).trans (HRD.out.fr k)
         have dl:∀ w',Ext wr w'→cb<w'.heap.size:=fun w' x=>Nat.lt_of_lt_of_le HRD.out.lt x.le
         have hrr:Ext wr wr:=Ext.refl _
         have HCK:=Lib.hid hck
         clear hck
         go_upto_region 27 with (go_at_call 86;refine (HPD.out _).mono ?_;rintro e w9 ⟨rfl,hx9⟩)
         have HR9:=Lib.hid ((HRD.out.ext hx9).set hkl (padL ck 45 wk) (f':=fun j=>if j<k+1 then padL (T.toTr.cel (fun p i=>(rows p).getD i 0 - 1) p (T.en p) j) 45 wk else T.toTr.cel (fun p i=>(rows p).getD i 0 - 1) p (T.en p) j) (by rw [if_pos (by omega),HCK.out]) (fun j hj=>by
          by_cases h:j<k
          ·rw [if_pos (by omega),if_pos h]
          ·rw [if_neg (by omega),if_neg h]))
         have HX9:=Lib.hid ((hxd.trans hx9).setCell (p:=⟨cb,k,none⟩) (by rw [HCB.out];exact Nat.le_refl _) (.string (bts (padL ck 45 wk))))
         clear d0 df dl hrr
         generalize w9.setCell ⟨cb,k,none⟩ (.string (bts (padL ck 45 wk)))=w10 at HR9 HX9 ⊢
         go_wp2_with fail
         go_roundg (mN - (k+1))
         case rel=>exact ⟨k+1,by omega,rfl,by go_num,HX9.out,HR9.out⟩
         case measure=>omega
        ·have hkl':¬(k:Int)<(mN:Int):=by omega
         obtain rfl:k=mN:=by omega
         obtain ⟨ln,hln⟩:∃ z,z=T.toTr.line (fun p i=>(rows p).getD i 0 - 1) k wk p:=⟨_,rfl⟩
         have hmap:((List.range k).map fun j=>if j<k then padL (T.toTr.cel (fun p i=>(rows p).getD i 0 - 1) p (T.en p) j) 45 wk else T.toTr.cel (fun p i=>(rows p).getD i 0 - 1) p (T.en p) j)=(List.range k).map fun j=>padL (T.toTr.cel (fun p i=>(rows p).getD i 0 - 1) p (T.en p) j) 45 wk:=
          List.map_congr_left fun j hj=>by rw [if_pos (List.mem_range.1 hj)]
         have hq:=HRD.out.que (base:=cb) (Nat.le_refl _) (by unfold maxLen;omega)
         rw [hmap] at hq
         have hll:=Tr.line_len (T:=T.toTr) (col:=fun p i=>(rows p).getD i 0 - 1) (m:=k) (W:=wk) (p:=p) hmN HW2.out fun j hj=>HLB.out p j hpn hj
         have hjn:=join_any wr cb (some ⟨cb,0,none⟩) k k _ (by simp) hq 45 (by unfold Tr.line at hll;omega) (by omega)
         rw [←hln] at hll
         rw [show Lib.join ((List.range k).map fun j=>padL (T.toTr.cel (fun p i=>(rows p).getD i 0 - 1) p (T.en p) j) 45 wk) [45]=ln from hln.symm] at hjn
         have HJN:=Lib.hid hjn
         have HLN:=Lib.hid hln
         have hx7d:=hxd
         have HLL:=Lib.hid hll
         clear hq hmap hjn hln hll
         go_upto_region 29 with (go_at_call 67;refine HJN.out.mono ?_;rintro e w9 ⟨rfl,hx9⟩)
         obtain ⟨nm,hnm⟩:∃ nm,nm=(T.name p).data.toList:=⟨_,rfl⟩
         have hnb:T.name p=bts nm:=by rw [hnm];simp [bts]
         have hns:nm.length≤1000:=by have:=HNM.out p hpn;rw [hnm,bytes_len];exact this
         have x0:∀ w',Ext w7 w'→w'.cell? ⟨_,0,none⟩=some (.string (bts nm)):=fun w' x=>by rw [←hnb];exact HK7.out.box.cell w' x 0
         have xl:∀ w',Ext w7 w'→_<w'.heap.size:=fun w' x=>HK7.out.box.lt w' x
         have hx79:=hx7d.trans hx9
         have HNM2:=Lib.hid (And.intro hnm hns)
         have HPD:=Lib.hid (fun W=>pad_any W nm 32 nk (by have:=HN2.out;omega) (by omega))
         obtain ⟨pd,hpd⟩:∃ z,z=padL nm 32 nk:=⟨_,rfl⟩
         rw [←hpd] at HPD
         have HPL:=Lib.hid (show padL nm 32 nk=pd∧pd.length≤1000 from ⟨hpd.symm,by rw [hpd,padL_len];have:=HN2.out;omega⟩)
         have HB9:=Lib.hid (HBO7.out.ext hx79)
         clear hnm hnb hns hpd
         have hdl:(T.toTr.dra (fun p i=>(rows p).getD i 0 - 1) k nk wk none p).length≤10000000000000:=by
          have h1:=Tr.dra_len (T:=T.toTr) (col:=fun p i=>(rows p).getD i 0 - 1) (m:=k) (N:=nk) (W:=wk) (c:=none) HN2.out (k:=p) fun q hq=>⟨HNM.out q (by omega),Tr.line_len hmN HW2.out fun j hj=>HLB.out q j (by omega) hj⟩
          have h2:p*300000≤8*300000:=Nat.mul_le_mul_right _ (by omega)
          omega
         have HWR:=Lib.hid (fun W (h:Bld bb (T.toTr.dra (fun p i=>(rows p).getD i 0 - 1) k nk wk none p) W)=>write1_any W bb _ h [pd,[32,124],ln,[124,10]] 4 rfl (by omega) (fun x hx=>by
          simp only [List.mem_cons,List.mem_nil_iff,or_false] at hx
          rcases hx with rfl | rfl | rfl | rfl
          ·have:=HPL.out.2;omega
          ·simp
          ·have:=HLL.out;omega
          ·simp) hdl)
         clear hdl
         go_upto_region 33 with (first | (go_at_call 86;refine (HPD.out _).mono ?_;rintro e w10 ⟨rfl,hx10⟩;have HB10:=Lib.hid (HB9.out.ext hx10)) | (go_at_call 64;refine (HWR.out w10 HB10.out).mono ?_;rintro e w11 ⟨rfl,hb11,hbe11⟩;have HB11:=Lib.hid (And.intro hb11 hbe11);clear hb11 hbe11))
         have HEND:=Lib.hid (show T.toTr.dra (fun p i=>(rows p).getD i 0 - 1) k nk wk none (p+1)=T.toTr.dra (fun p i=>(rows p).getD i 0 - 1) k nk wk none p++cat [pd,[32,124],ln,[124,10]] from by
          show _++(padL (T.name p).data.toList 32 nk++[32,124]++T.toTr.line (fun p i=>(rows p).getD i 0 - 1) k wk p++[124,10])=_
          rw [←HNM2.out.1,HPL.out.1,←HLN.out]
          simp [cat])
         have hxend:=hxo.trans (hx7.trans (hx79.trans hx10))
         have HXE:=Lib.hid (Below.trans hxend (by rw [←HBB.out];exact HB11.out.2))
         clear hxend
         go_wp2_with fail
         go_roundg (T.n - (p+1))
         case rel=>exact ⟨p+1,by omega,rfl,by go_num,HXE.out,by rw [HEND.out];exact HB11.out.1⟩
         case measure=>omega
    ·have hpn':¬(p:Int)<(T.n:Int):=by omega
     obtain rfl:p=T.n:=by omega
     have hst:=Tryz.Builder_String_any_k bb bb _ wr HBO.out (Nat.le_of_lt HBO.out.lt)
     have HSS:=Lib.hid hst
     clear hst
     go_wp2_with (go_at_call 68;refine HSS.out.mono ?_;rintro e w9 ⟨rfl,h1,h2,h3⟩;have HB9:=Lib.hid h2;clear h1 h2 h3)
     go_ret
     exact ⟨hxwr0.trans (by have:=HB9.out;rw [HBB.out] at this;exact Below.trans hxo this),rows,mN,HSP.out,HMO.out,by rw [←HNS.out.1,←HNS.out.2];rfl⟩
end Go.Proofs.YtmhapcnlpoilpaaGreatDoor
