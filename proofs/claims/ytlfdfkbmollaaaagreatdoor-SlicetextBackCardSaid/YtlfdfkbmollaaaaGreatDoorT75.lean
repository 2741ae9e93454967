/- Contracts and laws in plain Lean for RApp: group T75. -/
import Derived.Test.YtlfdfkbmollaaaaGreatDoorT74
import Derived.Test.YtlfdfkbmollaaaaGreatDoorT70
import Derived.Test.YtlfdfkbmollaaaaGreatDoorT38
import Derived.Deep.CutRange
import Derived.Deep.CutBlock
import Derived.Test.YtlfdfkbmollaaaaGreatDoorT62
set_option maxRecDepth 100000
namespace Go.Proofs.YtlfdfkbmollaaaaGreatDoor
open Go.RowKit Go.Shelf
attribute [local go_sem] Oper.semAt_some
theorem ownL_tot {u v:Nat→Int} {en:Nat→Nat}:∀ {n:Nat},(∀ p,p<n→(v p - u p).toNat≤en p)→(ownL u v n).length≤tot en n
 | 0,_ => by simp [ownL]
 | n+1,h => by
  have h1:=ownL_tot (n:=n) fun p hp=>h p (by omega)
  have h2:=h n (by omega)
  unfold ownL
  rw [List.length_append,ownP_len]
  show _≤tot en n+en n
  omega
theorem SlcD.Ok.gok {S:SlcD} {T:Tr} (h:S.Ok T) (he:S.em=false) (h24:tot T.en T.n≤39):S.GOk T.n:=by
 obtain ⟨hV,⟨h1,_⟩ | ⟨_,hSh,hR,_⟩⟩:=h
 ·rw [he] at h1;cases h1
 have hf:=hSh.1.1
 have hl:=hSh.1.2.1
 have hle:=hSh.1.2.2.1
 have hfn:S.f.s.n=T.n:=hf.1.2
 have hln:S.l.s.n=T.n:=hl.1.2
 have hj:S.j.s.n=T.n:=hSh.1.2.2.2
 have hen:∀ p,p<T.n→T.en p≤64:=fun p hp=>by have:=(hV.pr p hp).2.2.2.2;omega
 have hF:∀ p,p<T.n→0≤S.f.z p∧S.f.z p≤T.en p:=fun p hp=>hf.2.1 p hp
 have hL:∀ p,p<T.n→0≤S.l.z p∧S.l.z p≤T.en p:=fun p hp=>hl.2.1 p hp
 refine ⟨hfn,hln,by have:=hV.n8;omega,fun p hp=>?_,fun p hp=>(hL p hp).1,fun x hx=>?_,?_⟩
 ·have:=hF p hp;have:=hL p hp;have:=hen p hp;omega
 ·obtain ⟨p,k,hp,hk,rfl⟩:=mem_ownL.1 hx
  have h1:=hF p hp
  have h2:=hL p hp
  obtain ⟨i,hi⟩:∃ i:Nat,(i:Int)=S.f.z p+k:=⟨(S.f.z p).toNat+k,by omega⟩
  have hie:i<T.en p:=by omega
  have hc:=(hR p i hp hie).cut hSh (by omega)
  refine ⟨p,i,by rw [hi];exact Prod.ext rfl (by show S.f.z p+1+(k:Int)=S.f.z p+k+1;omega),by rw [hj];exact hp,by rw [hSh.2 p hp];exact hie,hc.1.2,fun q hq=>?_⟩
  have h3:=hc.2.1 q hq
  have h4:=hen q hq
  omega
 ·refine Nat.le_trans (ownL_tot (en:=T.en) fun p hp=>?_) h24
  have:=hF p hp;have:=hL p hp;omega
set_option maxHeartbeats 1000000 in
theorem grouped_none (w : World) (S : SlcD) (hem : S.em = true) :
    Calls Tryz.prog 68 #[S.val] w fun e w'=>e=.returned (.tuple #[.slice none 0 0,.slice none 0 0])∧Ext w w':=by
 have hv:S.val=.agg #[.bool true,S.f.s.v,S.l.s.v,S.j.s.v]:=by rw [←hem]
 rw [hv]
 clear hem hv
 go_enter Tryz.func68,Tryz.ntmps68
 go_upto_region 1 with fail
 refine boxed1 (w:=w) (G:=fun x=>Code.wp _ _ _ _ x) ?_
 intro w1 hx1 hs1 ⟨l0,c0,_,_⟩
 have hx11:Ext w1 w1:=Ext.refl _
 go_wp2_with fail
 go_ret2
 exact ⟨rfl,hx1⟩
def GroupsPost (S:SlcD) (T:Tr) (w:World) (e:Ending) (w':World):Prop:=
 Ext w w'∧((¬S.Ok T∧e=.returned (.tuple #[.slice none 0 0,.int .i64 1]))∨(S.Ok T∧S.em=true∧e=.returned (.tuple #[.slice none 0 0,.int .i64 0]))∨
  (S.Ok T∧S.em=false∧∃ vg G,e=.returned (.tuple #[vg,.int .i64 0])∧GrpQ w' w.heap.size vg G∧IsGrp T.n (S.E T.n) (·∈S.own T.n) G∧GFin S T.n G))
set_option maxHeartbeats 2000000 in
theorem groups_any (w:World) (T:TM) (hT:T.At w) (S:SlcD) (hS:S.At w) (h24:tot T.en T.n≤39):Calls Tryz.prog 18 #[T.val,S.val] w (GroupsPost S T.toTr w):=by
 have HVA:=Lib.hid (fun W (x:Ext w W)=>svalid_any W T (hT.ext x) S (hS.ext x))
 have HGR:=Lib.hid (fun W (x:Ext w W) (hO:S.GOk T.n) (hem:S.em=false)=>grouped_any W S (hS.ext x) T.n hO hem)
 have HGN:=Lib.hid (fun W (hem:S.em=true)=>grouped_none W S hem)
 have HGK:=Lib.hid (fun (hO:S.Ok T.toTr) (he:S.em=false)=>hO.gok he h24)
 unfold GroupsPost
 simp only [TM.val] at HVA ⊢
 clear hT hS h24
 go_enter Tryz.func18,Tryz.ntmps18
 go_upto_region 1 with fail
 refine boxed2 (w:=w) (G:=fun x=>Code.wp _ _ _ _ x) ?_
 intro w1 hx1 hs1 ⟨l0,c0,_,_⟩ ⟨l1,c1,_,_⟩
 have hx11:Ext w1 w1:=Ext.refl _
 clear hs1
 go_wp2_with fail
 go_at_call 17
 refine (HVA.out w1 hx1).mono ?_
 rintro e w2 ⟨b,rfl,hb,hx12⟩
 have HB:=Lib.hid hb
 have hxw2:=hx1.trans hx12
 clear hb HVA
 cases b with
 | false =>
  have HNO:=Lib.hid (show ¬S.Ok T.toTr from fun h=>absurd (HB.out.2 h) (by decide))
  go_wp2_with fail
  go_ret2
  exact ⟨hxw2,.inl ⟨HNO.out,rfl⟩⟩
 | true =>
  have HOK:=Lib.hid (HB.out.1 rfl)
  clear HB
  rcases hem:S.em with _ | _
  ·have HEM:=Lib.hid hem
   have HG:=Lib.hid (HGR.out w2 hxw2 (HGK.out HOK.out hem) hem)
   rw [show S.val=.agg #[.bool S.em,S.f.s.v,S.l.s.v,S.j.s.v] from rfl,hem] at HG
   rw [hem] at c1
   clear hem HGR HGN HGK
   go_wp2_with fail
   go_at_call 68
   refine HG.out.mono ?_
   rintro e w3 ⟨hx23,vg,ve,G,rfl,hg,hi,hq,hf⟩
   have HR:=Lib.hid (And.intro hg (And.intro hi hf))
   clear hg hi hq hf HG
   go_wp2_with fail
   go_ret2
   exact ⟨hxw2.trans hx23,.inr (.inr ⟨HOK.out,HEM.out,vg,G,rfl,by
    obtain ⟨NG,h1,h2⟩:=HR.out.1
    exact ⟨NG,h1.mono hxw2.le,fun k hk=>(h2 k hk).mono hxw2.le⟩,HR.out.2⟩)⟩
  ·have HEM:=Lib.hid hem
   have HG:=Lib.hid (HGN.out w2 hem)
   rw [show S.val=.agg #[.bool S.em,S.f.s.v,S.l.s.v,S.j.s.v] from rfl,hem] at HG
   rw [hem] at c1
   clear hem HGR HGN HGK
   go_wp2_with fail
   go_at_call 68
   refine HG.out.mono ?_
   rintro e w3 ⟨rfl,hx23⟩
   clear HG
   go_wp2_with fail
   go_ret2
   exact ⟨hxw2.trans hx23,.inr (.inl ⟨HOK.out,HEM.out,rfl⟩)⟩
end Go.Proofs.YtlfdfkbmollaaaaGreatDoor

namespace Go.Proofs.YtlfdfkbmollaaaaGreatDoor
open Go.RowKit Go.Shelf
attribute [local go_sem] Oper.semAt_some
theorem tot_leB {u:Nat→Nat} {c:Nat}:∀ {n:Nat},(∀ p,p<n→u p≤c)→tot u n≤n*c
 | 0,_ => by simp [tot]
 | n+1,h => by
  have h1:=tot_leB (n:=n) fun p hp=>h p (by omega)
  have h2:=h n (by omega)
  show tot u n+u n≤_
  rw [Nat.succ_mul];omega
theorem SlcD.row_ok {S:SlcD} {n:Nat} {x:EvE} (hn:n≤100) (h:S.Has n x):RowOk n (S.row n x):=by
 refine ⟨S.E_len n x,fun p hp=>?_⟩
 obtain ⟨p',i,rfl,_,_,_,hv⟩:=h
 show tot (fn (S.E n _)) p≤100000
 rw [S.E_at]
 have h1:=tot_leB (u:=fn (rowOf n fun q=>((S.j.m p').val i q).toNat)) (c:=1000) (n:=p) fun q hq=>by
  rw [fn_rowOf (by omega)];have:=hv q (by omega);omega
 have h2:p*1000≤100*1000:=Nat.mul_le_mul_right _ (by omega)
 omega
structure ElI (S:SlcD) (n i:Nat) (R:List Row):Prop where
 of:∀ r∈R,∃ x,x∈S.own n∧r=S.row n x
 srt:R.Pairwise (Row.bef n)
 mem:∀ l,(∃ r∈R,r.l=l)↔∃ j,j<i∧S.E n ((S.own n).getD j (0,0))=l
 len:R.length≤i
theorem ElI.zero (S:SlcD) (n:Nat):ElI S n 0 []:=⟨fun _ h=>(by cases h),List.Pairwise.nil,fun l=>⟨fun ⟨r,h,_⟩=>(by cases h),fun ⟨j,h,_⟩=>absurd h (by omega)⟩,Nat.le_refl _⟩
theorem ElI.next {S:SlcD} {n i:Nat} {R R':List Row} (h:ElI S n i R) (hi:i<(S.own n).length) (hs:InsIs n R (S.row n ((S.own n).getD i (0,0))) R') (hl:R'.length≤i+1):ElI S n (i+1) R':=by
 have hm:=hs.mem
 refine ⟨fun r hr=>?_,hs.sorted h.srt (fun x hx=>?_) (S.E_len n _),fun l=>?_,hl⟩
 ·rcases hm.1 r hr with rfl | h2
  ·exact ⟨_,getD_memE hi,rfl⟩
  ·exact h.of r h2
 ·obtain ⟨y,_,rfl⟩:=h.of x hx
  exact S.E_len n y
 ·rw [hm.2 l,h.mem l]
  constructor
  ·rintro (rfl | ⟨j,hj,e⟩)
   ·exact ⟨i,by omega,rfl⟩
   ·exact ⟨j,by omega,e⟩
  ·rintro ⟨j,hj,e⟩
   by_cases e2:j=i
   ·subst e2;exact .inl e.symm
   ·exact .inr ⟨j,by omega,e⟩
def ElPost (S:SlcD) (n:Nat) (w:World) (e:Ending) (w':World):Prop:=Ext w w'∧∃ vv R,e=.returned vv∧RowsQ w' w.heap.size vv R∧ElI S n (S.own n).length R
theorem map_take_snoc (R:List Row) {j:Nat} (hj:j<R.length):(R.take (j+1)).map Row.val=(R.take j).map Row.val++[R[j].val]:=by
 rw [List.take_add_one,List.getElem?_eq_getElem hj,List.map_append];rfl
theorem drop_take_snoc (R:List Row) {k j:Nat} (hk:k≤j) (hj:j<R.length):(R.drop k).take (j+1 - k)=(R.drop k).take (j - k)++[R[j]]:=by
 rw [show j+1 - k=(j - k)+1 by omega,List.take_add_one,List.getElem?_drop,show k+(j - k)=j by omega,List.getElem?_eq_getElem hj];rfl
set_option maxHeartbeats 8000000 in
theorem relem_any (w : World) (T : TM) (S : SlcD) (hS : S.At w) (hO : S.GOk T.n) (hem : S.em = false) :
    Calls Tryz.prog 75 #[T.val,S.val] w (ElPost S T.n w):=by
 obtain ⟨q0,hq0,hr0,hr1,hr2⟩:=info_parts infoInts1
 obtain ⟨n,hn⟩:∃ n,n=T.n:=⟨_,rfl⟩
 have HS:=Lib.hid hS
 have HOWN:=Lib.hid (fun W (x:Ext w W)=>(show Calls Tryz.prog 44 #[T.val,.slice S.f.s.a S.f.s.n S.f.s.c,.slice S.l.s.a S.l.s.n S.l.s.c] W (OwnPost S.f.z S.l.z T.n W) from by
  have h1:=hS.f.num.ext x
  have h2:=hS.l.num.ext x
  rw [hO.fn] at h1 ⊢
  rw [hO.ln] at h2 ⊢
  exact rown_any W T _ _ _ _ _ _ T.n _ _ _ _ h1 h2 rfl hO.hn hO.b))
 obtain ⟨ja,hja⟩:∃ z,z=S.j.s.a:=⟨_,rfl⟩
 have HJA:=Lib.hid hja
 have hv:S.val=.agg #[.bool false,.slice S.f.s.a S.f.s.n S.f.s.c,.slice S.l.s.a S.l.s.n S.l.s.c,.slice ja S.j.s.n S.j.s.c]:=by rw [hja,←hem]
 rw [hv]
 rw [←hn] at hO HOWN ⊢
 have HO:=Lib.hid hO
 simp only [TM.val] at HOWN ⊢
 rw [←hn] at HOWN ⊢
 unfold ElPost
 have hjn:=HS.out.j.s.hn
 clear hS hO hem hv hja hn
 go_enter Tryz.func75,Tryz.ntmps75
 go_upto_region 1 with fail
 refine boxed2 (w:=w) (G:=fun x=>Code.wp _ _ _ _ x) ?_
 intro w1 hx1 hs1 ⟨l0,c0,_,_⟩ ⟨l1,c1,_,_⟩
 have hx11:Ext w1 w1:=Ext.refl _
 clear hs1
 go_wp2_with fail
 go_at_call 44
 refine (HOWN.out w1 hx1).mono ?_
 rintro e w2 ⟨hx12,a2,cp2,rfl,hq2⟩
 have HF:=Lib.hid HO.out.few
 obtain ⟨N,hN⟩:∃ N,N=(ownL S.f.z S.l.z n).length:=⟨_,rfl⟩
 rw [←hN] at hq2 HF ⊢
 have HN:=Lib.hid hN
 have hN39:N≤39:=HF.out
 have HQ2:=Lib.hid hq2
 have hxw2:=hx1.trans hx12
 clear hN hq2
 go_wp2_with fail
 go_loopg [5,7] N (fun gg v5 v7 wr=>∃ (i:Nat) (R:List Row),i≤N∧gg=N - i∧v7=.int .i64 i∧Ext w2 wr∧Hid (RowsQ wr w2.heap.size v5 R)∧Hid (ElI S n i R))
 case atStart=>exact ⟨0,[],by omega,rfl,rfl,Ext.refl _,Lib.hid (RowsQ.nil _ _),Lib.hid (ElI.zero S n)⟩
 case round=>
  obtain ⟨i,R,hi,rfl,rfl,hxr,HR,HI⟩:=hrel
  have hx1r:=hx12.trans hxr
  have hxwr:=hx1.trans hx1r
  by_cases hlt:i<N
  case neg=>
   obtain rfl:i=N:=by omega
   go_wp2_with fail
   go_ret
   exact ⟨hxwr,_,R,rfl,HR.out.mono hxw2.le,by rw [HN.out] at HI;exact HI.out⟩
  have hlt':(i:Int)<(N:Int):=by omega
  obtain ⟨ra,rg,ro,rcp,hu5,hcap,hag,hget⟩:=HR.out.get
  subst hu5
  have HGE:=Lib.hid hget
  have HAG:=Lib.hid hag
  have hlen9:R.length≤39:=by have:=HI.out.len;omega
  obtain ⟨len,hlen⟩:∃ z,z=R.length:=⟨_,rfl⟩
  have HLE:=Lib.hid hlen
  rw [←hlen] at HR hlen9 ⊢
  clear hag hget hcap hlen
  obtain ⟨g2,o2,cp2',ha2,_,hg2,_,hc2⟩:=HQ2.out.shape (by omega)
  obtain rfl:a2=some ⟨g2,o2,none⟩:=by cases ha2;rfl
  have HHAS:=Lib.hid (HO.out.has _ (getD_memE (l:=ownL S.f.z S.l.z n) (k:=i) (by rw [←HN.out];exact hlt)))
  obtain ⟨p,q,hxe,hp,hq,hrn,hvb⟩:=HHAS.out
  obtain ⟨xi,hxi⟩:∃ z,z=(q:Int)+1:=⟨_,rfl⟩
  have hgd:(ownL S.f.z S.l.z n)[i]'(by rw [←HN.out];exact hlt)=((p:Int),xi):=by
   have h1:=hxe
   rw [List.getD_eq_getElem?_getD,List.getElem?_eq_getElem (by rw [←HN.out];exact hlt)] at h1
   rw [hxi];exact h1
  have e0:∀ w',Ext w2 w'→w'.cell? ⟨g2,o2+i*2,none⟩=some (.int .i64 p):=fun w' x=>x.cell (by rw [hc2 (i*2) (by omega),evCells_get0 _ i (by rw [←HN.out];exact hlt),hgd])
  have e1:∀ w',Ext w2 w'→w'.cell? ⟨g2,o2+i*2+1,none⟩=some (.int .i64 xi):=fun w' x=>x.cell (by rw [Nat.add_assoc,hc2 (i*2+1) (by omega),evCells_get1 _ i (by rw [←HN.out];exact hlt),hgd])
  have eb:∀ w',Ext w2 w'→g2<w'.heap.size:=fun w' x=>Nat.lt_of_lt_of_le hg2 x.le
  have hM:=(HS.out.j.c p hp).2.at'
  have hnm:=hM.hn
  have hp':(p:Int)<(S.j.s.n:Int):=by omega
  have hq':(q:Int)<((S.j.m p).n:Int):=by omega
  have hb1:∀ w',Ext w w'→S.j.s.b<w'.heap.size:=fun w' x=>Nat.lt_of_lt_of_le (HS.out.j.s.hb (by omega)) x.le
  have hb2:=hM.pb (by omega)
  have k1:∀ w',Ext w w'→w'.cell? ⟨S.j.s.b,S.j.s.o+p,none⟩=some (.slice (some ⟨(S.j.m p).b,(S.j.m p).off,none⟩) (S.j.m p).n (S.j.m p).cap):=fun w' x=>by
   rw [←hM.pa (by omega)];exact x.cell (HS.out.j.c p hp).1
  have k2:∀ w',Ext w w'→w'.cell? ⟨(S.j.m p).b,(S.j.m p).off+q,none⟩=some (.slice ((S.j.m p).ra q) ((S.j.m p).rn q) ((S.j.m p).rc q)):=fun w' x=>hM.p0 w' x q hq
  have hxw:IntKind.i64.wrap (xi - 1)=(q:Int):=by rw [IntWalk.i64_in _ (by omega)];omega
  have hxs:xi - 1=(q:Int):=by omega
  have hqw:IntKind.i64.wrap (q:Int)=(q:Int):=IntWalk.i64_in _ (by omega)
  have HRA:=Lib.hid (SlcD.row_at HS.out HHAS.out)
  have hrv:=HRA.out.2
  have hrow:(S.row n ((ownL S.f.z S.l.z n).getD i (0,0))).val=.slice ((S.j.m p).ra q) n ((S.j.m p).rc q):=by
   rw [hrv,hxe];simp only [Int.toNat_natCast];rw [show ((q:Int)+1).toNat - 1=q by omega]
  obtain ⟨r,hr⟩:∃ r,r=S.row n ((ownL S.f.z S.l.z n).getD i (0,0)):=⟨_,rfl⟩
  rw [hrn] at k2
  rw [←hr] at hrow HRA
  have HRR:=Lib.hid hr
  have HRK:=Lib.hid (show RowOk n r from by rw [hr];exact SlcD.row_ok HO.out.hn HHAS.out)
  obtain ⟨va,hva⟩:∃ z,z=(S.j.m p).ra q:=⟨_,rfl⟩
  obtain ⟨vc,hvc⟩:∃ z,z=(S.j.m p).rc q:=⟨_,rfl⟩
  rw [←hva,←hvc] at hrow k2
  have HRV:=Lib.hid hrow
  have HVA:=Lib.hid (show r.a=va∧r.c=vc∧r.l.length=n from by
   have h1:=hrow
   unfold Row.val at h1
   simp only [Value.slice.injEq] at h1
   exact ⟨h1.1,h1.2.2,h1.2.1⟩)
  obtain rfl:ja=some ⟨S.j.s.b,S.j.s.o,none⟩:=by rw [HJA.out];exact HS.out.j.s.ha (by omega)
  generalize (S.j.m p).n=nm at *
  generalize (S.j.m p).b=bm at *
  generalize (S.j.m p).off=om at *
  generalize (S.j.m p).cap=cm at *
  clear hc2 ha2 hxe hgd hM hrn hvb hrow hrv hr hva hvc hxi
  have hrr:Ext wr wr:=Ext.refl _
  have hgd0:∀ d os,Ext wr (Sort.grow (redrawn wr d) os):=fun d os=>below_regrown wr d os
  have hgdA:∀ d os,Ext w (Sort.grow (redrawn wr d) os):=fun d os=>hxwr.trans (below_regrown wr d os)
  have hgdB:∀ d os,Ext w1 (Sort.grow (redrawn wr d) os):=fun d os=>hx1r.trans (below_regrown wr d os)
  have hgdC:∀ d os,Ext w2 (Sort.grow (redrawn wr d) os):=fun d os=>hxr.trans (below_regrown wr d os)
  go_upto_region 8 with fail
  refine wp_region_quiet_below (by kernel_rfl) (by kernel_rfl) ?_
  repeat (go_big_quiet_step (fail))
  refine wpQuiet_nil ?_
  intro _ hw'
  obtain ⟨⟨dq,osq⟩,hw''⟩:=hw'
  subst hw''
  have hx3r:=hgd0 dq osq
  clear hgd0 hgdA hgdB hgdC e0 e1 eb k1 k2 hb1 hb2 hxw hxs hqw hp' hq'
  generalize Sort.grow (redrawn wr dq) osq=w3 at hx3r ⊢
  have hxw3:=hxwr.trans hx3r
  have hx23:=hxr.trans hx3r
  have HBE:=Lib.hid (fun W (x:Ext w3 W) k (hk:k<R.length)=>(show Calls Tryz.prog 121 #[.slice R[k].a R[k].l.length R[k].c,.slice va n vc] W (BoolPost (R[k].bef n r) W) from by
   obtain ⟨y,hy,hry⟩:=HI.out.of _ (List.getElem_mem hk)
   have h1:RowOk n R[k]:=by rw [hry];exact SlcD.row_ok HO.out.hn (HO.out.has y hy)
   have h2:=(HR.out.2 _ (List.getElem_mem hk)).ext (hx3r.trans x)
   have h3:=HRA.out.1.ext (hxw3.trans x)
   unfold Row.At at h2 h3
   rw [h1.len] at h2 ⊢
   rw [HVA.out.2.2,HVA.out.1] at h3
   exact rbef_any W R[k].a va R[k].g R[k].o r.g r.o n R[k].c vc (fn R[k].l) (fn r.l) h2 h3 h1.sm HRK.out.sm))
  have HSA:=Lib.hid (fun W (x:Ext w3 W) k (hk:k<R.length)=>(show Calls Tryz.prog 76 #[.slice R[k].a R[k].l.length R[k].c,.slice va n vc] W (BoolPost (R[k].l=r.l) W) from by
   have h2:=(HR.out.2 _ (List.getElem_mem hk)).ext (hx3r.trans x)
   have h3:=HRA.out.1.ext (hxw3.trans x)
   unfold Row.At at h2 h3
   rw [HVA.out.2.2,HVA.out.1] at h3
   refine (same36_any W R[k].a va R[k].g R[k].o r.g r.o R[k].l.length n R[k].c vc (natV (fn R[k].l)) (natV (fn r.l)) h2 h3).mono ?_
   rintro e w' ⟨b,he,hb,hx⟩
   refine ⟨b,he,hb.trans ⟨fun h=>fn_ext (h.1.trans HVA.out.2.2.symm) fun p hp=>Int.ofNat.inj (h.2 p hp),fun h=>by rw [h];exact ⟨HVA.out.2.2,fun _ _=>rfl⟩⟩,hx⟩))
  have HRG:=Lib.hid (fun k (hk:k<R.length)=>(show ra=some ⟨rg,ro,none⟩∧(∀ w',Ext w3 w'→rg<w'.heap.size)∧∀ w',Ext w3 w'→w'.cell? ⟨rg,ro+k,none⟩=some (.slice R[k].a R[k].l.length R[k].c) from by
   obtain ⟨h1,_,h3⟩:=HAG.out (by omega)
   exact ⟨h1,fun w' x=>Nat.lt_of_lt_of_le h3 (hx3r.trans x).le,fun w' x=>HGE.out k hk w' (hx3r.trans x)⟩))
  have h33:Ext w3 w3:=Ext.refl _
  clear hrr
  go_upto_block 2 with fail
  go_cut [9] from 44 to 55 (fun s9 wx=>∃ k:Nat,k≤len∧s9=.int .i64 k∧Ext w3 wx∧Hid (∀ j (hj:j<R.length),j<k→R[j].bef n r)∧Hid (∀ hk:k<R.length,¬R[k].bef n r))
  case first=>
   go_wp2_with fail
   go_loopg [9] len (fun gg v9 wa=>∃ k:Nat,k≤len∧gg=len - k∧v9=.int .i64 k∧Ext w3 wa∧Hid (∀ j (hj:j<R.length),j<k→R[j].bef n r))
   case atStart=>exact ⟨0,by omega,rfl,rfl,h33,Lib.hid (fun j _ h=>absurd h (by omega))⟩
   case round=>
    rename World=>wa
    obtain ⟨k,hk,rfl,rfl,hxa,HA⟩:=hrel
    clear h33
    by_cases hkl:k<len
    ·have d1:decide ((k:Int)<(len:Int))=true:=decide_eq_true (by omega)
     have d1':decide (k<len)=true:=decide_eq_true hkl
     have hkl':(k:Int)<(len:Int):=by omega
     have hkR:k<R.length:=by rw [←HLE.out];exact hkl
     obtain ⟨rfl,hbg,hcg⟩:=HRG.out k hkR
     have hbe:=HBE.out wa hxa k hkR
     obtain ⟨ya,hya⟩:∃ z,z=R[k].a:=⟨_,rfl⟩
     obtain ⟨yl,hyl⟩:∃ z,z=R[k].l.length:=⟨_,rfl⟩
     obtain ⟨yc,hyc⟩:∃ z,z=R[k].c:=⟨_,rfl⟩
     rw [←hya,←hyl,←hyc] at hbe hcg
     clear hya hyl hyc
     go_wp2_with fail
     go_at_call 121
     refine hbe.mono ?_
     rintro e wb ⟨bb,rfl,hbb,hxb⟩
     have hxb3:=hxa.trans hxb
     have HBB:=Lib.hid hbb
     clear hbe hbb hxb
     cases bb with
     | true =>
      go_wp2_with fail
      go_roundg (len - (k+1))
      case rel=>exact ⟨k+1,by omega,rfl,by go_num,hxb3,Lib.hid (fun j hj hjk=>by
       by_cases e:j=k
       ·subst e;exact HBB.out.1 (by first | rfl | trivial)
       ·exact HA.out j hj (by omega))⟩
      case measure=>omega
     | false =>
      go_wp2_with fail
      go_meet
      exact ⟨k,hk,rfl,hxb3,HA,Lib.hid (fun _ h=>absurd (HBB.out.2 h) (by decide))⟩
    ·obtain rfl:k=len:=by omega
     have d1:decide ((k:Int)<(k:Int))=false:=decide_eq_false (by omega)
     have d1':decide (k<k)=false:=decide_eq_false (by omega)
     go_wp2_with fail
     go_meet
     exact ⟨k,hk,rfl,hxa,HA,Lib.hid (fun h=>absurd h (by have:=HLE.out;omega))⟩
  case rest=>
  obtain ⟨k,hk,rfl,hx3c,HA,HNB⟩:=hcut
  obtain ⟨w4,hw4⟩:∃ z,z=wc:=⟨_,rfl⟩
  rw [←hw4] at hx3c ⊢
  clear hw4
  obtain ⟨bb,hbb⟩:=exists_bool (∃ hk:k<R.length,R[k].l=r.l)
  have HBB:=Lib.hid hbb
  clear hbb h33
  go_upto_region 12 with fail
  go_cut [69] (fun s69 wx=>s69=.bool bb∧Ext w4 wx)
  case first=>
   have h44:Ext w4 w4:=Ext.refl _
   by_cases hkl:k<len
   ·have d1:decide ((k:Int)<(len:Int))=true:=decide_eq_true (by omega)
    have d1':decide (k<len)=true:=decide_eq_true hkl
    have hkl':(k:Int)<(len:Int):=by omega
    have hkR:k<R.length:=by rw [←HLE.out];exact hkl
    obtain ⟨rfl,hbg,hcg⟩:=HRG.out k hkR
    have hsa:=HSA.out w4 hx3c k hkR
    obtain ⟨ya,hya⟩:∃ z,z=R[k].a:=⟨_,rfl⟩
    obtain ⟨yl,hyl⟩:∃ z,z=R[k].l.length:=⟨_,rfl⟩
    obtain ⟨yc,hyc⟩:∃ z,z=R[k].c:=⟨_,rfl⟩
    rw [←hya,←hyl,←hyc] at hsa hcg
    clear hya hyl hyc
    go_wp2_with fail
    go_at_call 76
    refine hsa.mono ?_
    rintro e wb ⟨b2,rfl,hb2,hxb⟩
    have HB2:=Lib.hid (show b2=bb from by
     rw [Bool.eq_iff_iff,hb2]
     exact ⟨fun h=>HBB.out.2 ⟨hkR,h⟩,fun h=>(HBB.out.1 h).2⟩)
    clear hsa hb2
    go_wp2_with fail
    go_meet
    exact ⟨by rw [HB2.out],hxb⟩
   ·have d1:decide ((k:Int)<(len:Int))=false:=decide_eq_false (by omega)
    have d1':decide (k<len)=false:=decide_eq_false hkl
    have HB2:=Lib.hid (show bb=false from by
     cases hb:bb with
     | false => rfl
     | true => obtain ⟨h1,_⟩:=HBB.out.1 hb;exact absurd h1 (by have:=HLE.out;omega))
    go_wp2_with fail
    go_meet
    exact ⟨by rw [HB2.out],h44⟩
  case rest=>
  obtain ⟨rfl,hx45⟩:=hcut
  obtain ⟨w5,hw5⟩:∃ z,z=wc:=⟨_,rfl⟩
  rw [←hw5] at hx45 ⊢
  have hx35:=hx3c.trans hx45
  have hx25:=hx23.trans hx35
  have HK0:=Lib.hid (show k≤R.length from by have:=HLE.out;omega)
  clear hw5
  cases hb:bb with
  | true =>
   have HSM:=Lib.hid (HBB.out.1 hb)
   clear hb
   have HI2:=Lib.hid (HI.out.next (R':=R) (by show i<(ownL S.f.z S.l.z n).length;rw [←HN.out];exact hlt) (by
    rw [←HRR.out]
    exact ⟨k,HK0.out,HA.out,HNB.out,.inl ⟨HSM.out.1,HSM.out.2,rfl⟩⟩) (by have:=HI.out.len;omega))
   go_wp2_with fail
   go_roundg (N - (i+1))
   case rel=>exact ⟨i+1,R,by omega,rfl,by go_num,hx25,Lib.hid (by rw [HLE.out] at HR ⊢;exact HR.out.ext (hx3r.trans hx35)),HI2⟩
   case measure=>omega
  | false =>
   have HNS:=Lib.hid (show ∀ hk:k<R.length,R[k].l≠r.l from fun h1 h2=>by have:=HBB.out.2 ⟨h1,h2⟩;rw [hb] at this;cases this)
   clear hb
   have h55:Ext w5 w5:=Ext.refl _
   go_wp2_with fail
   go_loopg [10,11] k (fun gg v10 v11 wm=>∃ j:Nat,j≤k∧gg=k - j∧v11=.int .i64 j∧Ext w5 wm∧Hid (Que wm w5.heap.size 1 v10 j ((R.take j).map Row.val)))
   case atStart=>exact ⟨0,by omega,rfl,rfl,h55,Lib.hid (Que.nil _ _ _)⟩
   case round=>
    rename World=>wm
    obtain ⟨j,hj,rfl,rfl,hxm,HQM⟩:=hrel
    obtain ⟨a10,c10,hu10⟩:=HQM.out.slice
    subst hu10
    clear h55
    by_cases hjk:j<k
    ·have d1:(j:Int)<(k:Int):=by omega
     have hjR:j<R.length:=by have:=HLE.out;omega
     have hjl:(j:Int)<(len:Int):=by omega
     obtain ⟨rfl,hbg,hcg⟩:=HRG.out j hjR
     have HSN:=Lib.hid (map_take_snoc R hjR)
     unfold Row.val at HSN
     obtain ⟨ya,hya⟩:∃ z,z=R[j].a:=⟨_,rfl⟩
     obtain ⟨yl,hyl⟩:∃ z,z=R[j].l.length:=⟨_,rfl⟩
     obtain ⟨yc,hyc⟩:∃ z,z=R[j].c:=⟨_,rfl⟩
     rw [←hya,←hyl,←hyc] at hcg HSN
     clear hya hyl hyc
     have hx3m:=hx35.trans hxm
     go_wp2_with (at_builtin;refine wpList_append_que _ rfl _ _ 64 64 rfl (base:=w5.heap.size) (e:=27) (size:=1) q0 (.slice none 0 0) 24 Tryz.underlying64 hq0 hr0 hr1 hr2 rfl rfl (v:=.slice a10 j c10) (n:=j) (xs:=(R.take j).map Row.val) (by exact HQM.out.ext (Ext.alloc _ _)) (by rw [World.size_alloc];have:=Ext.le hxm;omega) (.slice (some ⟨(wm).heap.size,0,none⟩) 1 1) 1 [.slice ya yl yc] rfl (by exact Src.ofSlice _ Tryz.underlying64 ⟨(wm).heap.size,0,none⟩ 1 1 _ rfl (news_ok wm _ _) (by intro u hu;simp at hu;subst hu;rfl)) (by unfold maxLen;omega) (by omega) ?_;rintro v8 w8 hq8 hg8 -;obtain ⟨a8,c8,rfl⟩:=hq8.slice;have H8:=Lib.hid hq8;have hx8:Ext w5 w8:=Below.grown (Ext.alloc' hxm _) hg8 (by rw [World.size_alloc];have:=Ext.le hxm;omega) (fun g e=>by exact HQM.out.block g e);clear hq8 hg8)
     go_roundg (k - (j+1))
     case rel=>exact ⟨j+1,by omega,rfl,by go_num,hx8,Lib.hid (by have h:=H8.out;rw [show (R.take (j+1)).map Row.val=_ from HSN.out];exact h)⟩
     case measure=>omega
    ·obtain rfl:j=k:=by omega
     go_upto_region 20 with (at_builtin;refine wpList_append_que _ rfl _ _ 64 64 rfl (base:=w5.heap.size) (e:=27) (size:=1) q0 (.slice none 0 0) 24 Tryz.underlying64 hq0 hr0 hr1 hr2 rfl rfl (v:=.slice a10 j c10) (n:=j) (xs:=(R.take j).map Row.val) (by exact HQM.out.ext (Ext.alloc _ _)) (by rw [World.size_alloc];have:=Ext.le hxm;omega) (.slice (some ⟨(wm).heap.size,0,none⟩) 1 1) 1 [.slice va n vc] rfl (by exact Src.ofSlice _ Tryz.underlying64 ⟨(wm).heap.size,0,none⟩ 1 1 _ rfl (news_ok wm _ _) (by intro u hu;simp at hu;subst hu;rfl)) (by unfold maxLen;omega) (by omega) ?_;rintro v8 w8 hq8 hg8 -;obtain ⟨a8,c8,rfl⟩:=hq8.slice;have H8:=Lib.hid hq8;have hx8:Ext w5 w8:=Below.grown (Ext.alloc' hxm _) hg8 (by rw [World.size_alloc];have:=Ext.le hxm;omega) (fun g e=>by exact HQM.out.block g e);clear hq8 hg8)
     have HM8:=Lib.hid (show Que w8 w5.heap.size 1 (.slice a8 (j+1) c8) (j+1) ((R.take j++r :: (R.drop j).take (j - j)).map Row.val) from by
      rw [Nat.sub_self,List.take_zero,List.map_append,List.map_cons,HRV.out];exact H8.out)
     have hx88:=hx8
     clear H8 HQM
     obtain ⟨k,hkj⟩:∃ k,k=j:=⟨_,rfl⟩
     rw [←hkj] at HM8 HK0 HNB HA HNS hk ⊢
     clear hkj
     go_wp2_with fail
     go_loopg [10,12] (len - k) (fun gg v10 v12 wo=>∃ j:Nat,k≤j∧j≤len∧gg=len - j∧v12=.int .i64 j∧Ext w5 wo∧Hid (Que wo w5.heap.size 1 v10 (j+1) ((R.take k++r :: (R.drop k).take (j - k)).map Row.val)))
     case atStart=>exact ⟨k,by omega,hk,rfl,rfl,hx88,HM8⟩
     case round=>
      clear HM8 hx88
      rename World=>wo
      obtain ⟨j,hkj,hj,rfl,rfl,hxo,HQO⟩:=hrel
      obtain ⟨a10,c10,hu10⟩:=HQO.out.slice
      subst hu10
      by_cases hjk:j<len
      ·have d1:(j:Int)<(len:Int):=by omega
       have hjR:j<R.length:=by have:=HLE.out;omega
       obtain ⟨rfl,hbg,hcg⟩:=HRG.out j hjR
       have HSN:=Lib.hid (show (R.take k++r :: (R.drop k).take (j+1 - k)).map Row.val=(R.take k++r :: (R.drop k).take (j - k)).map Row.val++[R[j].val] from by
        rw [drop_take_snoc R hkj hjR];simp)
       rw [show R[j].val=.slice R[j].a R[j].l.length R[j].c from rfl] at HSN
       obtain ⟨ya,hya⟩:∃ z,z=R[j].a:=⟨_,rfl⟩
       obtain ⟨yl,hyl⟩:∃ z,z=R[j].l.length:=⟨_,rfl⟩
       obtain ⟨yc,hyc⟩:∃ z,z=R[j].c:=⟨_,rfl⟩
       rw [←hya,←hyl,←hyc] at hcg HSN
       clear hya hyl hyc
       have hx3o:=hx35.trans hxo
       go_wp2_with (at_builtin;refine wpList_append_que _ rfl _ _ 64 64 rfl (base:=w5.heap.size) (e:=27) (size:=1) q0 (.slice none 0 0) 24 Tryz.underlying64 hq0 hr0 hr1 hr2 rfl rfl (v:=.slice a10 (j+1) c10) (n:=j+1) (xs:=(R.take k++r :: (R.drop k).take (j - k)).map Row.val) (by exact HQO.out.ext (Ext.alloc _ _)) (by rw [World.size_alloc];have:=Ext.le hxo;omega) (.slice (some ⟨(wo).heap.size,0,none⟩) 1 1) 1 [.slice ya yl yc] rfl (by exact Src.ofSlice _ Tryz.underlying64 ⟨(wo).heap.size,0,none⟩ 1 1 _ rfl (news_ok wo _ _) (by intro u hu;simp at hu;subst hu;rfl)) (by unfold maxLen;omega) (by omega) ?_;rintro v8 w8 hq8 hg8 -;obtain ⟨a8,c8,rfl⟩:=hq8.slice;have H8:=Lib.hid hq8;have hx8:Ext w5 w8:=Below.grown (Ext.alloc' hxo _) hg8 (by rw [World.size_alloc];have:=Ext.le hxo;omega) (fun g e=>by exact HQO.out.block g e);clear hq8 hg8)
       go_roundg (len - (j+1))
       case rel=>exact ⟨j+1,by omega,by omega,rfl,by go_num,hx8,Lib.hid (by rw [HSN.out];exact H8.out)⟩
       case measure=>omega
      ·obtain rfl:j=len:=by omega
       have HFI:=Lib.hid (show RowsQ wo w2.heap.size (.slice a10 (j+1) c10) (R.take k++r :: R.drop k) from by
        have h1:(R.drop k).take (j - k)=R.drop k:=List.take_of_length_le (by rw [List.length_drop];have:=HLE.out;omega)
        have h2:=HQO.out
        rw [h1] at h2
        have h3:(R.take k++r :: R.drop k).length=j+1:=by rw [List.length_append,List.length_cons,List.length_take,List.length_drop];have:=HLE.out;omega
        refine ⟨by rw [h3];exact h2.mono hx25.le,fun x hx=>?_⟩
        have h4:x=r∨x∈R:=by
         rcases List.mem_append.1 hx with h | h
         ·exact .inr (List.mem_of_mem_take h)
         ·rcases List.mem_cons.1 h with h | h
          ·exact .inl h
          ·exact .inr (List.mem_of_mem_drop h)
        rcases h4 with rfl | h4
        ·exact HRA.out.1.ext ((hxw3.trans hx35).trans hxo)
        ·exact (HR.out.2 x h4).ext ((hx3r.trans hx35).trans hxo))
       have HI2:=Lib.hid (HI.out.next (R':=R.take k++r :: R.drop k) (by show i<(ownL S.f.z S.l.z n).length;rw [←HN.out];exact hlt) (by
        rw [←HRR.out]
        exact ⟨k,HK0.out,HA.out,HNB.out,.inr ⟨HNS.out,rfl⟩⟩) (by rw [List.length_append,List.length_cons,List.length_take,List.length_drop];have:=HI.out.len;have:=HLE.out;omega))
       have hx2o:=hx25.trans hxo
       go_wp2_with fail
       go_roundg (N - (i+1))
       case rel=>exact ⟨i+1,_,by omega,rfl,by go_num,hx2o,HFI,HI2⟩
       case measure=>omega
end Go.Proofs.YtlfdfkbmollaaaaGreatDoor

namespace Go.Proofs.YtlfdfkbmollaaaaGreatDoor
open Go.RowKit Go.Shelf
attribute [local go_sem] Oper.semAt_some
theorem getD_snocG (G:List (List EvE)) (g:List EvE) {k:Nat} (hk:k<G.length+1):(G++[g]).getD k []=if k=G.length then g else G.getD k []:=by
 simp only [List.getD_eq_getElem?_getD]
 split
 ·next e=>subst e;simp
 ·next e=>rw [List.getElem?_append_left (by omega)]
theorem GpI.pushV {B : Nat} {G : List (List EvE)} {vg ve : Value} {NG : Nat → Value} {R : List Row} {w w' : World} (h : GpI B G vg ve NG R w) {vg' nv : Value} {g : List EvE} (hg : w.grownBy w' vg.ownBlock) (hq : Que w' B 1 vg' (G.length + 1) ((List.range G.length).map NG ++ [nv])) (ho : vg'.ownBlock = vg.ownBlock ∨ vg'.ownBlock = some w.heap.size)
    (hnv:Que w B 2 nv g.length (evCells g)) (hn1:∀ b,nv.ownBlock=some b→b<w.heap.size∧vg.ownBlock≠some b∧ve.ownBlock≠some b∧∀ k,k<G.length→(NG k).ownBlock≠some b) :
    GpI B (G++[g]) vg' ve (up NG G.length nv) R w':=by
 have hne:∀ {v:Value},(∀ b,vg.ownBlock=some b→v.ownBlock≠some b)→(∀ b,v.ownBlock=some b→b<w.heap.size)→∀ g,v.ownBlock=some g→w'.heap[g]?=w.heap[g]?:=fun h1 h2 g e=>hg.block g (h2 g e) fun e2=>h1 g e2.symm e
 have hlen:(G++[g]).length=G.length+1:=by simp
 have hl:=Que.own_lt hq (by omega)
 have hap:∀ k,k<G.length+1→∀ b,(up NG G.length nv k).ownBlock=some b→(k=G.length∧nv.ownBlock=some b)∨(k<G.length∧(NG k).ownBlock=some b):=fun k hk b e=>by
  unfold up at e
  split at e
  ·next h1=>exact .inl ⟨h1,e⟩
  ·next h1=>exact .inr ⟨by omega,e⟩
 refine ⟨by rw [hlen,map_up_snoc];exact hq,h.qe.same' hg.size (hne (fun b e=>(h.ag b e).2.1) fun b e=>(h.ae b e).1),fun k hk=>⟨?_,fun b e=>?_⟩,fun b e=>⟨hl b e,fun e2=>?_,fun k hk e2=>?_⟩,fun b e=>⟨Nat.lt_of_lt_of_le (h.ae b e).1 hg.size,fun k hk e2=>?_⟩,fun j k hj hk hjk b e e2=>?_⟩
 ·rw [hlen] at hk
  rw [getD_snocG _ _ hk]
  unfold up
  split
  ·next e=>exact hnv.same' hg.size (hne (fun b e1 e2=>(hn1 b e2).2.1 e1) fun b e=>(hn1 b e).1)
  ·next e=>exact (h.qv k (by omega)).1.same' hg.size (hne (fun b e=>(h.ag b e).2.2 k (by omega)) (h.qv k (by omega)).2)
 ·rw [hlen] at hk
  rcases hap k hk b e with ⟨_,h2⟩ | ⟨h1,h2⟩
  ·exact Nat.lt_of_lt_of_le (hn1 b h2).1 hg.size
  ·exact Nat.lt_of_lt_of_le ((h.qv k h1).2 b h2) hg.size
 ·rcases ho with h1 | h1
  ·rw [h1] at e;exact (h.ag b e).2.1 e2
  ·rw [h1] at e
   obtain rfl:w.heap.size=b:=by simpa using e
   exact absurd (h.ae _ e2).1 (Nat.lt_irrefl _)
 ·rw [hlen] at hk
  rcases ho with h1 | h1
  ·rw [h1] at e
   rcases hap k hk b e2 with ⟨_,h3⟩ | ⟨h2,h3⟩
   ·exact (hn1 b h3).2.1 e
   ·exact (h.ag b e).2.2 k h2 h3
  ·rw [h1] at e
   obtain rfl:w.heap.size=b:=by simpa using e
   rcases hap k hk _ e2 with ⟨_,h3⟩ | ⟨h2,h3⟩
   ·exact absurd (hn1 _ h3).1 (Nat.lt_irrefl _)
   ·exact absurd ((h.qv k h2).2 _ h3) (Nat.lt_irrefl _)
 ·rw [hlen] at hk
  rcases hap k hk b e2 with ⟨_,h3⟩ | ⟨h2,h3⟩
  ·exact (hn1 b h3).2.2.1 e
  ·exact (h.ae b e).2 k h2 h3
 ·rw [hlen] at hj hk
  rcases hap j hj b e with ⟨j1,h2⟩ | ⟨j1,h2⟩ <;> rcases hap k hk b e2 with ⟨k1,h4⟩ | ⟨k1,h4⟩
  ·omega
  ·exact (hn1 b h2).2.2.2 k k1 h4
  ·exact (hn1 b h4).2.2.2 j j1 h2
  ·exact h.aa j k j1 k1 hjk b h2 h4
def refG (S:SlcD) (n:Nat) (Es:List (List Nat)):List (List EvE):=Es.map fun e=>(S.own n).filter fun x=>decide (S.E n x=e)
def RgrPost (S:SlcD) (n:Nat) (w:World) (e:Ending) (w':World):Prop:=Ext w w'∧∃ vg G,e=.returned vg∧GrpQ w' w.heap.size vg G∧(∀ G',IsGrp n (S.E n) (·∈S.own n) G'→G'=G)∧GFin S n G
theorem ElI.ref {S:SlcD} {n:Nat} {R:List Row} (h:ElI S n (S.own n).length R) {G':List (List EvE)} (hG:IsGrp n (S.E n) (·∈S.own n) G'):G'=refG S n (R.map Row.l):=by
 refine hG.ref ownL_sorted (List.pairwise_map.2 h.srt) fun e=>?_
 rw [List.mem_map]
 refine (h.mem e).trans ⟨?_,?_⟩
 ·rintro ⟨j,hj,he⟩
  exact ⟨_,getD_memE hj,he⟩
 ·rintro ⟨x,hx,he⟩
  obtain ⟨j,hj,rfl⟩:=List.getElem_of_mem hx
  exact ⟨j,hj,by rw [List.getD_eq_getElem?_getD,List.getElem?_eq_getElem hj];exact he⟩
theorem ElI.fin {S:SlcD} {n:Nat} {R:List Row} (h:ElI S n (S.own n).length R) (h9:(S.own n).length≤39):GFin S n (refG S n (R.map Row.l)):=by
 refine ⟨fun g hg=>?_,fun g hg x hx=>?_,by simp only [refG,List.length_map];exact Nat.le_trans h.len h9,fun j=>?_⟩
 ·obtain ⟨e,he,rfl⟩:=List.mem_map.1 hg
  obtain ⟨r,hr,rfl⟩:=List.mem_map.1 he
  obtain ⟨y,hy,rfl⟩:=h.of r hr
  intro h0
  have:y∈(S.own n).filter fun x=>decide (S.E n x=S.E n y):=List.mem_filter.2 ⟨hy,by simp⟩
  rw [show ((S.own n).filter fun x=>decide (S.E n x=S.E n y))=[] from h0] at this
  cases this
 ·obtain ⟨e,he,rfl⟩:=List.mem_map.1 hg
  exact (List.mem_filter.1 hx).1
 ·by_cases hj:j<(refG S n (R.map Row.l)).length
  ·rw [List.getD_eq_getElem?_getD,List.getElem?_eq_getElem hj]
   simp only [refG,List.getElem_map,Option.getD_some]
   exact Nat.le_trans (List.length_filter_le _ _) h9
  ·rw [List.getD_eq_getElem?_getD,List.getElem?_eq_none (by omega)];simp
theorem refG_snoc (S:SlcD) (n:Nat) (R:List Row) {k:Nat} (hk:k<R.length):refG S n ((R.take (k+1)).map Row.l)=refG S n ((R.take k).map Row.l)++[(S.own n).filter fun x=>decide (S.E n x=R[k].l)]:=by
 rw [List.take_add_one,List.getElem?_eq_getElem hk,List.map_append]
 simp [refG]
theorem refG_len (S:SlcD) (n:Nat) (R:List Row) {k:Nat} (hk:k≤R.length):(refG S n ((R.take k).map Row.l)).length=k:=by
 simp [refG];omega
theorem filter_take_snoc {P:EvE→Bool} {l:List EvE} {i:Nat} (hi:i<l.length):(l.take (i+1)).filter P=(l.take i).filter P++(if P l[i]=true then [l[i]] else []):=by
 rw [List.take_add_one,List.getElem?_eq_getElem hi,List.filter_append]
 congr 1
 show List.filter P [l[i]]=_
 cases h:P l[i] <;> simp [h]
set_option maxHeartbeats 8000000 in
theorem rgroups_any (w : World) (T : TM) (S : SlcD) (hS : S.At w) (hO : S.GOk T.n) (hem : S.em = false) :
    Calls Tryz.prog 23 #[T.val,S.val] w (RgrPost S T.n w):=by
 obtain ⟨j0,hj0,hy0,hy1,hy2⟩:=info_parts infoEv
 obtain ⟨m0,hm0,hz0,hz1,hz2⟩:=info_parts infoEvs2
 obtain ⟨n,hn⟩:∃ n,n=T.n:=⟨_,rfl⟩
 have HS:=Lib.hid hS
 have HOWN:=Lib.hid (fun W (x:Ext w W)=>(show Calls Tryz.prog 44 #[T.val,.slice S.f.s.a S.f.s.n S.f.s.c,.slice S.l.s.a S.l.s.n S.l.s.c] W (OwnPost S.f.z S.l.z T.n W) from by
  have h1:=hS.f.num.ext x
  have h2:=hS.l.num.ext x
  rw [hO.fn] at h1 ⊢
  rw [hO.ln] at h2 ⊢
  exact rown_any W T _ _ _ _ _ _ T.n _ _ _ _ h1 h2 rfl hO.hn hO.b))
 have HEL:=Lib.hid (fun W (x:Ext w W)=>relem_any W T S (hS.ext x) hO hem)
 obtain ⟨ja,hja⟩:∃ z,z=S.j.s.a:=⟨_,rfl⟩
 have HJA:=Lib.hid hja
 have hv:S.val=.agg #[.bool false,.slice S.f.s.a S.f.s.n S.f.s.c,.slice S.l.s.a S.l.s.n S.l.s.c,.slice ja S.j.s.n S.j.s.c]:=by rw [hja,←hem]
 rw [hv] at HEL ⊢
 rw [←hn] at hO HOWN HEL ⊢
 have HO:=Lib.hid hO
 simp only [TM.val] at HOWN HEL ⊢
 rw [←hn] at HOWN HEL ⊢
 unfold RgrPost
 have hjn:=HS.out.j.s.hn
 clear hS hO hem hv hja hn
 go_enter Tryz.func23,Tryz.ntmps23
 go_upto_region 1 with fail
 refine boxed2 (w:=w) (G:=fun x=>Code.wp _ _ _ _ x) ?_
 intro w1 hx1 hs1 ⟨l0,c0,_,_⟩ ⟨l1,c1,_,_⟩
 have hx11:Ext w1 w1:=Ext.refl _
 clear hs1
 go_wp2_with fail
 go_at_call 75
 refine (HEL.out w1 hx1).mono ?_
 rintro e we ⟨hx1e,vv,R,rfl,hR,hI⟩
 obtain ⟨ra,rg,ro,rcp,rfl,hcap,hag,hget⟩:=hR.get
 have HR:=Lib.hid hR
 have HI:=Lib.hid hI
 have HGE:=Lib.hid hget
 have HAG:=Lib.hid hag
 have HF:=Lib.hid HO.out.few
 have hlen9:R.length≤39:=by have:=HI.out.len;have h2:(S.own n).length≤39:=HF.out;omega
 obtain ⟨len,hlen⟩:∃ z,z=R.length:=⟨_,rfl⟩
 have HLE:=Lib.hid hlen
 rw [←hlen] at HR hlen9 ⊢
 have hxwe:=hx1.trans hx1e
 clear hR hI hag hget hcap hlen HEL
 go_wp2_with fail
 go_loopg [6,7] len (fun gg v6 v7 wr=>∃ (k:Nat) (NG:Nat→Value),k≤len∧gg=len - k∧v7=.int .i64 k∧Ext we wr∧Hid (GpI we.heap.size (refG S n ((R.take k).map Row.l)) v6 (.slice none 0 0) NG [] wr))
 case atStart=>exact ⟨0,_,by omega,rfl,rfl,Ext.refl _,Lib.hid (GpI.start _ _)⟩
 case round=>
  obtain ⟨k,NG,hk,rfl,rfl,hxe,HG⟩:=hrel
  have hx1o:=hx1e.trans hxe
  have hxwo:=hxwe.trans hxe
  have HLG:=Lib.hid (refG_len S n R (show k≤R.length from by have:=HLE.out;omega))
  obtain ⟨ga,gc,hu6⟩:=HG.out.qg.slice
  rw [HLG.out] at hu6
  subst hu6
  by_cases hkl:k<len
  case neg=>
   obtain rfl:k=len:=by omega
   have HFI:=Lib.hid (show GrpQ wr w.heap.size (.slice ga k gc) (refG S n (R.map Row.l)) from by
    have h:=HG.out.grp
    rw [List.take_of_length_le (by have:=HLE.out;omega)] at h
    obtain ⟨NG2,h1,h2⟩:=h
    exact ⟨NG2,h1.mono hxwe.le,fun k hk=>(h2 k hk).mono hxwe.le⟩)
   go_wp2_with fail
   go_ret
   exact ⟨hxwo,_,_,rfl,HFI.out,fun G' h=>HI.out.ref h,HI.out.fin HF.out⟩
  have hkl':(k:Int)<(len:Int):=by omega
  have hkR:k<R.length:=by have:=HLE.out;omega
  obtain ⟨rfl,_,hrgl⟩:=HAG.out (by omega)
  have hcg0:=HGE.out k hkR
  obtain ⟨el,hel⟩:∃ z,z=R[k].l:=⟨_,rfl⟩
  have HEL:=Lib.hid hel
  have HKN:=Lib.hid (show NumAt we R[k].l.length R[k].a R[k].g R[k].o (natV (fn el)) from by rw [hel];exact HR.out.2 _ (List.getElem_mem hkR))
  obtain ⟨ya,hya⟩:∃ z,z=R[k].a:=⟨_,rfl⟩
  obtain ⟨yl,hyl⟩:∃ z,z=R[k].l.length:=⟨_,rfl⟩
  obtain ⟨yc,hyc⟩:∃ z,z=R[k].c:=⟨_,rfl⟩
  obtain ⟨yg,hyg⟩:∃ z,z=R[k].g:=⟨_,rfl⟩
  obtain ⟨yo,hyo⟩:∃ z,z=R[k].o:=⟨_,rfl⟩
  rw [←hya,←hyl,←hyc] at hcg0
  rw [←hya,←hyl,←hyg,←hyo] at HKN
  have HYL:=Lib.hid (show yl=el.length from by rw [hyl,hel])
  have cgk:∀ w',Ext wr w'→w'.cell? ⟨rg,ro+k,none⟩=some (.slice ya yl yc):=fun w' x=>hcg0 w' (hxe.trans x)
  have cgb:∀ w',Ext wr w'→rg<w'.heap.size:=fun w' x=>Nat.lt_of_lt_of_le hrgl (hxe.trans x).le
  clear hcg0 hel hya hyl hyc hyg hyo hrgl
  go_wp2_with fail
  go_at_call 44
  refine (HOWN.out wr hxwo).mono ?_
  rintro e w2 ⟨hxr2,a2,cp2,rfl,hq2⟩
  obtain ⟨N,hN⟩:∃ N,N=(ownL S.f.z S.l.z n).length:=⟨_,rfl⟩
  rw [←hN] at hq2 ⊢
  have HN:=Lib.hid hN
  have hN39:N≤39:=by rw [hN];exact HF.out
  have HQ2:=Lib.hid hq2
  have hxw2:=hxwo.trans hxr2
  have hx12:=hx1o.trans hxr2
  clear hN hq2
  obtain ⟨PP,hPP⟩:∃ PP:EvE→Bool,PP=fun x=>decide (S.E n x=el):=⟨_,rfl⟩
  have HPP:=Lib.hid hPP
  clear hPP
  have HFL:=Lib.hid (show ∀ i,((S.own n).take i |>.filter PP).length≤39 from fun i=>Nat.le_trans (List.length_filter_le _ _) (Nat.le_trans (by rw [List.length_take];exact Nat.min_le_right _ _) HF.out))
  go_wp2_with fail
  go_loopg [8,10] N (fun gg v8 v10 wi=>∃ i:Nat,i≤N∧gg=N - i∧v10=.int .i64 i∧Ext w2 wi∧Hid (Que wi w2.heap.size 2 v8 (((S.own n).take i).filter PP).length (evCells (((S.own n).take i).filter PP)))∧Hid (∀ b,v8.ownBlock=some b→b<wi.heap.size))
  case atStart=>exact ⟨0,by omega,rfl,rfl,Ext.refl _,Lib.hid (Que.nil _ _ _),Lib.hid (fun b e=>(by cases e))⟩
  case round=>
   rename World=>wi
   obtain ⟨i,hi,rfl,rfl,hxi,HQ8,HO8⟩:=hrel
   obtain ⟨a8,c8,hu8⟩:=HQ8.out.slice
   have HL8:=Lib.hid (HFL.out i)
   obtain ⟨L8,hL8⟩:∃ z,z=(((S.own n).take i).filter PP).length:=⟨_,rfl⟩
   rw [←hL8] at HQ8 hu8 HL8
   subst hu8
   have hL89:L8≤39:=HL8.out
   have HLE8:=Lib.hid hL8
   clear hL8
   have hx1i:=hx12.trans hxi
   have hxri:=hxr2.trans hxi
   have hxwi:=hxw2.trans hxi
   have hx2i:=hxi
   by_cases hlt:i<N
   case neg=>
    obtain rfl:i=N:=by omega
    have HGX:=Lib.hid (HG.out.ext hxri)
    have hqg:=HGX.out.qg
    rw [HLG.out] at hqg
    have hszi:we.heap.size≤wi.heap.size:=(hxe.trans hxri).le
    have HQF:=Lib.hid (show Que wi we.heap.size 2 (.slice a8 L8 c8) ((S.own n).filter PP).length (evCells ((S.own n).filter PP)) from by
     have h:=HQ8.out
     have e1:(S.own n).take i=S.own n:=List.take_of_length_le (by rw [HN.out];exact Nat.le_refl _)
     rw [e1] at h
     have h2:=HLE8.out
     rw [e1] at h2
     rw [←h2];exact h.mono (hxe.trans hxr2).le)
    have HNB:=Lib.hid (show ∀ b,(Value.slice a8 L8 c8).ownBlock=some b→wr.heap.size≤b from fun b e=>Nat.le_trans hxr2.le (HQ8.out.block b e))
    have HVG:=Lib.hid (show ∀ b,(Value.slice ga k gc).ownBlock=some b→we.heap.size≤b∧b<wr.heap.size from fun b e=>⟨hqg.block b e,(HG.out.ag b e).1⟩)
    go_upto_region 5 with (at_builtin;refine wpList_append_que _ rfl _ _ 46 46 rfl (base:=we.heap.size) (e:=68) (size:=1) m0 (.slice none 0 0) 24 Tryz.underlying46 hm0 hz0 hz1 hz2 rfl rfl (v:=.slice ga k gc) (n:=k) (xs:=(List.range k).map NG) (by exact hqg.ext (Ext.alloc _ _)) (by rw [World.size_alloc];omega) (.slice (some ⟨wi.heap.size,0,none⟩) 1 1) 1 [.slice a8 L8 c8] rfl (by exact Src.ofSlice _ Tryz.underlying46 ⟨wi.heap.size,0,none⟩ 1 1 _ rfl (news_ok wi _ _) (by intro u hu;simp at hu;subst hu;rfl)) (by unfold maxLen;omega) (by omega) ?_;rintro v9 w9 hq9 hg9 ho9;obtain ⟨a9,c9,rfl⟩:=hq9.slice)
    have hx9:Ext we w9:=Below.grown (Ext.alloc' (hxe.trans hxri) _) hg9 (by rw [World.size_alloc];omega) (fun g e=>(HVG.out g e).1)
    have HG9:=Lib.hid (show GpI we.heap.size (refG S n ((R.take (k+1)).map Row.l)) (.slice a9 (k+1) c9) (.slice none 0 0) (up NG k (.slice a8 L8 c8)) [] w9 from by
     rw [refG_snoc S n R hkR,←HEL.out,←HPP.out]
     have h:=GpI.pushV (g:=(S.own n).filter PP) (nv:=.slice a8 L8 c8) (HGX.out.ext (Ext.alloc wi (.cells #[.slice a8 L8 c8] 68))) hg9 (by rw [HLG.out];exact hq9) ho9 (HQF.out.ext (Ext.alloc _ _)) (fun b e=>by
      have h1:=HNB.out b e
      refine ⟨?_,fun e2=>?_,fun e2=>(by cases e2),fun j hj e2=>?_⟩
      ·rw [World.size_alloc];exact Nat.lt_succ_of_lt (HO8.out b e)
      ·have:=HVG.out b e2;omega
      ·have:=(HG.out.qv j hj).2 b e2;omega)
     rw [HLG.out] at h;exact h)
    clear hqg hq9 hg9 ho9
    go_wp2_with fail
    go_roundg (len - (k+1))
    case rel=>exact ⟨k+1,_,by omega,rfl,by go_num,hx9,HG9⟩
    case measure=>omega
   have hlt':(i:Int)<(N:Int):=by omega
   obtain ⟨g2,o2,cp2',ha2,_,hg2,_,hc2⟩:=HQ2.out.shape (by omega)
   obtain rfl:a2=some ⟨g2,o2,none⟩:=by cases ha2;rfl
   have HHAS:=Lib.hid (HO.out.has _ (getD_memE (l:=ownL S.f.z S.l.z n) (k:=i) (by rw [←HN.out];exact hlt)))
   obtain ⟨p,q,hxe,hp,hq,hrn,hvb⟩:=HHAS.out
   obtain ⟨xi,hxi⟩:∃ z,z=(q:Int)+1:=⟨_,rfl⟩
   have hgd:(ownL S.f.z S.l.z n)[i]'(by rw [←HN.out];exact hlt)=((p:Int),xi):=by
    have h1:=hxe
    rw [List.getD_eq_getElem?_getD,List.getElem?_eq_getElem (by rw [←HN.out];exact hlt)] at h1
    rw [hxi];exact h1
   have HGD:=Lib.hid hgd
   have e0:∀ w',Ext w2 w'→w'.cell? ⟨g2,o2+i*2,none⟩=some (.int .i64 p):=fun w' x=>x.cell (by rw [hc2 (i*2) (by omega),evCells_get0 _ i (by rw [←HN.out];exact hlt),hgd])
   have e1:∀ w',Ext w2 w'→w'.cell? ⟨g2,o2+i*2+1,none⟩=some (.int .i64 xi):=fun w' x=>x.cell (by rw [Nat.add_assoc,hc2 (i*2+1) (by omega),evCells_get1 _ i (by rw [←HN.out];exact hlt),hgd])
   have eb:∀ w',Ext w2 w'→g2<w'.heap.size:=fun w' x=>Nat.lt_of_lt_of_le hg2 x.le
   have hM:=(HS.out.j.c p hp).2.at'
   have hnm:=hM.hn
   have hp':(p:Int)<(S.j.s.n:Int):=by omega
   have hq':(q:Int)<((S.j.m p).n:Int):=by omega
   have hb1:∀ w',Ext w w'→S.j.s.b<w'.heap.size:=fun w' x=>Nat.lt_of_lt_of_le (HS.out.j.s.hb (by omega)) x.le
   have hb2:=hM.pb (by omega)
   have k1:∀ w',Ext w w'→w'.cell? ⟨S.j.s.b,S.j.s.o+p,none⟩=some (.slice (some ⟨(S.j.m p).b,(S.j.m p).off,none⟩) (S.j.m p).n (S.j.m p).cap):=fun w' x=>by
    rw [←hM.pa (by omega)];exact x.cell (HS.out.j.c p hp).1
   have k2:∀ w',Ext w w'→w'.cell? ⟨(S.j.m p).b,(S.j.m p).off+q,none⟩=some (.slice ((S.j.m p).ra q) ((S.j.m p).rn q) ((S.j.m p).rc q)):=fun w' x=>hM.p0 w' x q hq
   have hxw:IntKind.i64.wrap (xi - 1)=(q:Int):=by rw [IntWalk.i64_in _ (by omega)];omega
   have hxs:xi - 1=(q:Int):=by omega
   have hqw:IntKind.i64.wrap (q:Int)=(q:Int):=IntWalk.i64_in _ (by omega)
   have HRA:=Lib.hid (SlcD.row_at HS.out HHAS.out)
   have hrv:=HRA.out.2
   have hrow:(S.row n ((ownL S.f.z S.l.z n).getD i (0,0))).val=.slice ((S.j.m p).ra q) n ((S.j.m p).rc q):=by
    rw [hrv,hxe];simp only [Int.toNat_natCast];rw [show ((q:Int)+1).toNat - 1=q by omega]
   obtain ⟨r,hr⟩:∃ r,r=S.row n ((ownL S.f.z S.l.z n).getD i (0,0)):=⟨_,rfl⟩
   rw [hrn] at k2
   rw [←hr] at hrow HRA
   have HRR:=Lib.hid hr
   have HRK:=Lib.hid (show RowOk n r from by rw [hr];exact SlcD.row_ok HO.out.hn HHAS.out)
   obtain ⟨va,hva⟩:∃ z,z=(S.j.m p).ra q:=⟨_,rfl⟩
   obtain ⟨vc,hvc⟩:∃ z,z=(S.j.m p).rc q:=⟨_,rfl⟩
   rw [←hva,←hvc] at hrow k2
   have HRV:=Lib.hid hrow
   have HVA:=Lib.hid (show r.a=va∧r.c=vc∧r.l.length=n from by
    have h1:=hrow
    unfold Row.val at h1
    simp only [Value.slice.injEq] at h1
    exact ⟨h1.1,h1.2.2,h1.2.1⟩)
   obtain rfl:ja=some ⟨S.j.s.b,S.j.s.o,none⟩:=by rw [HJA.out];exact HS.out.j.s.ha (by omega)
   generalize (S.j.m p).n=nm at *
   generalize (S.j.m p).b=bm at *
   generalize (S.j.m p).off=om at *
   generalize (S.j.m p).cap=cm at *
   clear hc2 ha2 hxe hgd hM hrn hvb hrow hrv hr hva hvc hxi
   have hgd0:∀ d os,Ext wi (Sort.grow (redrawn wi d) os):=fun d os=>below_regrown wi d os
   have hgdA:∀ d os,Ext w (Sort.grow (redrawn wi d) os):=fun d os=>hxwi.trans (below_regrown wi d os)
   have hgdB:∀ d os,Ext w1 (Sort.grow (redrawn wi d) os):=fun d os=>hx1i.trans (below_regrown wi d os)
   have hgdC:∀ d os,Ext w2 (Sort.grow (redrawn wi d) os):=fun d os=>hxi.trans (below_regrown wi d os)
   have hgdD:∀ d os,Ext wr (Sort.grow (redrawn wi d) os):=fun d os=>hxri.trans (below_regrown wi d os)
   obtain ⟨bb,hbb⟩:=exists_bool (r.l=el)
   have HSA:=Lib.hid (fun W (x:Ext w W) (y:Ext we W)=>bool_fix (show Calls Tryz.prog 76 #[.slice va n vc,.slice ya yl yc] W (BoolPost (r.l=el) W) from by
    have h2:=HKN.out.ext y
    have h3:=HRA.out.1.ext x
    unfold Row.At at h3
    rw [HVA.out.2.2,HVA.out.1] at h3
    refine (same36_any W va ya r.g r.o yg yo n yl vc yc (natV (fn r.l)) (natV (fn el)) h3 h2).mono ?_
    rintro e w' ⟨b,he,hb,hx⟩
    refine ⟨b,he,hb.trans ⟨fun h=>fn_ext (by rw [HVA.out.2.2,←HYL.out];exact h.1) fun p hp=>Int.ofNat.inj (h.2 p (by rw [←HVA.out.2.2];exact hp)),fun h=>by rw [h];exact ⟨by rw [←HVA.out.2.2,h,←HYL.out],fun _ _=>rfl⟩⟩,hx⟩) hbb)
   have HBB:=Lib.hid hbb
   clear hbb
   have HFS:=Lib.hid (filter_take_snoc (P:=PP) (l:=S.own n) (i:=i) (by show i<(ownL S.f.z S.l.z n).length;rw [←HN.out];exact hlt))
   have HPB:=Lib.hid (show PP ((S.own n)[i]'(by show i<(ownL S.f.z S.l.z n).length;rw [←HN.out];exact hlt))=bb from by
    rw [HPP.out,Bool.eq_iff_iff,decide_eq_true_iff,HBB.out,HRR.out]
    show S.E n _=el↔S.E n _=el
    rw [List.getD_eq_getElem?_getD,List.getElem?_eq_getElem (by rw [←HN.out];exact hlt)];rfl)
   go_upto_region 11 with fail
   refine wp_region_quiet_below (by kernel_rfl) (by kernel_rfl) ?_
   repeat (go_big_quiet_step (exact Calls.regrown_of (HSA.out _ (hgdA _ _) (hxe.trans (hgdD _ _)))))
   refine wpQuiet_nil ?_
   intro _ hw'
   obtain ⟨⟨dq,osq⟩,hw''⟩:=hw'
   subst hw''
   have hx3r:=hgd0 dq osq
   clear hgd0 hgdA hgdB hgdC hgdD k1 k2 hb1 hb2 hxw hxs hqw hp' hq'
   generalize Sort.grow (redrawn wi dq) osq=w3 at hx3r ⊢
   have hx23:=hxi.trans hx3r
   have HQ9:=Lib.hid (HQ8.out.ext hx3r)
   cases hb:bb with
   | false =>
    have HFS2:=Lib.hid (show ((S.own n).take (i+1)).filter PP=((S.own n).take i).filter PP from by rw [HFS.out,HPB.out,hb];simp)
    clear hb
    go_wp2_with fail
    go_roundg (N - (i+1))
    case rel=>exact ⟨i+1,by omega,rfl,by go_num,hx23,Lib.hid (by rw [HFS2.out,←HLE8.out];exact HQ9.out),Lib.hid (fun b e=>Nat.lt_of_lt_of_le (HO8.out b e) hx3r.le)⟩
    case measure=>omega
   | true =>
    have HFS2:=Lib.hid (show ((S.own n).take (i+1)).filter PP=((S.own n).take i).filter PP++[((p:Int),xi)] from by rw [HFS.out,HPB.out,hb,if_pos rfl];exact congrArg (_++[·]) HGD.out)
    clear hb
    have hszi:=hx23.le
    have h33:Ext w3 w3:=Ext.refl _
    go_upto_region 10 with (at_builtin;refine wpList_append_que _ rfl _ _ 68 68 rfl (base:=w2.heap.size) (e:=70) (size:=2) j0 (.agg #[.int .i64 0,.int .i64 0]) 16 Tryz.underlying68 hj0 hy0 hy1 hy2 rfl rfl (v:=.slice a8 L8 c8) (n:=L8) (xs:=evCells (((S.own n).take i).filter PP)) (by exact HQ9.out.ext (Ext.alloc _ _)) (by rw [World.size_alloc];omega) (.slice (some ⟨w3.heap.size,0,none⟩) 1 1) 1 [.int .i64 p,.int .i64 xi] rfl (by exact Src.ofSlice _ Tryz.underlying68 ⟨w3.heap.size,0,none⟩ 1 1 _ rfl (news_ok w3 _ _) (by intro u hu;simp at hu;rcases hu with rfl | rfl <;> rfl)) (by unfold maxLen;omega) (by omega) ?_;rintro v9 w9 hq9 hg9 -;obtain ⟨a9,c9,rfl⟩:=hq9.slice;have H9:=Lib.hid hq9;have HO9:=Lib.hid (Que.own_lt hq9 (by omega));have hx9:Ext w2 w9:=Below.grown (Ext.alloc' hx23 _) hg9 (by rw [World.size_alloc];omega) (fun g e=>by exact HQ9.out.block g e);clear hq9 hg9)
    go_wp2_with fail
    go_roundg (N - (i+1))
    case rel=>exact ⟨i+1,by omega,rfl,by go_num,hx9,Lib.hid (by rw [HFS2.out,List.length_append,←HLE8.out,evCells_snoc];exact H9.out),HO9⟩
    case measure=>omega
end Go.Proofs.YtlfdfkbmollaaaaGreatDoor
