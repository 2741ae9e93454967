/- Contracts and laws in plain Lean for RApp: group T84. -/
import Derived.Test.YtlfdfkbmollaaaaGreatDoorT78
import Derived.Test.YtlfdfkbmollaaaaGreatDoorT80
import Derived.Test.YtlfdfkbmollaaaaGreatDoorT83
import Derived.Test.YtlfdfkbmollaaaaGreatDoorT79
namespace Go.Proofs.YtlfdfkbmollaaaaGreatDoor
open Go.RowKit Go.Shelf
theorem own36 {S:SlcD} (h:S.Is sl36):S.own ex36.n=[(0,1),(1,1)]:=by
 have f0:S.f.z 0=0:=h.fz 0 (by decide)
 have f1:S.f.z 1=0:=h.fz 1 (by decide)
 have l0:S.l.z 0=1:=h.lz 0 (by decide)
 have l1:S.l.z 1=1:=h.lz 1 (by decide)
 show ([]++ownP S.f.z 0 (S.l.z 0 - S.f.z 0).toNat)++ownP S.f.z 1 (S.l.z 1 - S.f.z 1).toNat=_
 unfold ownP
 rw [f0,f1,l0,l1];rfl
theorem gp36:∀ p,p<2→sl36.j.getD p []=[[1,1]]:=fun p hp=>by rcases lt2S hp with rfl | rfl <;> rfl
theorem val36 {S:SlcD} (h:S.Is sl36) {p q:Nat} (hp:p<2) (hq:q<2):(S.j.m p).val 0 q=1:=by
 rw [h.vz p 0 q hp (by rw [gp36 p hp];decide) (by rw [gp36 p hp];exact hq),gp36 p hp];exact gi36.2 q hq
theorem elm36 {S:SlcD} (h:S.Is sl36) {p:Nat} (hp:p<2):S.E 2 ((p:Int),((0:Nat):Int)+1)=[1,1]:=by
 rw [S.E_at]
 unfold rowOf
 show [((S.j.m p).val 0 0).toNat,((S.j.m p).val 0 1).toNat]=_
 rw [val36 h hp (by decide),val36 h hp (by decide)];rfl
theorem elm36' {S:SlcD} (h:S.Is sl36):S.E 2 (0,1)=[1,1]∧S.E 2 (1,1)=[1,1]:=⟨elm36 h (p:=0) (by decide),elm36 h (p:=1) (by decide)⟩
theorem text36 {S:SlcD} (h:S.Is sl36):textL ex36 S=tx36:=by
 have i0:Lib.itoa 0=[48]:=itoa_dig1 0 (by decide)
 have i1:Lib.itoa 1=[49]:=itoa_dig1 1 (by decide)
 have f0:S.f.z 0=0:=h.fz 0 (by decide)
 have f1:S.f.z 1=0:=h.fz 1 (by decide)
 have l0:S.l.z 0=1:=h.lz 0 (by decide)
 have l1:S.l.z 1=1:=h.lz 1 (by decide)
 have e1:vL S.f.z 2=[0,0]:=by show [S.f.z 0,S.f.z 1]=_;rw [f0,f1]
 have e2:vL S.l.z 2=[1,1]:=by show [S.l.z 0,S.l.z 1]=_;rw [l0,l1]
 have e3:vL (natV (fn [1,1])) 2=[1,1]:=by rfl
 have c0:cntL [0,0]=[32,48,32,48]:=by unfold cntL;rw [i0];unfold cntL;rw [i0];rfl
 have c1:cntL [1,1]=[32,49,32,49]:=by unfold cntL;rw [i1];unfold cntL;rw [i1];rfl
 have m1:lineL ex36 S 2 (0,1)=[97,46,49,32,49,32,49,10]:=by
  unfold lineL;rw [(elm36' h).1,e3,c1,evN36.1];rfl
 have m2:lineL ex36 S 2 (1,1)=[98,46,49,32,49,32,49,10]:=by
  unfold lineL;rw [(elm36' h).2,e3,c1,evN36.2];rfl
 unfold textL headL linesL
 rw [own36 h]
 show ([102,105,114,115,116]++cntL (vL S.f.z 2)++[10]++([108,97,115,116]++cntL (vL S.l.z 2)++[10]))++([lineL ex36 S 2 (0,1),lineL ex36 S 2 (1,1)]).flatten=_
 rw [e1,e2,c0,c1,m1,m2];rfl
theorem grp36 {S:SlcD} (h:S.Is sl36) {G:List (List EvE)} (hG:IsGrp ex36.n (S.E ex36.n) (·∈S.own ex36.n) G):G=[[(0,1),(1,1)]]:=by
 obtain ⟨e0,e1⟩:=elm36' h
 have hr:=hG.ref (O:=S.own ex36.n) ownL_sorted (Es:=[[1,1]]) (by simp) fun e=>by
  rw [own36 h]
  constructor
  ·intro he
   obtain rfl:e=[1,1]:=by simpa using he
   exact ⟨(0,1),by simp,e0⟩
  ·rintro ⟨x,hx,rfl⟩
   simp only [List.mem_cons,List.not_mem_nil,or_false] at hx
   rcases hx with rfl | rfl
   ·rw [show S.E ex36.n (0,1)=[1,1] from e0];simp
   ·rw [show S.E ex36.n (1,1)=[1,1] from e1];simp
 rw [hr,own36 h]
 show [List.filter (fun x=>decide (S.E 2 x=[1,1])) [(0,1),(1,1)]]=_
 simp [e0,e1]
def x36TM (g0 gp:Nat):TM:=
 { ex36 with
  a:=some ⟨gp,0,none⟩,b:=gp,off:=0,cap:=2
  va:=fun _=>none,vb:=fun _=>0,vo:=fun _=>0,vc:=fun _=>0
  ea:=fun _=>some ⟨g0,0,none⟩,eb:=fun _=>g0,eo:=fun _=>0,ec:=fun _=>1
  aa:=fun _ _=>none,ab:=fun _ _=>0,ao:=fun _ _=>0,ac:=fun _ _=>0 }
theorem okI_36:okI 0∧okI 1:=by unfold okI;decide
theorem x36TM_at {g0 gp : Nat} {w : World} (h0 : Hold w g0 #[.int .i64 1, .int .i64 0, .int .i64 0, .int .i64 0, .slice none 0 0])
    (hp:Hold w gp #[.string ⟨#[97]⟩,.slice none 0 0,.slice (some ⟨g0,0,none⟩) 1 1,.string ⟨#[98]⟩,.slice none 0 0,.slice (some ⟨g0,0,none⟩) 1 1]):(x36TM g0 gp).At w:=by
 have b0:=h0.box
 have bp:=hp.box
 have hi0:∀ k i,i<(x36TM g0 gp).en k→i=0:=fun k i hi=>by
  have:i<1:=hi
  omega
 refine ⟨⟨by show (2:Nat)≤_;decide,by show (2:Nat)≤2;decide,fun _=>rfl,fun _=>bp.lt,?_,?_,?_⟩,⟨fun _ _=>by show (0:Nat)≤_;decide,fun _ _=>Nat.le_refl _,fun _ _ h=>absurd h (Nat.not_lt_zero _),fun _ _ h=>absurd h (Nat.not_lt_zero _),fun _ _ _ _ _ h=>absurd h (Nat.not_lt_zero _),fun _ _ _ _ _ h=>absurd h (Nat.not_lt_zero _)⟩,
  ⟨fun k hk=>by show (1:Nat)≤_;decide,fun k hk=>Nat.le_refl _,fun k hk _=>rfl,fun k hk _=>b0.lt,?_,?_,?_,?_,?_⟩,⟨fun _ _ _ _=>by show (0:Nat)≤_;decide,fun _ _ _ _=>Nat.le_refl _,fun _ _ _ _ h=>absurd h (Nat.not_lt_zero _),fun _ _ _ _ h=>absurd h (Nat.not_lt_zero _),fun _ _ _ _ _ _ _ h=>absurd h (Nat.not_lt_zero _),fun _ _ _ _ _ _ _ h=>absurd h (Nat.not_lt_zero _)⟩,?_⟩
 ·intro w' x k hk
  rcases lt2S hk with rfl | rfl
  ·exact bp.cell w' x 0
  ·exact bp.cell w' x 3
 ·intro w' x k hk
  rcases lt2S hk with rfl | rfl
  ·exact bp.cell w' x 1
  ·exact bp.cell w' x 4
 ·intro w' x k hk
  rcases lt2S hk with rfl | rfl
  ·exact bp.cell w' x 2
  ·exact bp.cell w' x 5
 ·intro w' x k i hk hi
  obtain rfl:=hi0 k i hi
  exact b0.cell w' x 0
 ·intro w' x k i hk hi
  obtain rfl:=hi0 k i hi
  exact b0.cell w' x 1
 ·intro w' x k i hk hi
  obtain rfl:=hi0 k i hi
  exact b0.cell w' x 2
 ·intro w' x k i hk hi
  obtain rfl:=hi0 k i hi
  exact b0.cell w' x 3
 ·intro w' x k i hk hi
  obtain rfl:=hi0 k i hi
  exact b0.cell w' x 4
 ·exact ⟨fun k hk=>by rcases lt2S hk with rfl | rfl <;> (show (1:Nat)≤_;decide),fun _ _ _ h=>absurd h (Nat.not_lt_zero _),fun _ _ _ h=>absurd h (Nat.not_lt_zero _),fun k i hk hi=>okI_36.2,fun k i hk hi=>okI_36.1,fun k i hk hi=>okI_36.1,fun _ _ _ _=>okI_36.1,fun _ _ _ _ _ h=>absurd h (Nat.not_lt_zero _),fun _ _ _ _ _ h=>absurd h (Nat.not_lt_zero _)⟩
theorem Que.ofHold {w:World} {B g n:Nat} {xs:List Value} (h:Hold w g xs.toArray) (hb:B≤g) (hl:xs.length=n) (hn:n≤1000):Que w B 1 (.slice (some ⟨g,0,none⟩) n n) n xs:=by
 have hbx:=h.box
 refine ⟨by omega,.inr ⟨g,0,n,rfl,hb,h.lt,Nat.le_refl _,by unfold maxLen;omega,fun j hj=>?_,fun j hj=>⟨?_,hbx.frozen w (Ext.refl _) _⟩⟩⟩
 ·rw [Nat.zero_add,hbx.cell w (Ext.refl _) j];simp
 ·rw [Nat.zero_add,hbx.cell w (Ext.refl _) j]
  have:j<xs.length:=by omega
  simp [this]
theorem slc36 {w : World} {B f l r1 m1 r2 m2 j : Nat} (hf : Hold w f #[.int .i64 0, .int .i64 0]) (hl : Hold w l #[.int .i64 1, .int .i64 1]) (h1 : Hold w r1 #[.int .i64 1, .int .i64 1]) (k1 : Hold w m1 #[.slice (some ⟨r1, 0, none⟩) 2 2]) (h2 : Hold w r2 #[.int .i64 1, .int .i64 1]) (k2 : Hold w m2 #[.slice (some ⟨r2, 0, none⟩) 2 2])
    (hj:Hold w j #[.slice (some ⟨m1,0,none⟩) 1 1,.slice (some ⟨m2,0,none⟩) 1 1]) (hB:B≤f∧B≤l∧B≤r1∧B≤m1∧B≤r2∧B≤m2∧B≤j) (hn:m1≠m2∧r1≠m1∧r1≠m2∧r2≠m1∧r2≠m2) :
    ∃ S:SlcD,Value.agg #[.bool false,.slice (some ⟨f,0,none⟩) 2 2,.slice (some ⟨l,0,none⟩) 2 2,.slice (some ⟨j,0,none⟩) 2 2]=S.val∧S.Is sl36∧S.At w:=by
 obtain ⟨b1,b2,b3,b4,b5,b6,b7⟩:=hB
 obtain ⟨n1,n2,n3,n4,n5⟩:=hn
 have hok:okI 0∧okI 1:=okI_36
 have gok:∀ p i q,okI (gi ((sl36.j.getD p []).getD i []) q):=fun p i q=>by
  rcases p with _ | _ | p
  ·rcases i with _ | i
   ·rcases q with _ | _ | q
    ·exact hok.2
    ·exact hok.2
    ·exact hok.1
   ·exact hok.1
  ·rcases i with _ | i
   ·rcases q with _ | _ | q
    ·exact hok.2
    ·exact hok.2
    ·exact hok.1
   ·exact hok.1
  ·exact hok.1
 refine slc_of (B:=B) (F:=[0,0]) (L:=[1,1]) (J:=[[[1,1]],[[1,1]]]) (RB:=fun p=>if p=0 then m1 else m2) (EV:=fun p _=>if p=0 then .slice (some ⟨r1,0,none⟩) 2 2 else .slice (some ⟨r2,0,none⟩) 2 2) (M:=fun _=>False) (Que.ofHold hf b1 rfl (by decide)) (Que.ofHold hl b2 rfl (by decide)) (Que.ofHold hj b7 rfl (by decide)) ⟨fun p hp=>?_,fun p i hp hi=>?_,fun p q hp hq e=>?_,fun p hp h=>h⟩ (by decide) (by decide) (by decide) (fun p hp=>?_) (fun p i hp hi=>?_) (fun i hi=>?_) (fun i hi=>?_) gok
 ·rcases lt2S hp with rfl | rfl
  ·exact ⟨b4,k1⟩
  ·exact ⟨b6,k2⟩
 ·rcases lt2S hp with rfl | rfl
  ·have hi':i<1:=hi
   obtain rfl:i=0:=by omega
   exact ⟨Que.ofHold h1 b3 rfl (by decide),.inr fun g e=>by
    obtain rfl:r1=g:=by simpa [Value.ownBlock] using e
    exact ⟨fun h=>h,fun q hq e2=>by rcases lt2S hq with rfl | rfl <;> simp at e2 <;> omega,h1.lt⟩⟩
  ·have hi':i<1:=hi
   obtain rfl:i=0:=by omega
   exact ⟨Que.ofHold h2 b5 rfl (by decide),.inr fun g e=>by
    obtain rfl:r2=g:=by simpa [Value.ownBlock] using e
    exact ⟨fun h=>h,fun q hq e2=>by rcases lt2S hq with rfl | rfl <;> simp at e2 <;> omega,h2.lt⟩⟩
 ·rcases lt2S hp with rfl | rfl <;> rcases lt2S hq with rfl | rfl
  ·rfl
  ·exact absurd e (by simpa using n1)
  ·exact absurd e (by simpa using fun h=>n1 h.symm)
  ·rfl
 ·rcases lt2S hp with rfl | rfl <;> decide
 ·rcases lt2S hp with rfl | rfl
  ·have hi':i<1:=hi
   obtain rfl:i=0:=by omega
   decide
  ·have hi':i<1:=hi
   obtain rfl:i=0:=by omega
   decide
 ·rcases lt2S hi with rfl | rfl <;> exact hok.1
 ·rcases lt2S hi with rfl | rfl <;> exact hok.2
attribute [local go_sem] Oper.semAt_some
theorem rest36:restE (readP ex36 tx36).2=⟨[],4,0,0,0⟩:=by
 rw [ex36_read]
 exact if_neg fun h=>h.2 rfl
set_option maxRecDepth 100000 in
set_option maxHeartbeats 4000000 in
theorem awake36_any (w:World) (hW:LibB w):Calls Tryz.prog 8 #[] w fun e w'=>e=.returned (.bool true)∧Ext w w':=by
 have HLW:=Lib.hid (fun W (x:Ext w W)=>hW.ext x)
 clear hW
 go_enter Tryz.func8,Tryz.ntmps8
 go_upto_region 3 with fail
 refine boxed3 (w:=w) (G:=fun x=>Code.wp _ _ _ _ x) ?_
 intro w1 hx1 hs1 ⟨_,_,_,k0⟩ ⟨_,_,_,k1⟩ ⟨l2,c2,_,_⟩
 have HA1:=Lib.hid (show (x36TM w.heap.size (w.heap.size+1)).At w1 from x36TM_at k0 k1)
 have h11:Ext w1 w1:=Ext.refl _
 have hs1':w1.heap.size=w.heap.size+1+1+1:=hs1
 clear k0 k1 hs1
 go_upto_region 4 with fail
 refine boxed8 (w:=w1) (G:=fun x=>Code.wp _ _ _ _ x) ?_
 rw [hs1']
 intro w2 hx12 _ ⟨_,_,_,j1⟩ ⟨_,_,_,j2⟩ ⟨_,_,_,j3⟩ ⟨_,_,_,j4⟩ ⟨_,_,_,j5⟩ ⟨_,_,_,j6⟩ ⟨_,_,_,j7⟩ ⟨l3,c3,_,_⟩
 have hxw2:=hx1.trans hx12
 obtain ⟨S,hSv,hSi,hSa⟩:=slc36 (B:=0) j1 j2 j3 j4 j5 j6 j7 (by omega) (by omega)
 have HSV:=Lib.hid hSv
 have HSI:=Lib.hid hSi
 have HSA:=Lib.hid hSa
 have h22:Ext w2 w2:=Ext.refl _
 have HA2:=Lib.hid (HA1.out.ext hx12)
 clear j1 j2 j3 j4 j5 j6 j7 hSv hSi hSa
 obtain ⟨T,hT⟩:∃ T,T=x36TM w.heap.size (w.heap.size+1):=⟨_,rfl⟩
 have HTT:=Lib.hid (show T.toTr=ex36 from by rw [hT];rfl)
 have h24:tot T.en T.n≤39:=by rw [hT];show tot (fun _=>1) 2≤39;decide
 have HTV:=Lib.hid (show T.val=.agg #[.slice (some ⟨w.heap.size+1,0,none⟩) 2 2] from by rw [hT];rfl)
 rw [←hT] at HA2
 have HOK:=Lib.hid (show S.Ok T.toTr from by rw [HTT.out];exact ex36_ok HSI.out)
 have HTX:=Lib.hid (fun W (x:Ext w2 W)=>text_any W (HLW.out W (hxw2.trans x)) T (HA2.out.ext x) S (HSA.out.ext x) h24)
 have HPA:=Lib.hid (fun W (x:Ext w2 W)=>parse_any W (HLW.out W (hxw2.trans x)) T (HA2.out.ext x) tx36)
 have HGR:=Lib.hid (fun W (x:Ext w2 W)=>groups_any W T (HA2.out.ext x) S (HSA.out.ext x) h24)
 rw [HTV.out,←HSV.out] at HTX HGR
 rw [HTV.out] at HPA
 clear hT h24
 go_upto_region 5 with (go_at_call 15;refine (HTX.out w2 h22).mono ?_;rintro e w3 ⟨hx23,hp⟩;obtain rfl:e=.returned (.tuple #[.string (bts tx36),.int .i64 0]):=(by
  rcases hp with ⟨h,_⟩ | ⟨_,h,_⟩ | ⟨_,_,_,h⟩
  ·exact absurd HOK.out h
  ·rw [HSI.out.em] at h;cases h
  ·rw [h,HTT.out,text36 HSI.out];exact congrArg Ending.returned (if_neg (by decide)));clear hp)
 have h33:Ext w3 w3:=Ext.refl _
 have hx13:=hx12.trans hx23
 go_wp2_with fail
 go_at_call 10
 refine Calls.mono (show Calls _ _ #[.agg #[.slice (some ⟨w.heap.size+1,0,none⟩) 2 2],.string (bts tx36)] _ _ from HPA.out w3 hx23) ?_
 rintro e w4 ⟨hx34,hp⟩
 obtain ⟨S',hi,ha,rfl⟩:∃ S':SlcD,S'.Is sl36∧S'.At w4∧e=.returned (.tuple #[S'.val,posV 0 0,.int .i64 0]):=(by
  rw [HTT.out] at hp
  rcases hp with ⟨h,_⟩ | ⟨_,h,_⟩ | ⟨_,_,h,_⟩ | ⟨_,_,_,S',h1,h2,h3⟩
  ·exact absurd ex36_valid h
  ·exact absurd h (by decide)
  ·rw [rest36] at h;exact absurd rfl h
  ·rw [ex36_read] at h1
   rcases h3 with ⟨_,h3⟩ | ⟨h3,_⟩
   ·exact ⟨S',h1,h2,h3⟩
   ·exact absurd (ex36_ok h1) h3)
 have HI':=Lib.hid hi
 have HA':=Lib.hid ha
 clear hi ha hp
 go_upto_region 6 with fail
 refine boxed2 (w:=w4) (G:=fun x=>Code.wp _ _ _ _ x) ?_
 intro w5 hx45 _ ⟨l6,c6,_,_⟩ ⟨l7,c7,_,_⟩
 have h55:Ext w5 w5:=Ext.refl _
 have hx25:=(hx23.trans hx34).trans hx45
 have hx15:=hx12.trans hx25
 have HA5:=Lib.hid (HA'.out.ext hx45)
 go_upto_region 7 with (go_at_call 18;refine (HGR.out w5 hx25).mono ?_;rintro e w6 ⟨hx56,hp⟩;obtain ⟨a,c,hrd,rfl⟩:∃ (a:Option Addr) (c:Nat),(∃ g o c2 a2,a=some ⟨g,o,none⟩∧g<w6.heap.size∧w6.cell? ⟨g,o,none⟩=some (.slice a2 2 c2))∧e=.returned (.tuple #[.slice a 1 c,.int .i64 0]):=(by
  rcases hp with ⟨h,_⟩ | ⟨_,h,_⟩ | ⟨_,_,vg,G,h,hq,hg,_⟩
  ·exact absurd HOK.out h
  ·rw [HSI.out.em] at h;cases h
  ·have e1 : G = [[(0, 1), (1, 1)]] := by
     rw [show T.n=ex36.n from by rw [←HTT.out]] at hg
     exact grp36 HSI.out hg
   subst e1
   obtain ⟨a,c,g,o,na,nb,no,nc,hv,hr⟩:=hq.read
   subst hv
   exact ⟨a,c,⟨g,o,nc 0,na 0,hr.pa (by decide),hr.pb (by decide) w6 (Ext.refl _),hr.c 0 (by decide) w6 (Ext.refl _)⟩,h⟩);clear hp)
 obtain ⟨g,o,c2',a2',rfl,hgl,hgc⟩:=hrd
 have gl:∀ w',Ext w6 w'→g<w'.heap.size:=fun w' x=>Nat.lt_of_lt_of_le hgl x.le
 have gc:∀ w',Ext w6 w'→w'.cell? ⟨g,o,none⟩=some (.slice a2' 2 c2'):=fun w' x=>x.cell hgc
 have HSM:=Lib.hid (same34_any w6 S' S sl36 (HA5.out.ext hx56) (HSA.out.ext (hx25.trans hx56)) HI'.out HSI.out)
 rw [←HSV.out] at HSM
 have hx26:=hx25.trans hx56
 have h66:Ext w6 w6:=Ext.refl _
 clear hgl hgc
 unfold bts tx36
 go_wp2_with (go_at_call 12;refine HSM.out.mono ?_;rintro e w7 ⟨rfl,hx67⟩;have hx57:=hx56.trans hx67)
 go_ret
 exact ⟨rfl,(hxw2.trans hx26).trans hx67⟩
end Go.Proofs.YtlfdfkbmollaaaaGreatDoor

namespace Go.Proofs.YtlfdfkbmollaaaaGreatDoor
open Go.RowKit Go.Shelf
attribute [local go_sem] Oper.semAt_some
end Go.Proofs.YtlfdfkbmollaaaaGreatDoor
