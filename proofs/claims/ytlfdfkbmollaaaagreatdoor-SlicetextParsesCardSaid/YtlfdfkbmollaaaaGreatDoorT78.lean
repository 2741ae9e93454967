/- Contracts and laws in plain Lean for RApp: group T78. -/
import Derived.Test.YtlfdfkbmollaaaaGreatDoorT77
import Derived.Test.YtlfdfkbmollaaaaGreatDoorT05
import Derived.Test.YtlfdfkbmollaaaaGreatDoorT75
import Derived.Test.YtlfdfkbmollaaaaGreatDoorT70
import Derived.Test.YtlfdfkbmollaaaaGreatDoorT36
import Derived.Test.YtlfdfkbmollaaaaGreatDoorT07
namespace Go.Proofs.YtlfdfkbmollaaaaGreatDoor
def ex36:Tr where
 n:=2
 name k:=if k=0 then ⟨#[97]⟩ else ⟨#[98]⟩
 vn _:=0
 vname _ _:=⟨#[]⟩
 vinit _ _:=0
 en _:=1
 kind _ _:=1
 peer _ _:=0
 msg _ _:=0
 time _ _:=0
 an _ _:=0
 avar _ _ _:=0
 aval _ _ _:=0
theorem lt2S {k:Nat} (h:k<2):k=0∨k=1:=by omega
def eS0:ex36.Id:=⟨(0,0),by decide,by decide⟩
def eS1:ex36.Id:=⟨(1,0),by decide,by decide⟩
theorem eS_evs:ex36.evs=[eS0,eS1]:=by rfl
theorem eS_ind {P:ex36.Id→Prop} (h0:P eS0) (h1:P eS1):∀ x,P x:=by
 intro x
 have h:=evs_all x
 rw [eS_evs] at h
 simp at h
 rcases h with rfl | rfl
 ·exact h0
 ·exact h1
theorem ex36_valid:ex36.Valid:=by
 refine ⟨by decide,by decide,fun k hk=>?_,fun k i hk hi=>?_,?_,?_⟩
 ·rcases lt2S hk with rfl | rfl
  ·exact ⟨by decide,by decide,by decide,fun i hi=>absurd hi (Nat.not_lt_zero _),by decide⟩
  ·exact ⟨by decide,by kernel_rfl,by decide,fun i hi=>absurd hi (Nat.not_lt_zero _),by decide⟩
 ·have hh:=eS_ind (P:=fun x=>ex36.EvOk x.1.1 x.1.2) ⟨by unfold FormedP;decide,by decide,by decide,by decide,fun j hj=>absurd hj (Nat.not_lt_zero _)⟩ ⟨by unfold FormedP;decide,by decide,by decide,by decide,fun j hj=>absurd hj (Nat.not_lt_zero _)⟩
  exact hh ⟨(k,i),hk,hi⟩
 ·rw [eS_evs]
  intro pre x ⟨t,ht⟩
  match pre,ht with
  | [],ht =>
   simp at ht;obtain ⟨rfl,_⟩:=ht
   exact ⟨fun h=>by revert h;decide,fun h=>by revert h;decide⟩
  | [a],ht =>
   simp at ht;obtain ⟨rfl,rfl,_⟩:=ht
   exact ⟨fun h=>by revert h;decide,fun h=>by revert h;decide⟩
  | a :: b :: r,ht =>
   have:=congrArg List.length ht
   simp at this
 ·rintro ⟨x,hp⟩
  have h:=path_rank (V:=ex36.V) (fun z=>z.2) ?_ x.2 hp
  ·exact absurd h.2 (Nat.lt_irrefl _)
  ·intro a b ha hb
   have hh:=eS_ind (P:=fun x=>∀ b,b∈ex36.succ (Ltr.of ex36 ex36.evs) x.1→ex36.V b∧x.1.2<b.2) ?_ ?_ ⟨a,ha⟩ b hb
   ·exact hh
   ·intro b hb
    have:ex36.succ (Ltr.of ex36 ex36.evs) eS0.1=[]:=by rfl
    rw [this] at hb;cases hb
   ·intro b hb
    have:ex36.succ (Ltr.of ex36 ex36.evs) eS1.1=[]:=by rfl
    rw [this] at hb;cases hb
theorem ex36_cut {n:Nat} {v:Nat→Int} (hn:n=2) (h:∀ p,p<2→0≤v p∧v p≤1):ex36.IsCut n v:=by
 refine ⟨⟨ex36_valid,hn⟩,fun p hp=>?_,fun x hx _ h3=>?_⟩
 ·exact h p hp
 ·exact absurd h3 (by show ¬(1:Int)=3;decide)
def sl36:SL:=⟨false,[0,0],[1,1],[[[1,1]],[[1,1]]]⟩
theorem gi36:(∀ p,p<2→gi [0,0] p=0)∧∀ p,p<2→gi [1,1] p=1:=by
 refine ⟨fun p hp=>?_,fun p hp=>?_⟩ <;> (rcases lt2S hp with rfl | rfl <;> rfl)
theorem ex36_ok {S:SlcD} (h:S.Is sl36):S.Ok ex36:=by
 have hf:S.f.s.n=2:=h.fn
 have hl:S.l.s.n=2:=h.ln
 have hj:S.j.s.n=2:=h.jn
 have fz:∀ p,p<2→S.f.z p=0:=fun p hp=>(h.fz p hp).trans (gi36.1 p hp)
 have lz:∀ p,p<2→S.l.z p=1:=fun p hp=>(h.lz p hp).trans (gi36.2 p hp)
 have gp:∀ p,p<2→sl36.j.getD p []=[[1,1]]:=fun p hp=>by rcases lt2S hp with rfl | rfl <;> rfl
 have mn:∀ p,p<2→(S.j.m p).n=1:=fun p hp=>by rw [h.mn p hp,gp p hp];rfl
 have rn:∀ p,p<2→(S.j.m p).rn 0=2:=fun p hp=>by rw [h.rn p 0 hp (by rw [gp p hp];decide),gp p hp];rfl
 have vz:∀ p q,p<2→q<2→(S.j.m p).val 0 q=1:=fun p q hp hq=>by rw [h.vz p 0 q hp (by rw [gp p hp];decide) (by rw [gp p hp];exact hq),gp p hp];exact gi36.2 q hq
 have cf:ex36.IsCut S.f.s.n S.f.z:=ex36_cut hf fun p hp=>by rw [fz p hp];decide
 have cl:ex36.IsCut S.l.s.n S.l.z:=ex36_cut hl fun p hp=>by rw [lz p hp];decide
 refine ⟨ex36_valid,.inr ⟨h.em,⟨⟨cf,cl,⟨by rw [hf,hl],fun p hp=>?_⟩,hj⟩,fun p hp=>mn p hp⟩,fun p i hp hi=>?_,fun p i hp hi=>?_⟩⟩
 ·rw [hf] at hp;rw [fz p hp,lz p hp];decide
 ·have hp2:p<2:=hp
  have hi1:i<1:=hi
  obtain rfl:i=0:=by omega
  refine ⟨fun _=>⟨fun h2=>?_,fun _=>⟨ex36_cut (rn p hp2) fun q hq=>by rw [vz p q hp2 hq];decide,?_,⟨by rw [hf,rn p hp2],fun q hq=>?_⟩,⟨by rw [hl,rn p hp2],fun q hq=>?_⟩⟩⟩,fun h2=>?_⟩
  ·rw [fz p hp2] at h2;exact absurd h2 (by decide)
  ·rw [vz p p hp2 hp2];decide
  ·rw [hf] at hq;rw [fz q hq,vz p q hp2 hq];decide
  ·rw [rn p hp2] at hq;rw [lz q hq,vz p q hp2 hq];decide
  ·rw [lz p hp2] at h2;exact absurd (by decide) h2
 ·have hp2:p<2:=hp
  rw [lz p hp2] at hi
  obtain rfl:i=0:=by omega
  intro q k hq hk
  rw [rn p hp2] at hq
  rw [vz p q hp2 hq] at hk
  obtain rfl:k=0:=by omega
  exact ⟨by rw [rn p hp2,rn q hq],fun r hr=>by rw [rn q hq] at hr;rw [vz q r hq hr,vz p r hp2 hr];decide⟩
def tx36:List UInt8:=[102,105,114,115,116,32,48,32,48,10,108,97,115,116,32,49,32,49,10,97,46,49,32,49,32,49,10,98,46,49,32,49,32,49,10]
theorem itoa_dig1 (n:Nat) (h:n<10):Lib.itoa (n:Int)=[UInt8.ofNat (48+n)]:=by
 unfold Lib.itoa
 rw [if_neg (by omega),Lib.decDigits,dif_pos (by omega),Int.toNat_natCast]
theorem evN36:evN ex36 (0,1)=[97,46,49]∧evN ex36 (1,1)=[98,46,49]:=by
 have h1:Lib.itoa 1=[49]:=itoa_dig1 1 (by decide)
 unfold evN
 rw [h1]
 exact ⟨rfl,rfl⟩
theorem ex36_read:readP ex36 tx36=(sl36,⟨[],4,0,0,0⟩):=by
 have n1:(Rdr.mk tx36 0 0 0 0).next=([102,105,114,115,116,32,48,32,48],⟨tx36.drop 10,1,0,0,0⟩):=by rfl
 have c1:(Rdr.mk (tx36.drop 10) 1 0 0 0).counts [102,105,114,115,116,32,48,32,48] (Lib.split [102,105,114,115,116,32,48,32,48] [32]) 2 (wordE [102,105,114,115,116])=([0,0],⟨tx36.drop 10,1,0,0,0⟩):=by rfl
 have n2:(Rdr.mk (tx36.drop 10) 1 0 0 0).next=([108,97,115,116,32,49,32,49],⟨tx36.drop 19,2,0,0,0⟩):=by rfl
 have c2:(Rdr.mk (tx36.drop 19) 2 0 0 0).counts [108,97,115,116,32,49,32,49] (Lib.split [108,97,115,116,32,49,32,49] [32]) 2 (wordE [108,97,115,116])=([1,1],⟨tx36.drop 19,2,0,0,0⟩):=by rfl
 have n3:(Rdr.mk (tx36.drop 19) 2 0 0 0).next=([97,46,49,32,49,32,49],⟨tx36.drop 27,3,0,0,0⟩):=by rfl
 have c3:(Rdr.mk (tx36.drop 27) 3 0 0 0).counts [97,46,49,32,49,32,49] (Lib.split [97,46,49,32,49,32,49] [32]) 2 (fun w=>titleE w [97,46,49])=([1,1],⟨tx36.drop 27,3,0,0,0⟩):=by rfl
 have n4:(Rdr.mk (tx36.drop 27) 3 0 0 0).next=([98,46,49,32,49,32,49],⟨[],4,0,0,0⟩):=by rfl
 have c4:(Rdr.mk [] 4 0 0 0).counts [98,46,49,32,49,32,49] (Lib.split [98,46,49,32,49,32,49] [32]) 2 (fun w=>titleE w [98,46,49])=([1,1],⟨[],4,0,0,0⟩):=by rfl
 have k1:ex36.IsCut ([0,0]:List Int).length (gi [0,0]):=ex36_cut rfl fun p hp=>by rw [gi36.1 p hp];decide
 have k2:ex36.IsCut ([1,1]:List Int).length (gi [1,1]):=ex36_cut rfl fun p hp=>by rw [gi36.2 p hp];decide
 have q2:LeqL ([0,0]:List Int).length ([1,1]:List Int).length (gi [0,0]) (gi [1,1]):=⟨rfl,fun p hp=>by rw [gi36.1 p hp,gi36.2 p hp];decide⟩
 have e1:cutE ex36 ([0,0],⟨tx36.drop 10,1,0,0,0⟩)=⟨tx36.drop 10,1,0,0,0⟩:=if_neg fun h=>h.2 k1
 have e2:cutE2 ex36 [0,0] ([1,1],⟨tx36.drop 19,2,0,0,0⟩)=⟨tx36.drop 19,2,0,0,0⟩:=if_neg fun h=>h.2.elim (fun h=>h k2) fun h=>h q2
 have o:ownL (gi [0,0]) (gi [1,1]) ex36.n=[(0,1),(1,1)]:=by rfl
 have g:evsGo ex36 [(0,1),(1,1)] (J0 ex36 [0,0]) ⟨tx36.drop 19,2,0,0,0⟩=([[[1,1]],[[1,1]]],⟨[],4,0,0,0⟩):=by
  rw [evsGo,n3,evN36.1,if_neg (by decide)]
  simp only
  rw [show (Rdr.mk (tx36.drop 27) 3 0 0 0).counts [97,46,49,32,49,32,49] (Lib.split [97,46,49,32,49,32,49] [32]) ex36.n (fun w=>titleE w [97,46,49])=([1,1],⟨tx36.drop 27,3,0,0,0⟩) from c3]
  rw [evsGo,n4,evN36.2,if_neg (by decide)]
  simp only
  rw [show (Rdr.mk [] 4 0 0 0).counts [98,46,49,32,49,32,49] (Lib.split [98,46,49,32,49,32,49] [32]) ex36.n (fun w=>titleE w [98,46,49])=([1,1],⟨[],4,0,0,0⟩) from c4]
  rfl
 have l:readL ex36 [0,0] ([108,97,115,116,32,49,32,49],⟨tx36.drop 19,2,0,0,0⟩)=(sl36,⟨[],4,0,0,0⟩):=by
  unfold readL
  simp only
  rw [show (Rdr.mk (tx36.drop 19) 2 0 0 0).counts [108,97,115,116,32,49,32,49] (Lib.split [108,97,115,116,32,49,32,49] [32]) ex36.n (wordE [108,97,115,116])=([1,1],⟨tx36.drop 19,2,0,0,0⟩) from c2]
  simp only
  rw [e2,if_neg (by simp),o,g]
  rfl
 unfold readP
 simp only
 rw [n1]
 simp only
 rw [if_neg (by decide),if_neg (by decide),show (Rdr.mk (tx36.drop 10) 1 0 0 0).counts [102,105,114,115,116,32,48,32,48] (Lib.split [102,105,114,115,116,32,48,32,48] [32]) ex36.n (wordE [102,105,114,115,116])=([0,0],⟨tx36.drop 10,1,0,0,0⟩) from c1,e1,n2]
 simp only
 rw [if_neg (by decide),l]
end Go.Proofs.YtlfdfkbmollaaaaGreatDoor

namespace Go.Proofs.YtlfdfkbmollaaaaGreatDoor
open Go.RowKit Go.Shelf
attribute [local go_sem] Oper.semAt_some
def lineL (T:Tr) (S:SlcD) (n:Nat) (x:EvE):List UInt8:=evN T x++cntL (vL (natV (fn (S.E n x))) n)++[10]
def linesL (T:Tr) (S:SlcD) (n k:Nat):List UInt8:=(((S.own n).take k).map (lineL T S n)).flatten
def headL (S:SlcD) (n:Nat):List UInt8:=([102,105,114,115,116]++cntL (vL S.f.z n)++[10])++([108,97,115,116]++cntL (vL S.l.z n)++[10])
def textL (T:Tr) (S:SlcD):List UInt8:=headL S T.n++linesL T S T.n (S.own T.n).length
theorem linesL_succ {T:Tr} {S:SlcD} {n k:Nat} (h:k<(S.own n).length):linesL T S n (k+1)=linesL T S n k++lineL T S n ((S.own n)[k]):=by
 unfold linesL
 rw [List.take_add_one,List.getElem?_eq_getElem h]
 simp only [Option.toList_some,List.map_append,List.flatten_append,List.map_cons,List.map_nil,List.flatten_cons,List.flatten_nil,List.append_nil]
theorem cntL_len2 {v:Nat→Int} {n:Nat} (hn:n≤100) (h:∀ q,q<n→0≤v q∧v q≤1000):(cntL (vL v n)).length≤100200:=by
 have h1:=cntL_len (vL v n) (vL_in h)
 rw [vL_len] at h1
 have h2:n*1002≤100*1002:=Nat.mul_le_mul_right _ hn
 omega
theorem headL_len {S:SlcD} {n:Nat} (hn:n≤100) (h:∀ q,q<n→0≤S.f.z q∧S.f.z q≤1000) (k:∀ q,q<n→0≤S.l.z q∧S.l.z q≤1000):(headL S n).length≤300000:=by
 have h1:=cntL_len2 hn h
 have h2:=cntL_len2 hn k
 unfold headL
 simp only [List.length_append,List.length_cons,List.length_nil];omega
theorem linesL_len {T:Tr} {S:SlcD} {n c:Nat}:∀ {k:Nat},k≤(S.own n).length→(∀ x∈S.own n,(lineL T S n x).length≤c)→(linesL T S n k).length≤k*c
 | 0,_,_ => by simp [linesL]
 | k+1,hk,h => by
  have h1:=linesL_len (k:=k) (by omega) h
  have h2:=h _ (List.getElem_mem (by omega:k<(S.own n).length))
  rw [linesL_succ (by omega),List.length_append,Nat.succ_mul];omega
theorem wstr_any (W : World) (b : Nat) (l s : List UInt8) (h : Bld b l W) (h1 : l.length ≤ 20000000000000) (h2 : s.length ≤ 100000000) :
    Calls Tryz.prog 49 #[.pointer (some ⟨b,0,none⟩),.string (bts s)] W fun e w'=>e=.returned (.tuple #[.int .i64 s.length,.nilIface])∧Bld b (l++s) w'∧Below b W w'∧Lib.OthersKept 5 (some b) W w':=
 (Tryz.Builder_WriteString_k b b (Lib.byteCells l) (bts s) W h (by rw [Lib.byteCells_length,bts_size];omega) (Nat.le_of_lt h.lt)).mono
  fun e w' (h:_∧_∧_∧_)=>⟨by rw [h.1,bts_size],Or.inr (by rw [Lib.byteCells_append];exact h.2.1),h.2.2.1,h.2.2.2⟩
def textV (l:List UInt8):Value:=if 16384<l.length then .tuple #[.string (bts []),.int .i64 5] else .tuple #[.string (bts l),.int .i64 0]
def TextPost (S:SlcD) (T:Tr) (w:World) (e:Ending) (w':World):Prop:=
 Ext w w'∧((¬S.Ok T∧e=.returned (.tuple #[.string (bts []),.int .i64 1]))∨(S.Ok T∧S.em=true∧e=.returned (.tuple #[.string (bts [101,109,112,116,121,10]),.int .i64 0]))∨
  (S.Ok T∧S.em=false∧(textL T S).length≤10000000∧e=.returned (textV (textL T S))))
structure TxF (T:TM) (S:SlcD):Prop where
 g:S.GOk T.n
 ev:∀ x∈S.own T.n,∃ p i:Nat,x=((p:Int),(i:Int)+1)∧p<T.n∧i<T.en p
 nm:∀ p,p<T.n→(T.name p).size≤1000∧T.en p≤1000
theorem SlcD.Ok.txf {T:TM} {S:SlcD} (h:S.Ok T.toTr) (he:S.em=false) (h24:tot T.en T.n≤39):TxF T S:=by
 have hg:=h.gok he h24
 refine ⟨hg,fun x hx=>?_,fun p hp=>?_⟩
 ·have hh:=h
  obtain ⟨hV,⟨h1,_⟩ | ⟨_,hSh,_,_⟩⟩:=h
  ·rw [he] at h1;cases h1
  ·obtain ⟨p,i,e,hp,hi,_⟩:=hg.has x hx
   rw [hSh.1.2.2.2] at hp
   exact ⟨p,i,e,hp,by rw [←hSh.2 p hp];exact hi⟩
 ·have h1:=h.1.pr p hp
  have h2:=h.1.en64 hp
  have h3:=nameB16 h1.1
  exact ⟨by omega,by omega⟩
theorem lineL_len {T:TM} {S:SlcD} (h:TxF T S):∀ x∈S.own T.n,(lineL T.toTr S T.n x).length≤110000:=fun x hx=>by
 obtain ⟨p,i,rfl,hp,hi⟩:=h.ev x hx
 have h1:=h.nm p hp
 obtain ⟨p',i',e,_,_,_,hv⟩:=h.g.has _ hx
 obtain ⟨rfl,rfl⟩:p=p'∧i=i':=by
  simp only [Prod.mk.injEq] at e;omega
 have h2:=cntL_len2 (v:=natV (fn (S.E T.n ((p:Int),(i:Int)+1)))) h.g.hn fun q hq=>by
  have:=hv q hq
  rw [S.E_at];unfold natV;rw [fn_rowOf hq];omega
 have h3:=itoa_len ((i:Int)+1) (by omega)
 have h4:(evN T.toTr ((p:Int),(i:Int)+1)).length≤5000:=by
  unfold evN
  simp only [Int.toNat_natCast,List.length_append,List.length_cons,Array.length_toList]
  have:(T.name p).data.size=(T.name p).size:=rfl
  omega
 unfold lineL
 simp only [List.length_append,List.length_cons,List.length_nil];omega
theorem EvOwn.othk {w w':World} {base b:Nat} {v:Value} {l:List EvE} (h:EvOwn w base v l) (ho:Lib.OthersKept 5 (some b) w w') (hb:b<base):EvOwn w' base v l:=by
 obtain ⟨h1,⟨hv,hn⟩ | ⟨g,cap,cur,hv,hg,hh,rest⟩⟩:=h
 ·exact ⟨h1,.inl ⟨hv,hn⟩⟩
 ·refine ⟨h1,.inr ⟨g,cap,cur,hv,hg,ho g _ hh (fun e=>by cases e;omega) (fun c fz e=>?_),rest⟩⟩
  injection e with _ h2 _
  exact absurd h2 (by decide)
set_option maxRecDepth 100000 in
set_option maxHeartbeats 8000000 in
theorem text_any (w : World) (hW : LibB w) (T : TM) (hT : T.At w) (S : SlcD) (hS : S.At w) (h24 : tot T.en T.n ≤ 39) :
    Calls Tryz.prog 15 #[T.val,S.val] w (TextPost S T.toTr w):=by
 have HVA:=Lib.hid (fun W (x:Ext w W)=>svalid_any W T (hT.ext x) S (hS.ext x))
 have HTX:=Lib.hid (fun (h:S.Ok T.toTr) (he:S.em=false)=>h.txf he h24)
 have HT:=Lib.hid hT
 have HS:=Lib.hid hS
 have HLW:=Lib.hid (fun W (x:Ext w W)=>hW.ext x)
 unfold TextPost
 simp only [TM.val] at HVA ⊢
 clear hT hS h24 hW
 go_enter Tryz.func15,Tryz.ntmps15
 go_upto_region 1 with fail
 refine boxed2 (w:=w) (G:=fun x=>Code.wp _ _ _ _ x) ?_
 intro w1 hx1 hs1 ⟨l0,c0,_,_⟩ ⟨l1,c1,_,_⟩
 have hx11:Ext w1 w1:=Ext.refl _
 go_wp2_with fail
 go_at_call 17
 refine (HVA.out w1 hx1).mono ?_
 rintro e w2 ⟨b,rfl,hb,hx12⟩
 have HB:=Lib.hid hb
 have hxw2:=hx1.trans hx12
 clear hb HVA hs1
 rcases b with _ | _
 ·have HNO:=Lib.hid (show ¬S.Ok T.toTr from fun h=>absurd (HB.out.2 h) (by decide))
  go_wp2_with fail
  go_ret2
  exact ⟨hxw2,.inl ⟨HNO.out,rfl⟩⟩
 have HOK:=Lib.hid (HB.out.1 rfl)
 clear HB
 rcases hem:S.em with _ | _
 case true=>
  rw [hem] at c1
  have HEM:=Lib.hid hem
  clear hem
  go_wp2_with fail
  go_ret2
  exact ⟨hxw2,.inr (.inl ⟨HOK.out,HEM.out,rfl⟩)⟩
 have HF:=Lib.hid (HTX.out HOK.out hem)
 have HEM:=Lib.hid hem
 have hn:=HF.out.g.hn
 obtain ⟨fa,hfa⟩:∃ z,z=S.f.s.a:=⟨_,rfl⟩
 obtain ⟨fc,hfc⟩:∃ z,z=S.f.s.c:=⟨_,rfl⟩
 obtain ⟨la,hla⟩:∃ z,z=S.l.s.a:=⟨_,rfl⟩
 obtain ⟨lc,hlc⟩:∃ z,z=S.l.s.c:=⟨_,rfl⟩
 obtain ⟨vj,hvj⟩:∃ z,z=S.j.s.v:=⟨_,rfl⟩
 have hfv:S.f.s.v=.slice fa T.n fc:=by rw [hfa,hfc,←HF.out.g.fn]
 have hlv:S.l.s.v=.slice la T.n lc:=by rw [hla,hlc,←HF.out.g.ln]
 have HSV:=Lib.hid (show S.val=.agg #[.bool false,.slice fa T.n fc,.slice la T.n lc,vj] from by
  show Value.agg #[.bool S.em,S.f.s.v,S.l.s.v,S.j.s.v]=_
  rw [hem,hfv,hlv,hvj])
 rw [hem,hfv,hlv,←hvj] at c1
 have HNF:=Lib.hid (show NumAt w T.n fa S.f.s.b S.f.s.o S.f.z from by
  have h:=HS.out.f.num
  rw [HF.out.g.fn,←hfa] at h;exact h)
 have HNL:=Lib.hid (show NumAt w T.n la S.l.s.b S.l.s.o S.l.z from by
  have h:=HS.out.l.num
  rw [HF.out.g.ln,←hla] at h;exact h)
 have HBF:=Lib.hid (show (∀ q,q<T.n→0≤S.f.z q∧S.f.z q≤1000)∧∀ q,q<T.n→0≤S.l.z q∧S.l.z q≤1000 from ⟨fun q hq=>by have:=HF.out.g.b q hq;omega,fun q hq=>by have:=HF.out.g.b q hq;have:=HF.out.g.lz q hq;omega⟩)
 obtain ⟨lf,hlf⟩:∃ z,z=[102,105,114,115,116]++cntL (vL S.f.z T.n)++[10]:=⟨_,rfl⟩
 obtain ⟨ll,hll⟩:∃ z,z=[108,97,115,116]++cntL (vL S.l.z T.n)++[10]:=⟨_,rfl⟩
 have HHD:=Lib.hid (show headL S T.n=lf++ll from by rw [hlf,hll];rfl)
 have hhl:lf.length+ll.length≤300000:=by
  have h:=headL_len hn HBF.out.1 HBF.out.2
  rw [HHD.out,List.length_append] at h;exact h
 have HC1:=Lib.hid (fun W (x:Ext w W)=>show Calls Tryz.prog 50 #[.string ⟨#[102,105,114,115,116]⟩,.slice fa T.n fc] W (fun e w'=>e=.returned (.string (bts lf))∧Ext W w') from by
  have h:=counted_any W (HLW.out W x) [102,105,114,115,116] (by decide) T.n fc fa _ _ S.f.z (HNF.out.ext x) hn HBF.out.1
  rw [←hlf] at h;exact h)
 have HC2:=Lib.hid (fun W (x:Ext w W)=>show Calls Tryz.prog 50 #[.string ⟨#[108,97,115,116]⟩,.slice la T.n lc] W (fun e w'=>e=.returned (.string (bts ll))∧Ext W w') from by
  have h:=counted_any W (HLW.out W x) [108,97,115,116] (by decide) T.n lc la _ _ S.l.z (HNL.out.ext x) hn HBF.out.2
  rw [←hll] at h;exact h)
 have HOW:=Lib.hid (fun W (x:Ext w W)=>own2_any W fa la _ _ _ _ T.n fc lc S.f.z S.l.z (HNF.out.ext x) (HNL.out.ext x) hn HF.out.g.b)
 clear hem hfa hfc hla hlc hvj hfv hlv hlf hll
 go_upto_region 6 with fail
 obtain ⟨bb,hbb⟩:∃ z,z=w2.heap.size:=⟨_,rfl⟩
 have HB0:=Lib.hid (show Bld bb [] (w2.alloc (.cells #[.pointer none,.slice none 0 0] 103)) from by rw [hbb];exact Lib.IsBuilderF.of (Lib.fresh_isBuilder 103 5 w2))
 have hx6:Ext w2 (w2.alloc (.cells #[.pointer none,.slice none 0 0] 103)):=Ext.alloc' (Ext.refl w2) _
 rw [←hbb]
 generalize w2.alloc (.cells #[.pointer none,.slice none 0 0] 103)=w6 at hx6 HB0 ⊢
 have HBB:=Lib.hid hbb
 clear hbb
 have hxw6:=hxw2.trans hx6
 have hx16:=hx12.trans hx6
 have hz1:=bts_size lf
 have hz2:=bts_size ll
 have hcat:¬9223372036854775807<lf.length+ll.length:=by omega
 have hb6:bb≤w6.heap.size:=Nat.le_of_lt HB0.out.lt
 have HEX:=Lib.hid (show ∀ w',Below bb w6 w'→Ext w1 w' from fun w' x=>Below.trans hx16 (x.mono (by rw [HBB.out];exact hx12.le)))
 refine wp_region_T (t:=7) (S:=fun w'=>Below bb w6 w') (R:=fun w'=>Ext w6 w') (by kernel_rfl) ((Ext.refl w6).drew.mono hb6) (Ext.refl w6).drew (fun hHeld=>?_)
 generalize w6.drew=v0 at hHeld ⊢
 refine takeS 0 (v:=?_) rfl (by kernel_rfl) (by kernel_rfl) (by kernel_rfl) (fun _ _ _ h=>h) (by decide) (Or.inl ⟨by rfl,?_⟩) hHeld.1 hHeld.2 ?_
 rotate_left
 ·intro w' hSw
  have hSX:=HEX.out w' hSw
  have z1:=c1 _ hSX
  have z2:=l1 _ hSX
  have hSS:=Ext.refl w'
  go_simp
  try with_reducible rfl
 try simp only [Act.put,zA,zB,zC]
 refine takeS 1 (v:=?_) rfl (by kernel_rfl) (by kernel_rfl) (by kernel_rfl) (fun _ _ _ h=>h) (by decide) (Or.inl ⟨by rfl,?_⟩) hHeld.1 hHeld.2 ?_
 rotate_left
 ·intro w' hSw
  have hSX:=HEX.out w' hSw
  have z1:=c1 _ hSX
  have z2:=l1 _ hSX
  have hSS:=Ext.refl w'
  go_simp
  try with_reducible rfl
 try simp only [Act.put,zA,zB,zC]
 refine takeS 3 (v:=?_) rfl (by kernel_rfl) (by kernel_rfl) (by kernel_rfl) (fun _ _ _ h=>h) (by decide) (Or.inl ⟨by rfl,?_⟩) hHeld.1 hHeld.2 ?_
 rotate_left
 ·intro w' hSw
  have hSX:=HEX.out w' hSw
  have z1:=c1 _ hSX
  have z2:=l1 _ hSX
  have hSS:=Ext.refl w'
  go_simp
  try with_reducible rfl
 try simp only [Act.put,zA,zB,zC]
 refine takeS 4 (v:=?_) rfl (by kernel_rfl) (by kernel_rfl) (by kernel_rfl) (fun _ _ _ h=>h) (by decide) (Or.inl ⟨by rfl,?_⟩) hHeld.1 hHeld.2 ?_
 rotate_left
 ·intro w' hSw
  have hSX:=HEX.out w' hSw
  have z1:=c1 _ hSX
  have z2:=l1 _ hSX
  have hSS:=Ext.refl w'
  go_simp
  try with_reducible rfl
 try simp only [Act.put,zA,zB,zC]
 refine wpAnyT_ready (rs:=[2]) (by kernel_rfl) (by simp) ?_
 refine AllReadyT.cons rfl (fun K hK=>?_) AllReadyT.nil
 go_simp
 go_at_call 50
 refine (HC1.out v0 (hxw6.trans hHeld.2)).mono ?_
 rintro e v1 ⟨rfl,hxa⟩
 refine hK.out _ _ ⟨hHeld.1.trans (hxa.mono (by have:=hHeld.2.le;omega)),hHeld.2.trans hxa⟩ (fun hH2=>?_)
 clear hK K
 try simp only [Act.put,zA,zB,zC]
 clear hHeld hxa
 refine wpAnyT_ready (rs:=[5]) (by kernel_rfl) (by simp) ?_
 refine AllReadyT.cons rfl (fun K hK=>?_) AllReadyT.nil
 go_simp
 go_at_call 50
 refine (HC2.out v1 (hxw6.trans hH2.2)).mono ?_
 rintro e v2 ⟨rfl,hxa⟩
 refine hK.out _ _ ⟨hH2.1.trans (hxa.mono (by have:=hH2.2.le;omega)),hH2.2.trans hxa⟩ (fun hHeld=>?_)
 clear hK K
 try simp only [Act.put,zA,zB,zC]
 clear hH2 hxa
 refine takeS 6 (v:=?_) rfl (by kernel_rfl) (by kernel_rfl) (by kernel_rfl) (fun _ _ _ h=>h) (by decide) (Or.inl ⟨by rfl,?_⟩) hHeld.1 hHeld.2 ?_
 rotate_left
 ·intro w' hSw
  have hSX:=HEX.out w' hSw
  have z1:=c1 _ hSX
  have z2:=l1 _ hSX
  have hSS:=Ext.refl w'
  go_simp
  try with_reducible rfl
 try simp only [Act.put,zA,zB,zC]
 refine wpAnyT_ready (rs:=[7]) (by kernel_rfl) (by simp) ?_
 refine AllReadyT.late rfl (by decide) (fun K hK=>?_) AllReadyT.nil
 go_simp
 go_at_call 49
 refine Calls.mono (show Calls _ _ #[_,.string (bts lf++bts ll)] _ _ from by rw [bts_append];exact wstr_any v2 bb [] (lf++ll) (HB0.out.ext hHeld.2) (by decide) (by rw [List.length_append];omega)) ?_
 rintro e w7 ⟨rfl,hb7,hbl7,-⟩
 refine hK.out _ _ (hHeld.1.trans hbl7) (fun hH3=>?_)
 clear hK K
 try simp only [Act.put,zA,zB,zC]
 refine wpAnyT_done (by kernel_rfl) ?_ _
 have HB7:=Lib.hid hb7
 have hx27:Ext w2 w7:=by
  have h1:Below bb w2 v2:=(hx6.trans hHeld.2).mono (by rw [HBB.out];exact Nat.le_refl _)
  have h2:=h1.trans hbl7
  rw [HBB.out] at h2;exact h2
 have hxw7:=hxw2.trans hx27
 have hx17:=hx12.trans hx27
 clear hb7 hbl7 hHeld hH3 hx6 hxw6 hx16 hcat HC1 HC2 HB0
 have hbb7:bb<w7.heap.size:=HB7.out.lt
 obtain ⟨B7,hB7⟩:∃ z,z=w7.heap.size:=⟨_,rfl⟩
 go_upto_region 8 with (go_at_call 51;refine (HOW.out w7 hxw7).mono ?_;rintro e w8 ⟨hx78,a8,c8,rfl,ho8⟩;rw [←hB7] at ho8;have HO8:=Lib.hid ho8;clear ho8)
 obtain ⟨N,hN⟩:∃ N,N=(ownL S.f.z S.l.z T.n).length:=⟨_,rfl⟩
 rw [←hN] at HO8 ⊢
 have HNN:=Lib.hid hN
 have hN39:N≤39:=by rw [hN];exact HF.out.g.few
 have HB8:=Lib.hid (HB7.out.ext hx78)
 have hx28:=hx27.trans hx78
 have HLL:=Lib.hid (show ∀ j,j≤N→(headL S T.n++linesL T.toTr S T.n j).length≤10000000 from fun j hj=>by
  have h1:=linesL_len (T:=T.toTr) (S:=S) (n:=T.n) (k:=j) (c:=110000) (by show j≤(ownL S.f.z S.l.z T.n).length;omega) (lineL_len HF.out)
  have h2:j*110000≤39*110000:=Nat.mul_le_mul_right _ (by omega)
  rw [HHD.out,List.length_append,List.length_append];omega)
 have hb2:bb<B7:=by rw [hB7];exact hbb7
 clear hN hx78 HB7 HOW hxw7 hx17 hbb7 hB7
 go_loopg [31] N (fun gg v31 wo=>∃ k:Nat,k≤N∧gg=N - k∧v31=.int .i64 k∧Ext w2 wo∧Bld bb (headL S T.n++linesL T.toTr S T.n k) wo∧EvOwn wo B7 (.slice a8 N c8) (ownL S.f.z S.l.z T.n))
 case atStart=>exact ⟨0,by omega,by omega,rfl,hx28,by rw [HHD.out];simpa [linesL] using HB8.out,HO8.out⟩
 case round=>
  clear HB8 HO8 hx28
  obtain ⟨k,hk,rfl,rfl,hxo,hbo,hoo⟩:=hrel
  have HBO:=Lib.hid hbo
  have HOO:=Lib.hid hoo
  obtain ⟨l,hl⟩:∃ l,l=headL S T.n++linesL T.toTr S T.n k:=⟨_,rfl⟩
  have hl9:l.length≤10000000:=by rw [hl];exact HLL.out k hk
  rw [←hl] at HBO
  have HL:=Lib.hid hl
  have hrr:Ext wr wr:=Ext.refl _
  have hx1o:=hx12.trans hxo
  have hxwo:=hxw2.trans hxo
  clear hl hbo
  by_cases hlt:k<N
  ·have hlt':(k:Int)<(N:Int):=by omega
   have hkL:k<(ownL S.f.z S.l.z T.n).length:=by rw [←HNN.out];exact hlt
   have hmem:(ownL S.f.z S.l.z T.n)[k]∈S.own T.n:=List.getElem_mem hkL
   obtain ⟨p,i,hxk,hp,hi⟩:=HF.out.ev _ hmem
   have HHX:=Lib.hid (HF.out.g.has _ hmem)
   rw [hxk] at HHX
   obtain ⟨ra,rcap,rb,hv,_,hra,hrb,hc0,hc1⟩:=EvOwn.read hoo
   rw [←HNN.out] at hv hra hrb
   obtain rfl:=hra (by omega)
   simp only [Value.slice.injEq] at hv
   obtain ⟨rfl,_,rfl⟩:=hv
   obtain ⟨z,hz⟩:∃ z:Int,z=(i:Int)+1:=⟨_,rfl⟩
   rw [←hz] at hxk HHX
   have o0:∀ w',Ext wr w'→w'.cell? ⟨rb,k*2,none⟩=some (.int .i64 (p:Int)):=fun w' x=>by rw [hc0 w' x k hkL,hxk]
   have o1:∀ w',Ext wr w'→w'.cell? ⟨rb,k*2+1,none⟩=some (.int .i64 z):=fun w' x=>by rw [hc1 w' x k hkL,hxk]
   have ob:∀ w',Ext wr w'→rb<w'.heap.size:=hrb (by omega)
   have HXK:=Lib.hid hxk
   have HZ:=Lib.hid hz
   clear hc0 hc1 hra hrb hoo hmem hz
   go_upto_region 10 with fail
   refine boxed1 (w:=wr) (G:=fun x=>Code.wp _ _ _ _ x) ?_
   intro w9 hx9 hs9 ⟨l9,c9,_,_⟩
   have h99:Ext w9 w9:=Ext.refl _
   have hx19:=hx1o.trans hx9
   have hxw9:=hxwo.trans hx9
   clear hs9 hrr o0 o1 ob
   have hnm:=HF.out.nm p hp
   have HNA:=Lib.hid (fun W (x:Ext w W)=>show Calls Tryz.prog 52 #[.agg #[.slice T.a T.n T.cap],.agg #[.int .i64 (p:Int),.int .i64 z]] W (fun e w'=>e=.returned (.tuple #[.string (bts (evN T.toTr ((p:Int),z))),.int .i64 0])∧Ext W w') from by
    rw [HZ.out]
    exact tname_any W (HLW.out _ x) T (HT.out.ext x) HOK.out.1 p i hp hi hnm.1 hnm.2)
   obtain ⟨nm,hnv⟩:∃ y,y=evN T.toTr ((p:Int),z):=⟨_,rfl⟩
   rw [←hnv] at HNA
   have hnl:nm.length≤5000:=by
    have h3:=itoa_len z (by have:=HZ.out;omega)
    have h5:(T.name p).data.size=(T.name p).size:=rfl
    have h6:=HZ.out
    rw [hnv];unfold evN
    simp only [Int.toNat_natCast,List.length_append,List.length_cons,Array.length_toList]
    omega
   have HEL:=Lib.hid (fun W (x:Ext w W)=>show Calls Tryz.prog 53 #[.agg #[.bool false,.slice fa T.n fc,.slice la T.n lc,vj],.agg #[.int .i64 (p:Int),.int .i64 z]] W (fun e w'=>e=.returned (S.row T.n ((p:Int),z)).val∧Ext W w') from by
    rw [←HSV.out];exact elem_any W S (HS.out.ext x) T.n ((p:Int),z) HHX.out)
   have hrv:=(SlcD.row_at HS.out HHX.out).2
   have hrn:=(SlcD.row_at HS.out HHX.out).1
   unfold Row.At at hrn
   rw [show (S.row T.n ((p:Int),z)).l.length=T.n from S.E_len T.n _] at hrn
   rw [hrv] at HEL
   obtain ⟨ea,hea⟩:∃ y,y=(S.j.m (((p:Int),z):EvE).1.toNat).ra ((((p:Int),z):EvE).2.toNat - 1):=⟨_,rfl⟩
   obtain ⟨ec,hec⟩:∃ y,y=(S.j.m (((p:Int),z):EvE).1.toNat).rc ((((p:Int),z):EvE).2.toNat - 1):=⟨_,rfl⟩
   rw [←hea,←hec] at HEL
   have hvb:∀ q,q<T.n→0≤natV (fn (S.E T.n ((p:Int),z))) q∧natV (fn (S.E T.n ((p:Int),z))) q≤1000:=fun q hq=>by
    obtain ⟨p',i',e,_,_,_,hv⟩:=HHX.out
    have:=hv q hq
    rw [e,S.E_at];unfold natV;rw [fn_rowOf hq];omega
   have HCT:=Lib.hid (fun W (x:Ext w W)=>counted_any W (HLW.out _ x) nm (by omega) T.n ec ea _ _ _ (by rw [hea];exact hrn.ext x) hn hvb)
   obtain ⟨ln,hln⟩:∃ y,y=nm++cntL (vL (natV (fn (S.E T.n ((p:Int),z)))) T.n)++[10]:=⟨_,rfl⟩
   have HLN:=Lib.hid (show headL S T.n++linesL T.toTr S T.n (k+1)=l++ln from by
    rw [linesL_succ hkL,←List.append_assoc,←HL.out]
    congr 1
    show lineL T.toTr S T.n (ownL S.f.z S.l.z T.n)[k]=_
    rw [HXK.out,hln,hnv];rfl)
   have HCT2:=Lib.hid (fun W (x:Ext w W)=>(show Calls Tryz.prog 50 #[.string (bts nm),.slice ea T.n ec] W (fun e w'=>e=.returned (.string (bts ln))∧Ext W w') from by rw [hln];exact HCT.out W x))
   have hlnl:ln.length≤110000:=by
    have h1:=cntL_len2 hn hvb
    rw [hln];simp only [List.length_append,List.length_cons,List.length_nil];omega
   clear HCT hea hec hrv hrn hnv hln hnm hvb
   go_upto_region 11 with (go_at_call 52;refine (HNA.out _ hxw9).mono ?_;rintro e w10 ⟨rfl,hx10⟩)
   have h1010:Ext w10 w10:=Ext.refl _
   have hx110:=hx19.trans hx10
   have hxw10:=hxw9.trans hx10
   go_wp2_with (first | (go_at_call 53;refine (HEL.out _ hxw10).mono ?_;rintro e w11 ⟨rfl,hx11e⟩) | (go_at_call 50;refine (HCT2.out _ (hxw10.trans hx11e)).mono ?_;rintro e w12 ⟨rfl,hx12e⟩;have hx13e:=((hx9.trans hx10).trans hx11e).trans hx12e;have HW13:=Lib.hid (wstr_any w12 bb l ln (HBO.out.ext hx13e) (by omega) (by omega))) | (go_at_call 49;refine HW13.out.mono ?_;rintro e w14 ⟨rfl,hb14,hbl14,ho14⟩;have HB14:=Lib.hid hb14;have HO14:=Lib.hid (And.intro hbl14 ho14);clear hb14 hbl14 ho14))
   go_roundg (N - (k+1))
   case rel=>
    refine ⟨k+1,by omega,rfl,by go_num,?_,by rw [HLN.out];exact HB14.out,(EvOwn.kept HOO.out hx13e).othk HO14.out.2 hb2⟩
    have h1:Below bb w2 w12:=Below.mono (hxo.trans hx13e) (by rw [HBB.out];exact Nat.le_refl _)
    have h2:=h1.trans HO14.out.1
    rw [HBB.out] at h2;exact h2
   case measure=>omega
  ·obtain rfl:k=N:=by omega
   have hlt':¬(k:Int)<(k:Int):=by omega
   have HTL:=Lib.hid (show textL T.toTr S=l from by
    rw [HL.out,HNN.out];rfl)
   have HLE:=Lib.hid (show Calls Tryz.prog 54 #[.pointer (some ⟨bb,0,none⟩)] wr (fun e w'=>e=.returned (.int .i64 (l.length:Int))∧w'=wr) from
    (Tryz.Builder_Len_f bb bb (Lib.byteCells l) wr HBO.out).mono fun e w' h=>⟨by rw [h.1,Lib.byteCells_length],h.2⟩)
   by_cases h16:16384<l.length
   ·have d1:decide ((16384:Int)<(l.length:Int))=true:=decide_eq_true (by omega)
    have HV:=Lib.hid (show textV l=.tuple #[.string (bts []),.int .i64 5] from if_pos h16)
    clear h16
    go_wp2_with (go_at_call 54;refine HLE.out.mono ?_;rintro e w9 ⟨rfl,rfl⟩)
    go_ret2
    exact ⟨hxwo,.inr (.inr ⟨HOK.out,HEM.out,by rw [HTL.out];exact hl9,by rw [HTL.out,HV.out];rfl⟩)⟩
   ·have d1:decide ((16384:Int)<(l.length:Int))=false:=decide_eq_false (by omega)
    have HV:=Lib.hid (show textV l=.tuple #[.string (bts l),.int .i64 0] from if_neg h16)
    have hst:=Tryz.Builder_String_any_k bb bb l wr HBO.out (Nat.le_of_lt HBO.out.lt)
    have HST:=Lib.hid hst
    clear h16 hst
    go_wp2_with (first | (go_at_call 54;refine HLE.out.mono ?_;rintro e w9 ⟨rfl,rfl⟩) | (go_at_call 55;refine HST.out.mono ?_;rintro e w10 ⟨rfl,h1,h2,h3⟩;have HB11:=Lib.hid h2;clear h1 h2 h3))
    go_ret2
    exact ⟨Below.trans hxwo (HB11.out.mono (by rw [HBB.out];exact hxw2.le)),.inr (.inr ⟨HOK.out,HEM.out,by rw [HTL.out];exact hl9,by rw [HTL.out,HV.out];rfl⟩)⟩
end Go.Proofs.YtlfdfkbmollaaaaGreatDoor

namespace Go.Proofs.YtlfdfkbmollaaaaGreatDoor
open Go.RowKit Go.Shelf
attribute [local go_sem] Oper.semAt_some
end Go.Proofs.YtlfdfkbmollaaaaGreatDoor
