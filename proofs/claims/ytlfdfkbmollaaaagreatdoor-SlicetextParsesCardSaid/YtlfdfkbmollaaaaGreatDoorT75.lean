/- Contracts and laws in plain Lean for RApp: group T75. -/
import Derived.Test.YtlfdfkbmollaaaaGreatDoorT74
import Derived.Test.YtlfdfkbmollaaaaGreatDoorT70
import Derived.Test.YtlfdfkbmollaaaaGreatDoorT38
import Derived.Deep.CutRange
import Derived.Deep.CutBlock
import Derived.Test.YtlfdfkbmollaaaaGreatDoorT62
set_option maxRecDepth 100000
namespace Go.Proofs.YtlfdfkbmollaaaaGreatDoor
open Go.RowKit Go.Shelf
attribute [local go_sem] Oper.semAt_some
theorem ownL_tot {u v:Nat→Int} {en:Nat→Nat}:∀ {n:Nat},(∀ p,p<n→(v p - u p).toNat≤en p)→(ownL u v n).length≤tot en n
 | 0,_ => by simp [ownL]
 | n+1,h => by
  have h1:=ownL_tot (n:=n) fun p hp=>h p (by omega)
  have h2:=h n (by omega)
  unfold ownL
  rw [List.length_append,ownP_len]
  show _≤tot en n+en n
  omega
theorem SlcD.Ok.gok {S:SlcD} {T:Tr} (h:S.Ok T) (he:S.em=false) (h24:tot T.en T.n≤39):S.GOk T.n:=by
 obtain ⟨hV,⟨h1,_⟩ | ⟨_,hSh,hR,_⟩⟩:=h
 ·rw [he] at h1;cases h1
 have hf:=hSh.1.1
 have hl:=hSh.1.2.1
 have hle:=hSh.1.2.2.1
 have hfn:S.f.s.n=T.n:=hf.1.2
 have hln:S.l.s.n=T.n:=hl.1.2
 have hj:S.j.s.n=T.n:=hSh.1.2.2.2
 have hen:∀ p,p<T.n→T.en p≤64:=fun p hp=>by have:=(hV.pr p hp).2.2.2.2;omega
 have hF:∀ p,p<T.n→0≤S.f.z p∧S.f.z p≤T.en p:=fun p hp=>hf.2.1 p hp
 have hL:∀ p,p<T.n→0≤S.l.z p∧S.l.z p≤T.en p:=fun p hp=>hl.2.1 p hp
 refine ⟨hfn,hln,by have:=hV.n8;omega,fun p hp=>?_,fun p hp=>(hL p hp).1,fun x hx=>?_,?_⟩
 ·have:=hF p hp;have:=hL p hp;have:=hen p hp;omega
 ·obtain ⟨p,k,hp,hk,rfl⟩:=mem_ownL.1 hx
  have h1:=hF p hp
  have h2:=hL p hp
  obtain ⟨i,hi⟩:∃ i:Nat,(i:Int)=S.f.z p+k:=⟨(S.f.z p).toNat+k,by omega⟩
  have hie:i<T.en p:=by omega
  have hc:=(hR p i hp hie).cut hSh (by omega)
  refine ⟨p,i,by rw [hi];exact Prod.ext rfl (by show S.f.z p+1+(k:Int)=S.f.z p+k+1;omega),by rw [hj];exact hp,by rw [hSh.2 p hp];exact hie,hc.1.2,fun q hq=>?_⟩
  have h3:=hc.2.1 q hq
  have h4:=hen q hq
  omega
 ·refine Nat.le_trans (ownL_tot (en:=T.en) fun p hp=>?_) h24
  have:=hF p hp;have:=hL p hp;omega
set_option maxHeartbeats 1000000 in
theorem grouped_none (w : World) (S : SlcD) (hem : S.em = true) :
    Calls Tryz.prog 68 #[S.val] w fun e w'=>e=.returned (.tuple #[.slice none 0 0,.slice none 0 0])∧Ext w w':=by
 have hv:S.val=.agg #[.bool true,S.f.s.v,S.l.s.v,S.j.s.v]:=by rw [←hem]
 rw [hv]
 clear hem hv
 go_enter Tryz.func68,Tryz.ntmps68
 go_upto_region 1 with fail
 refine boxed1 (w:=w) (G:=fun x=>Code.wp _ _ _ _ x) ?_
 intro w1 hx1 hs1 ⟨l0,c0,_,_⟩
 have hx11:Ext w1 w1:=Ext.refl _
 go_wp2_with fail
 go_ret2
 exact ⟨rfl,hx1⟩
def GroupsPost (S:SlcD) (T:Tr) (w:World) (e:Ending) (w':World):Prop:=
 Ext w w'∧((¬S.Ok T∧e=.returned (.tuple #[.slice none 0 0,.int .i64 1]))∨(S.Ok T∧S.em=true∧e=.returned (.tuple #[.slice none 0 0,.int .i64 0]))∨
  (S.Ok T∧S.em=false∧∃ vg G,e=.returned (.tuple #[vg,.int .i64 0])∧GrpQ w' w.heap.size vg G∧IsGrp T.n (S.E T.n) (·∈S.own T.n) G∧GFin S T.n G))
set_option maxHeartbeats 2000000 in
theorem groups_any (w:World) (T:TM) (hT:T.At w) (S:SlcD) (hS:S.At w) (h24:tot T.en T.n≤39):Calls Tryz.prog 18 #[T.val,S.val] w (GroupsPost S T.toTr w):=by
 have HVA:=Lib.hid (fun W (x:Ext w W)=>svalid_any W T (hT.ext x) S (hS.ext x))
 have HGR:=Lib.hid (fun W (x:Ext w W) (hO:S.GOk T.n) (hem:S.em=false)=>grouped_any W S (hS.ext x) T.n hO hem)
 have HGN:=Lib.hid (fun W (hem:S.em=true)=>grouped_none W S hem)
 have HGK:=Lib.hid (fun (hO:S.Ok T.toTr) (he:S.em=false)=>hO.gok he h24)
 unfold GroupsPost
 simp only [TM.val] at HVA ⊢
 clear hT hS h24
 go_enter Tryz.func18,Tryz.ntmps18
 go_upto_region 1 with fail
 refine boxed2 (w:=w) (G:=fun x=>Code.wp _ _ _ _ x) ?_
 intro w1 hx1 hs1 ⟨l0,c0,_,_⟩ ⟨l1,c1,_,_⟩
 have hx11:Ext w1 w1:=Ext.refl _
 clear hs1
 go_wp2_with fail
 go_at_call 17
 refine (HVA.out w1 hx1).mono ?_
 rintro e w2 ⟨b,rfl,hb,hx12⟩
 have HB:=Lib.hid hb
 have hxw2:=hx1.trans hx12
 clear hb HVA
 cases b with
 | false =>
  have HNO:=Lib.hid (show ¬S.Ok T.toTr from fun h=>absurd (HB.out.2 h) (by decide))
  go_wp2_with fail
  go_ret2
  exact ⟨hxw2,.inl ⟨HNO.out,rfl⟩⟩
 | true =>
  have HOK:=Lib.hid (HB.out.1 rfl)
  clear HB
  rcases hem:S.em with _ | _
  ·have HEM:=Lib.hid hem
   have HG:=Lib.hid (HGR.out w2 hxw2 (HGK.out HOK.out hem) hem)
   rw [show S.val=.agg #[.bool S.em,S.f.s.v,S.l.s.v,S.j.s.v] from rfl,hem] at HG
   rw [hem] at c1
   clear hem HGR HGN HGK
   go_wp2_with fail
   go_at_call 68
   refine HG.out.mono ?_
   rintro e w3 ⟨hx23,vg,ve,G,rfl,hg,hi,hq,hf⟩
   have HR:=Lib.hid (And.intro hg (And.intro hi hf))
   clear hg hi hq hf HG
   go_wp2_with fail
   go_ret2
   exact ⟨hxw2.trans hx23,.inr (.inr ⟨HOK.out,HEM.out,vg,G,rfl,by
    obtain ⟨NG,h1,h2⟩:=HR.out.1
    exact ⟨NG,h1.mono hxw2.le,fun k hk=>(h2 k hk).mono hxw2.le⟩,HR.out.2⟩)⟩
  ·have HEM:=Lib.hid hem
   have HG:=Lib.hid (HGN.out w2 hem)
   rw [show S.val=.agg #[.bool S.em,S.f.s.v,S.l.s.v,S.j.s.v] from rfl,hem] at HG
   rw [hem] at c1
   clear hem HGR HGN HGK
   go_wp2_with fail
   go_at_call 68
   refine HG.out.mono ?_
   rintro e w3 ⟨rfl,hx23⟩
   clear HG
   go_wp2_with fail
   go_ret2
   exact ⟨hxw2.trans hx23,.inr (.inl ⟨HOK.out,HEM.out,rfl⟩)⟩
end Go.Proofs.YtlfdfkbmollaaaaGreatDoor

namespace Go.Proofs.YtlfdfkbmollaaaaGreatDoor
open Go.RowKit Go.Shelf
attribute [local go_sem] Oper.semAt_some
end Go.Proofs.YtlfdfkbmollaaaaGreatDoor

namespace Go.Proofs.YtlfdfkbmollaaaaGreatDoor
open Go.RowKit Go.Shelf
attribute [local go_sem] Oper.semAt_some
end Go.Proofs.YtlfdfkbmollaaaaGreatDoor
