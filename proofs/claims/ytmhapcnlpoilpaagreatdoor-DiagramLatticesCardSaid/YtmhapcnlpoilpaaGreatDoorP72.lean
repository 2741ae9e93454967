/- Contracts and laws in plain Lean for RApp: group P72. -/
import Derived.Test.YtmhapcnlpoilpaaGreatDoorP71
import Derived.Test.YtmhapcnlpoilpaaGreatDoorP70
namespace Go.Proofs.YtmhapcnlpoilpaaGreatDoor
open Go.RowKit Go.Shelf
def x56TM (g0 g1 gp:Nat):TM:=
 { ex56 with
  a:=some ⟨gp,0,none⟩,b:=gp,off:=0,cap:=2
  va:=fun _=>none,vb:=fun _=>0,vo:=fun _=>0,vc:=fun _=>0
  ea:=fun k=>if k=0 then some ⟨g0,0,none⟩ else some ⟨g1,0,none⟩,eb:=fun k=>if k=0 then g0 else g1,eo:=fun _=>0,ec:=fun k=>if k=0 then 2 else 1
  aa:=fun _ _=>none,ab:=fun _ _=>0,ao:=fun _ _=>0,ac:=fun _ _=>0 }
theorem okI_56:okI 0∧okI 1∧okI 2∧okI 3∧okI 5:=by unfold okI;decide
theorem x56TM_at {g0 g1 gp : Nat} {w : World}
    (h0:Hold w g0 #[.int .i64 1,.int .i64 0,.int .i64 0,.int .i64 0,.slice none 0 0,.int .i64 2,.int .i64 1,.int .i64 5,.int .i64 0,.slice none 0 0])
    (h1:Hold w g1 #[.int .i64 3,.int .i64 0,.int .i64 5,.int .i64 0,.slice none 0 0])
    (hp:Hold w gp #[.string ⟨#[97]⟩,.slice none 0 0,.slice (some ⟨g0,0,none⟩) 2 2,.string ⟨#[98]⟩,.slice none 0 0,.slice (some ⟨g1,0,none⟩) 1 1]):(x56TM g0 g1 gp).At w:=by
 have b0:=h0.box
 have b1:=h1.box
 have bp:=hp.box
 have hen:∀ k,k<2→∀ i,i<(x56TM g0 g1 gp).en k→(k=0∧i=0)∨(k=0∧i=1)∨(k=1∧i=0):=by
  intro k hk i hi
  rcases lt2E hk with rfl | rfl
  ·have:i<2:=hi
   omega
  ·have:i<1:=hi
   right;right;exact ⟨rfl,by omega⟩
 refine ⟨⟨by show (2:Nat)≤_;decide,by show (2:Nat)≤2;decide,fun _=>rfl,fun _=>bp.lt,?_,?_,?_⟩,⟨fun _ _=>by show (0:Nat)≤_;decide,fun _ _=>Nat.le_refl _,fun _ _ h=>absurd h (Nat.not_lt_zero _),fun _ _ h=>absurd h (Nat.not_lt_zero _),fun _ _ _ _ _ h=>absurd h (Nat.not_lt_zero _),fun _ _ _ _ _ h=>absurd h (Nat.not_lt_zero _)⟩,
  ⟨?_,?_,?_,?_,?_,?_,?_,?_,?_⟩,⟨fun _ _ _ _=>by show (0:Nat)≤_;decide,fun _ _ _ _=>Nat.le_refl _,fun _ _ _ _ h=>absurd h (Nat.not_lt_zero _),fun _ _ _ _ h=>absurd h (Nat.not_lt_zero _),fun _ _ _ _ _ _ _ h=>absurd h (Nat.not_lt_zero _),fun _ _ _ _ _ _ _ h=>absurd h (Nat.not_lt_zero _)⟩,?_⟩
 ·intro w' x k hk
  rcases lt2E hk with rfl | rfl
  ·exact bp.cell w' x 0
  ·exact bp.cell w' x 3
 ·intro w' x k hk
  rcases lt2E hk with rfl | rfl
  ·exact bp.cell w' x 1
  ·exact bp.cell w' x 4
 ·intro w' x k hk
  rcases lt2E hk with rfl | rfl
  ·exact bp.cell w' x 2
  ·exact bp.cell w' x 5
 ·intro k hk
  rcases lt2E hk with rfl | rfl
  ·show (2:Nat)≤_;decide
  ·show (1:Nat)≤_;decide
 ·intro k hk
  rcases lt2E hk with rfl | rfl
  ·exact Nat.le_refl _
  ·exact Nat.le_refl _
 ·intro k hk _
  rcases lt2E hk with rfl | rfl <;> rfl
 ·intro k hk _
  rcases lt2E hk with rfl | rfl
  ·exact b0.lt
  ·exact b1.lt
 ·intro w' x k i hk hi
  rcases hen k hk i hi with ⟨rfl,rfl⟩ | ⟨rfl,rfl⟩ | ⟨rfl,rfl⟩
  ·exact b0.cell w' x 0
  ·exact b0.cell w' x 5
  ·exact b1.cell w' x 0
 ·intro w' x k i hk hi
  rcases hen k hk i hi with ⟨rfl,rfl⟩ | ⟨rfl,rfl⟩ | ⟨rfl,rfl⟩
  ·exact b0.cell w' x 1
  ·exact b0.cell w' x 6
  ·exact b1.cell w' x 1
 ·intro w' x k i hk hi
  rcases hen k hk i hi with ⟨rfl,rfl⟩ | ⟨rfl,rfl⟩ | ⟨rfl,rfl⟩
  ·exact b0.cell w' x 2
  ·exact b0.cell w' x 7
  ·exact b1.cell w' x 2
 ·intro w' x k i hk hi
  rcases hen k hk i hi with ⟨rfl,rfl⟩ | ⟨rfl,rfl⟩ | ⟨rfl,rfl⟩
  ·exact b0.cell w' x 3
  ·exact b0.cell w' x 8
  ·exact b1.cell w' x 3
 ·intro w' x k i hk hi
  rcases hen k hk i hi with ⟨rfl,rfl⟩ | ⟨rfl,rfl⟩ | ⟨rfl,rfl⟩
  ·exact b0.cell w' x 4
  ·exact b0.cell w' x 9
  ·exact b1.cell w' x 4
 ·refine ⟨fun k hk=>?_,fun _ _ _ h=>absurd h (Nat.not_lt_zero _),fun _ _ _ h=>absurd h (Nat.not_lt_zero _),fun k i hk hi=>?_,fun k i hk hi=>?_,fun k i hk hi=>?_,fun _ _ _ _=>okI_56.1,fun _ _ _ _ _ h=>absurd h (Nat.not_lt_zero _),fun _ _ _ _ _ h=>absurd h (Nat.not_lt_zero _)⟩
  ·rcases lt2E hk with rfl | rfl
   ·show (1:Nat)≤_;decide
   ·show (1:Nat)≤_;decide
  ·rcases hen k hk i hi with ⟨rfl,rfl⟩ | ⟨rfl,rfl⟩ | ⟨rfl,rfl⟩ <;> first | exact okI_56.1 | exact okI_56.2.1 | exact okI_56.2.2.1 | exact okI_56.2.2.2.1 | exact okI_56.2.2.2.2
  ·rcases hen k hk i hi with ⟨rfl,rfl⟩ | ⟨rfl,rfl⟩ | ⟨rfl,rfl⟩ <;> first | exact okI_56.1 | exact okI_56.2.1 | exact okI_56.2.2.1 | exact okI_56.2.2.2.1 | exact okI_56.2.2.2.2
  ·rcases hen k hk i hi with ⟨rfl,rfl⟩ | ⟨rfl,rfl⟩ | ⟨rfl,rfl⟩ <;> first | exact okI_56.1 | exact okI_56.2.1 | exact okI_56.2.2.1 | exact okI_56.2.2.2.1 | exact okI_56.2.2.2.2
def lat56:List UInt8:=[48,58,32,40,48,32,48,41,10,49,58,32,40,49,32,48,41,10,50,58,32,40,50,32,48,41,10,51,58,32,40,50,32,49,41,10]
theorem cutT2 (a b:Nat) (ha:a<10) (hb:b<10):cutT [a,b]=[40,UInt8.ofNat (48+a),32,UInt8.ofNat (48+b),41]:=by
 unfold cutT wriL
 have:itoaL (natV (fn [a,b])) [a,b].length=[[UInt8.ofNat (48+a)],[UInt8.ofNat (48+b)]]:=by
  show [Lib.itoa (a:Int),Lib.itoa (b:Int)]=_
  rw [itoa_digit a ha,itoa_digit b hb]
 rw [this];rfl
theorem latT56:latT [[0,0],[1,0],[2,0],[2,1]]=lat56:=by
 have i0:Lib.itoa 0=[48]:=itoa_digit 0 (by decide)
 have i1:Lib.itoa 1=[49]:=itoa_digit 1 (by decide)
 have i2:Lib.itoa 2=[50]:=itoa_digit 2 (by decide)
 have i3:Lib.itoa 3=[51]:=itoa_digit 3 (by decide)
 have s0:cutS [0,0]=0:=by rfl
 have s1:cutS [1,0]=1:=by rfl
 have s2:cutS [2,0]=2:=by rfl
 have s3:cutS [2,1]=3:=by rfl
 unfold latT
 show latL _ _ 4++[10]=_
 simp only [latL,List.getD_cons_zero,List.getD_cons_succ,s0,s1,s2,s3,i0,i1,i2,i3,cutT2 0 0 (by decide) (by decide),cutT2 1 0 (by decide) (by decide),cutT2 2 0 (by decide) (by decide),cutT2 2 1 (by decide) (by decide)]
 rfl
theorem few56 {M:List (List Nat)} (h1:M.Pairwise (fun a b=>befP ex56.n (fn a) (fn b))) (h2:∀ l∈M,CutL ex56 l):M.length≤4:=cuts_le cuts56 h1 h2
set_option maxRecDepth 100000 in
set_option maxHeartbeats 4000000 in
theorem awake56_any (w:World) (hTb:Tb w):Calls Tryz.prog 7 #[] w fun e w'=>e=.returned (.bool true)∧Ext w w':=by
 have HTB:=Lib.hid hTb
 clear hTb
 go_enter Tryz.func7,Tryz.ntmps7
 go_upto_region 2 with fail
 refine boxed4 (w:=w) (G:=fun x=>Code.wp _ _ _ _ x) ?_
 intro w1 hx1 hs1 ⟨_,_,_,k0⟩ ⟨_,_,_,k1⟩ ⟨_,_,_,k2⟩ ⟨l3,c3,_,_⟩
 have HA1:=Lib.hid (show (x56TM w.heap.size (w.heap.size+1) (w.heap.size+1+1)).At w1 from x56TM_at k0 k1 k2)
 have h11:Ext w1 w1:=Ext.refl _
 clear k0 k1 k2 hs1
 have HD:=Lib.hid (ddraw_any w1 (HTB.out.ext hx1) _ HA1.out)
 go_wp2_with fail
 go_at_call 10
 refine Calls.mono (show Calls _ _ #[.agg #[.slice (some ⟨w.heap.size+1+1,0,none⟩) 2 2]] _ _ from HD.out) ?_
 rintro e w2 ⟨hx2,hp⟩
 obtain ⟨l,hl,rfl⟩:∃ l,l=dra56∧e=.returned (limV l):=by
  rcases hp with ⟨_,l,⟨rows,m,h1,h2,h3⟩,h4⟩ | ⟨h,_⟩
  ·exact ⟨l,h3.trans (ex56_dra h1 h2),h4⟩
  ·exact absurd ex56_valid h
 subst hl
 have hv1:limV dra56=.tuple #[.string (bts dra56),.int .i64 0]:=if_neg (by decide)
 rw [hv1]
 clear hp hv1 HD
 have hxw2:=hx1.trans hx2
 have HD:=Lib.hid (dlat_any w2 (HTB.out.ext hxw2) _ (HA1.out.ext hx2) ex56_valid)
 go_wp2_with fail
 go_at_call 28
 refine Calls.mono (show Calls _ _ #[.agg #[.slice (some ⟨w.heap.size+1+1,0,none⟩) 2 2]] _ _ from HD.out) ?_
 rintro e w3 ⟨hx3,hp⟩
 obtain rfl:e=.returned (limV lat56):=by
  rcases hp with ⟨L,h1,_,h2⟩ | ⟨_,M,h1,h2,h3⟩
  ·rw [h2,cuts_uniq h1 cuts56,latT56]
  ·have:=few56 h1 h2;omega
 have hv2:limV lat56=.tuple #[.string (bts lat56),.int .i64 0]:=if_neg (by decide)
 rw [hv2]
 clear hp hv2 HD
 have hxw3:=hxw2.trans hx3
 unfold bts dra56 lat56
 go_wp2_with fail
 go_ret
 exact ⟨rfl,hxw3⟩
end Go.Proofs.YtmhapcnlpoilpaaGreatDoor
