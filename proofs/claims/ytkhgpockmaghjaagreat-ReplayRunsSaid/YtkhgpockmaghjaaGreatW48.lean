/- Contracts and laws in plain Lean for RApp: group W48. -/
import Derived.Test.YtkhgpockmaghjaaGreatW46
import Derived.Test.YtkhgpockmaghjaaGreatW45
import Derived.Maps.RangeRun
import Derived.Test.YtkhgpockmaghjaaGreatW02
import Derived.Test.YtkhgpockmaghjaaGreatW20
set_option maxRecDepth 100000
namespace Go.Proofs.YtkhgpockmaghjaaGreat
open Go.RowKit Go.Shelf
attribute [local go_sem] Oper.semAt_some
theorem MdI.look {w1 wr : World} {bm : Nat} {ks : List NN} {NV : NN → Value} {G : NN → List NN} (h : MdI w1 bm ks NV G wr) {z : NN} (hz : z ∈ ks) :
    (Instr.lookup 112 (.map (some bm)) (evV (evI z)) false).run Tryz.prog wr=.ok (NV z) wr:=by
 obtain ⟨L,hL,_,hl⟩:=h.mp
 exact hL.look Tryz.underlying112 (hl z hz)
theorem evCells_app' (l m:List (Int × Int)):evCells (l++m)=evCells l++evCells m:=by simp [evCells]
structure RcW (wA:World) (bs:Nat) (S Q:List NN) (v:Value) (wr:World):Prop where
 x:Ext wA wr
 qu:Que wr (bs+1) 2 v Q.length (evCells (Q.map evI))
 set:SetAt wr bs (S.map evI)
theorem RcW.ext {wA wr w':World} {bs:Nat} {S Q:List NN} {v:Value} (h:RcW wA bs S Q v wr) (e:Ext wr w'):RcW wA bs S Q v w':=⟨h.x.trans e,h.qu.ext e,h.set.ext e⟩
theorem RcW.app {wA wr w':World} {bs:Nat} {S Q R:List NN} {v v':Value} (h:RcW wA bs S Q v wr) (hb:wA.heap.size≤bs+1) (hq:Que w' (bs+1) 2 v' (Q.length+R.length) (evCells (Q.map evI)++evCells (R.map evI))) (hg:wr.grownBy w' v.ownBlock):RcW wA bs S (Q++R) v' w':=by
 have hlt:=h.set.lt
 refine ⟨Below.grown h.x hg h.x.le fun g e=>Nat.le_trans hb (h.qu.block g e),by rw [List.length_append,List.map_append,evCells_app'];exact hq,?_⟩
 obtain ⟨es,c,hb2,he⟩:=h.set
 exact ⟨es,c,(hg.block bs hlt fun e=>by have:=h.qu.block bs e.symm;omega).trans hb2,he⟩
theorem evCells_len2 (Q:List NN):(evCells (Q.map evI)).length=Q.length*2:=by rw [evCells_length,List.length_map]
set_option maxHeartbeats 4000000 in
theorem reaches_any (W : World) {w1 : World} {bm : Nat} {ks : List NN} {NV : NN → Value} {G : NN → List NN} {V : NN → Prop} (hM : MdI w1 bm ks NV G W) (hks : ∀ z, V z → z ∈ ks) (hGV : ∀ z, V z → ∀ y, y ∈ G z → V y) (hGL : ∀ z, V z → (G z).length ≤ 1002)
    (hCN:∀ S:List NN,S.Nodup→(∀ y,y∈S→V y)→S.length≤512) (x y:NN) (hx:V x) (f:Nat) (lb:Array Value) (p:NN→Bool) (ef:Enters Tryz.prog f)
    (hp:∀ z,V z→∀ w',Ext W w'→Calls Tryz.prog f (#[.agg #[.int .i64 (z.1:Int),.int .i64 ((z.2:Int)+1)]]++lb) w' fun e w''=>e=.returned (.bool (p z))∧Ext w' w'') :
    Calls Tryz.prog 91 #[.map (some bm),.agg #[.int .i64 (x.1:Int),.int .i64 ((x.2:Int)+1)],.agg #[.int .i64 (y.1:Int),.int .i64 ((y.2:Int)+1)],.func (.func f) #[] lb] W (BoolPost (Rch G ((G x).filter fun z=>!p z) y) W):=by
 obtain ⟨i0,hi0,hz0,hz1,hz2⟩:=info_parts infoEv
 obtain ⟨xp,xi⟩:=x
 obtain ⟨yp,yi⟩:=y
 have HM:=Lib.hid (fun W' (e:Ext W W') z (hz:V z)=>(hM.ext e).look (hks z hz))
 have HRW:=Lib.hid (fun W' (e:Ext W W') z (hz:V z)=>(show EvOwn W' w1.heap.size (NV z) ((G z).map evI)∧∃ a c,NV z=.slice a (G z).length c from by
  have h1:=((hM.ext e).rows z (hks z hz)).1
  obtain ⟨a,c,h2⟩:=h1.form
  rw [List.length_map] at h2
  exact ⟨h1,a,c,h2⟩))
 have HGV:=Lib.hid hGV
 have HGL:=Lib.hid hGL
 have HCN:=Lib.hid hCN
 have HP:=Lib.hid hp
 have HVX:=Lib.hid hx
 unfold Enters at ef
 dsimp only
 clear hM hks hGV hGL hCN hp hx
 have hmm:=@run_makeMap Tryz.prog
 go_enter Tryz.func91,Tryz.ntmps91
 go_upto_region 1 with fail
 refine boxed2 (w:=W) (G:=fun x=>Code.wp _ _ _ _ x) ?_
 intro wA hxA hsA ⟨l0,c0,_,_⟩ ⟨l1,c1,_,_⟩
 clear hsA
 go_upto_region 2 with fail
 have hset0:=SetAt.new wA
 have hx2:Ext wA (wA.alloc (.map #[] 0)):=Ext.alloc _ _
 have hs2:(wA.alloc (.map #[] 0)).heap.size=wA.heap.size+1:=by simp
 obtain ⟨bs,hbs⟩:∃ z,z=wA.heap.size:=⟨_,rfl⟩
 rw [←hbs] at hset0 hs2 ⊢
 generalize wA.alloc (.map #[] 0)=w2 at hset0 hx2 hs2 ⊢
 have hW2:=hxA.trans hx2
 have H2:=Lib.hid (show RcW wA bs [] [] (.slice none 0 0) w2 from ⟨hx2,Que.nil _ _ _,hset0⟩)
 have hlk:=HM.out w2 hW2 _ HVX.out
 obtain ⟨hrow,ra,rc,hrf⟩:=HRW.out w2 hW2 _ HVX.out
 obtain ⟨rn,hrn⟩:∃ z,z=(G (xp,xi)).length:=⟨_,rfl⟩
 rw [hrf,←hrn] at hlk
 have HROW:=Lib.hid (show EvOwn w2 w1.heap.size (.slice ra rn rc) ((G (xp,xi)).map evI) from by rw [hrf,←hrn] at hrow;exact hrow)
 have HRN:=Lib.hid (show rn=(G (xp,xi)).length∧rn≤1002 from ⟨hrn,by rw [hrn];exact HGL.out _ HVX.out⟩)
 simp only [evV] at hlk
 have HBS:=Lib.hid hbs
 have hrn2:rn≤1002:=HRN.out.2
 have hbs1:wA.heap.size≤bs+1:=by omega
 clear hset0 hrow hrf hrn hbs
 go_wp2_with fail
 go_loopg [10,19] rn (fun gg v10 v19 wr=>∃ i:Nat,i≤rn∧gg=rn - i∧v19=.int .i64 i∧RcW wA bs [] (((G (xp,xi)).take i).filter fun z=>!p z) v10 wr∧Ext w2 wr)
 case atStart=>exact ⟨0,by omega,rfl,rfl,H2.out,Ext.refl _⟩
 case round=>
  obtain ⟨i,hi,rfl,rfl,hR,hx2r⟩:=hrel
  have hxAr:=hR.x
  have hWr:=hxA.trans hxAr
  obtain ⟨qa,qc,hqf⟩:=hR.qu.slice
  subst hqf
  have HR:=Lib.hid hR
  have HQL:=Lib.hid (show (((G (xp,xi)).take i).filter fun z=>!p z).length≤1002 from by
   have h1:=List.length_filter_le (fun z=>!p z) ((G (xp,xi)).take i)
   rw [List.length_take] at h1
   have:=HRN.out;omega)
  obtain ⟨qn,hqn⟩:∃ z,z=(((G (xp,xi)).take i).filter fun z=>!p z).length:=⟨_,rfl⟩
  have hqn2:qn≤1002:=by rw [hqn];exact HQL.out
  have HQN:=Lib.hid hqn
  rw [←hqn] at HR ⊢
  clear hR hqn hx2 hW2 hlk
  by_cases hlt:i<rn
  ·have hlt':(i:Int)<(rn:Int):=by omega
   have hiG:i<(G (xp,xi)).length:=by rw [←HRN.out.1];exact hlt
   obtain ⟨a3,cap3,g3,hv3,-,ha3,hg3,t0,t1⟩:=(HROW.out.kept hx2r).read
   simp only [Value.slice.injEq] at hv3
   obtain ⟨rfl,hv3b,rfl⟩:=hv3
   obtain rfl:=ha3 (by rw [List.length_map];omega)
   have hg3:=hg3 (by rw [List.length_map];omega)
   obtain ⟨⟨zp,zi⟩,hz⟩:∃ z,z=(G (xp,xi))[i]:=⟨_,rfl⟩
   have s0:∀ w',Ext wr w'→w'.cell? ⟨g3,i*2,none⟩=some (.int .i64 zp):=fun w' h=>by
    have:=t0 w' h i (by rw [List.length_map];exact hiG)
    rw [this,List.getElem_map,←hz]
   have s1:∀ w',Ext wr w'→w'.cell? ⟨g3,i*2+1,none⟩=some (.int .i64 (zi+1)):=fun w' h=>by
    have:=t1 w' h i (by rw [List.length_map];exact hiG)
    rw [this,List.getElem_map,←hz]
   have HVZ:=Lib.hid (show V (zp,zi) from by rw [hz];exact HGV.out _ HVX.out _ (List.getElem_mem hiG))
   have HTK:=Lib.hid (show (G (xp,xi)).take (i+1)=(G (xp,xi)).take i++[(zp,zi)] from by rw [hz,List.take_add_one,List.getElem?_eq_getElem hiG];rfl)
   have hrr:Ext wr wr:=Ext.refl _
   clear hz t0 t1 hv3b ha3
   go_upto_region 6 with fail
   refine boxed1 (w:=wr) (G:=fun x=>Code.wp _ _ _ _ x) ?_
   intro w5 hx5 hs5 ⟨l5,c5,_,_⟩
   have hx55:Ext w5 w5:=Ext.refl _
   have hcall:=HP.out _ HVZ.out w5 (hWr.trans hx5)
   have HR5:=Lib.hid (HR.out.ext hx5)
   dsimp only at hcall
   clear hs5 s0 s1
   obtain ⟨b,hb⟩:∃ b,b=p (zp,zi):=⟨_,rfl⟩
   rw [←hb] at hcall
   cases b with
   | true =>
    have HF:=Lib.hid (show ((G (xp,xi)).take (i+1)).filter (fun z=>!p z)=((G (xp,xi)).take i).filter fun z=>!p z from by rw [HTK.out,List.filter_append];simp [←hb])
    clear hb
    go_wp2_with (go_at_fn f;refine hcall.mono ?_;rintro e w6 ⟨rfl,hx6⟩)
    go_roundg (rn - (i+1))
    case rel=>exact ⟨i+1,by omega,rfl,by go_num,by rw [HF.out];exact HR5.out.ext hx6,hx2r.trans (hx5.trans hx6)⟩
    case measure=>omega
   | false =>
    have HF:=Lib.hid (show ((G (xp,xi)).take (i+1)).filter (fun z=>!p z)=(((G (xp,xi)).take i).filter fun z=>!p z)++[(zp,zi)] from by rw [HTK.out,List.filter_append];simp [←hb])
    clear hb
    go_upto_region 7 with (go_at_fn f;refine hcall.mono ?_;rintro e w6 ⟨rfl,hx6⟩)
    have HR6:=Lib.hid (HR5.out.ext (hx6.trans (Ext.alloc w6 (.cells #[.int .i64 (zp:Int),.int .i64 ((zi:Int)+1)] 79))))
    have hxr6:=hx5.trans hx6
    go_wp2_with (at_builtin;refine wpList_append_que _ rfl _ _ 129 129 rfl (base:=bs+1) (e:=79) (size:=2) i0 (.agg #[.int .i64 0,.int .i64 0]) 16 Tryz.underlying129 hi0 hz0 hz1 hz2 rfl rfl (v:=.slice qa qn qc) (n:=qn) (xs:=evCells ((((G (xp,xi)).take i).filter fun z=>!p z).map evI)) (by have h1:=HR6.out.qu;rw [←HQN.out] at h1;exact h1) (by have:=HR6.out.set.lt;omega) (.slice (some ⟨w6.heap.size,0,none⟩) 1 1) 1 [.int .i64 (zp:Int),.int .i64 ((zi:Int)+1)] rfl (by exact Src.ofSlice _ Tryz.underlying129 ⟨w6.heap.size,0,none⟩ 1 1 _ rfl (news_ok w6 _ _) (by intro u hu;simp at hu;rcases hu with rfl | rfl <;> rfl)) (by unfold maxLen;omega) (by omega) ?_;rintro v8 w8 hq8 hg8 -;have H8:=Lib.hid (HR6.out.app (R:=[(zp,zi)]) hbs1 (by rw [←HQN.out];exact hq8) hg8);have HX8:=Lib.hid (show Ext w2 w8 from Below.grown (hx2r.trans (hxr6.trans (Ext.alloc w6 (.cells #[.int .i64 (zp:Int),.int .i64 ((zi:Int)+1)] 79)))) hg8 (by have:=(hx2r.trans (hxr6.trans (Ext.alloc w6 (.cells #[.int .i64 (zp:Int),.int .i64 ((zi:Int)+1)] 79)))).le;omega) fun g e=>by rw [hs2];have h1:=HR6.out.qu;rw [←HQN.out] at h1;exact h1.block g e);clear hq8 hg8)
    go_roundg (rn - (i+1))
    case rel=>exact ⟨i+1,by omega,rfl,by go_num,by rw [HF.out];exact H8.out,HX8.out⟩
    case measure=>omega
  ·obtain rfl:i=rn:=by omega
   have HA:=Lib.hid (show (G (xp,xi)).take i=G (xp,xi) from List.take_of_length_le (by rw [HRN.out.1];exact Nat.le_refl _))
   rw [HA.out] at HR HQL
   obtain ⟨A,hA⟩:∃ A,A=(G (xp,xi)).filter fun z=>!p z:=⟨_,rfl⟩
   rw [←hA] at HR HQL
   have HB0:=Lib.hid (show Bfs G V A (yp,yi) [] A from Bfs.init fun z hz=>HGV.out _ HVX.out z (by rw [hA] at hz;exact (List.mem_filter.1 hz).1))
   rw [HA.out,←hA] at HQN
   have HA2:=Lib.hid hA
   clear hA hWr hx2r hqn2
   go_wp2_with fail
   go_loopg [10] (512*2000+A.length) (fun gg v10 wr=>∃ S Q:List NN,gg=(512 - S.length)*2000+Q.length∧RcW wA bs S Q v10 wr∧Bfs G V A (yp,yi) S Q∧Q.length≤1002*(S.length+1))
   case atStart=>exact ⟨[],A,rfl,HR.out,HB0.out,by have:=HQL.out;simp only [List.length_nil];omega⟩
   case round=>
    obtain ⟨S,Q,rfl,hR,hB,hQl⟩:=hrel
    have hxAr:=hR.x
    have hWr:=hxA.trans hxAr
    have hrr:Ext wr wr:=Ext.refl _
    clear HR HB0
    cases Q with
    | nil =>
     obtain ⟨ao,cp,hv⟩:∃ ao cp,u10=.slice ao 0 cp:=by
      rcases hR.qu.val with ⟨ao,h,_⟩ | ⟨g,off,cap,h,_⟩
      ·exact ⟨_,_,h⟩
      ·exact ⟨_,_,h⟩
     subst hv
     have HF:=Lib.hid (show ¬Rch G ((G (xp,xi)).filter fun z=>!p z) (yp,yi) from by rw [←HA2.out];exact hB.none)
     clear hR hB
     go_wp2_with fail
     go_ret
     exact ⟨false,rfl,⟨fun h=>(by cases h),fun h=>absurd h HF.out⟩,hWr⟩
    | cons z Q =>
     obtain ⟨zp,zi⟩:=z
     have HB:=Lib.hid hB
     have HVZ:=Lib.hid (hB.vq _ List.mem_cons_self)
     have HQL2:=Lib.hid hQl
     have HSN:=Lib.hid (HCN.out S hB.nodup hB.vs)
     have HBL:=Lib.hid hR.set.lt
     obtain ⟨g,off,cap,hv,hgb,hgl,hcp,hcm,hcell,htail⟩:=Que.tail (n:=Q.length) hR.qu
     subst hv
     have q0:∀ w',Ext wr w'→w'.cell? ⟨g,off,none⟩=some (.int .i64 zp):=fun w' h=>h.cell ((hcell 0 (by omega)).trans rfl)
     have q1:∀ w',Ext wr w'→w'.cell? ⟨g,off+1,none⟩=some (.int .i64 (zi+1)):=fun w' h=>h.cell ((hcell 1 (by omega)).trans rfl)
     have hgl':∀ w',Ext wr w'→g<w'.heap.size:=fun w' h=>Nat.lt_of_lt_of_le hgl h.le
     have hcp':1≤cap:=by omega
     have HT:=Lib.hid htail
     have HSET:=Lib.hid hR.set
     have HQL:=Lib.hid (show Q.length≤1002*513∧Q.length+1≤1002*(S.length+1) from by have h1:=HQL2.out;have h2:=HSN.out;simp only [List.length_cons] at h1;omega)
     clear hR hB hQl htail hcell
     go_upto_region 12 with fail
     refine boxed1 (w:=wr) (G:=fun x=>Code.wp _ _ _ _ x) ?_
     intro w5 hx5 hs5 ⟨l5,c5,_,k5⟩
     have hx55:Ext w5 w5:=Ext.refl _
     have hxA5:=hxAr.trans hx5
     have HV1:=Lib.hid (HT.out.ext hx5)
     generalize Value.slice (if cap=1 then some (⟨g,off,none⟩:Addr) else some ⟨g,off+2,none⟩) Q.length (cap - 1)=v1 at HV1 ⊢
     have H5:=Lib.hid (show RcW wA bs S Q v1 w5 from ⟨hxA5,by exact HV1.out,HSET.out.ext hx5⟩)
     have K5:=Lib.hid (show Hold w5 wr.heap.size #[.int .i64 (zp:Int),.int .i64 ((zi:Int)+1)] from k5)
     clear q0 q1 hgl' HT hgb hgl hcp hcm hcp' k5 hs5 HSET hrr
     have hlk:=run_lookup_ev H5.out.set (evI (zp,zi))
     by_cases e1:zp=yp
     ·subst e1
      by_cases e2:zi=yi
      ·subst e2
       have HH:=Lib.hid (show Rch G ((G (xp,xi)).filter fun z=>!p z) (zp,zi) from by rw [←HA2.out];exact HB.out.hit)
       clear hlk
       go_wp2_with fail
       go_ret
       exact ⟨true,rfl,⟨fun _=>HH.out,fun _=>rfl⟩,hWr.trans hx5⟩
      ·have hzy:(zp,zi)≠(zp,yi):=fun h=>e2 (Prod.mk.inj h).2
       have e3:¬(zi:Int)=(yi:Int):=by omega
       by_cases hin:(zp,zi)∈S
       ·rw [decide_eq_true (evI_mem.2 hin)] at hlk
        have HK:=Lib.hid (HB.out.skip hin)
        go_wp2_with fail
        go_roundg ((512 - S.length)*2000+Q.length)
        case rel=>exact ⟨S,Q,rfl,H5.out,HK.out,by have:=HQL.out.2;omega⟩
        case measure=>simp only [List.length_cons];omega
       ·rw [decide_eq_false (fun h=>hin (evI_mem.1 h))] at hlk
        have HBN:=Lib.hid (HB.out.push hin hzy (HGV.out _ HVZ.out))
        have HSL:=Lib.hid (show S.length+1≤512 from by have:=HCN.out _ HBN.out.nodup HBN.out.vs;rw [List.length_append] at this;exact this)
        obtain ⟨o,hup,hset⟩:=run_update_ev H5.out.set (evI (zp,zi)) (fun h=>hin (evI_mem.1 h))
        have hsz7:(w5.putObj bs o).heap.size=w5.heap.size:=by simp
        have H7:=Lib.hid (show RcW wA bs (S++[(zp,zi)]) Q v1 (w5.putObj bs o) from ⟨H5.out.x.putObj (Nat.le_of_eq HBS.out.symm) o,H5.out.qu.same (by rw [hsz7];exact Nat.le_refl _) (fun g hg _=>World.putObj_heap_other (by omega)),by rw [List.map_append];exact hset⟩)
        have k7:=(show Hold w5 wr.heap.size _ from K5.out).putObj bs o (by have:=HBL.out;omega)
        obtain ⟨l7,c7,_,_⟩:=k7.box
        clear hset hsz7 k7 K5 H5
        generalize w5.putObj bs o=w7 at hup H7 l7 c7
        have hx77:Ext w7 w7:=Ext.refl _
        have hW7:Ext W w7:=hxA.trans H7.out.x
        have hlk2:=HM.out w7 hW7 _ HVZ.out
        obtain ⟨zq,za,zc,hzf⟩:=HRW.out w7 hW7 _ HVZ.out
        obtain ⟨zn,hzn⟩:∃ q,q=(G (zp,zi)).length:=⟨_,rfl⟩
        have HZN:=Lib.hid (show zn=(G (zp,zi)).length∧zn≤1002 from ⟨hzn,by rw [hzn];exact HGL.out _ HVZ.out⟩)
        rw [hzf,←hzn] at hlk2
        have HZS:=Lib.hid (show Src Tryz.prog 2 129 (.slice za zn zc) zn (evCells ((G (zp,zi)).map evI)) w7 from by
         have h1:=(Que.own zq).src (P:=Tryz.prog) Tryz.underlying129 (evCells_one _)
         rw [hzf,List.length_map,←hzn] at h1;exact h1)
        simp only [evV] at hlk hlk2 hup
        clear zq hzf hzn
        go_wp2_with (at_builtin;refine wpList_append_que _ rfl _ _ 129 129 rfl (base:=bs+1) (e:=79) (size:=2) i0 (.agg #[.int .i64 0,.int .i64 0]) 16 Tryz.underlying129 hi0 hz0 hz1 hz2 rfl rfl (v:=v1) (n:=Q.length) (xs:=evCells (Q.map evI)) H7.out.qu (by have:=H7.out.set.lt;omega) (.slice za zn zc) zn (evCells ((G (zp,zi)).map evI)) rfl HZS.out (by have h1:=HQL.out.1;have h2:=HZN.out.2;unfold maxLen;omega) (by have h1:=HQL.out.1;have h2:=HZN.out.2;omega) ?_;rintro v8 w8 hq8 hg8 -;have H8:=Lib.hid (H7.out.app (R:=G (zp,zi)) hbs1 (by rw [←HZN.out.1];exact hq8) hg8);clear hq8 hg8)
        go_roundg ((512 - (S.length+1))*2000+(Q.length+zn))
        case rel=>exact ⟨S++[(zp,zi)],Q++G (zp,zi),by rw [List.length_append,List.length_append,←HZN.out.1];rfl,H8.out,HBN.out,by rw [List.length_append,List.length_append,←HZN.out.1];have h1:=HQL.out;have h2:=HZN.out.2;simp only [List.length_cons,List.length_nil];omega⟩
        case measure=>have h1:=HSL.out;have h2:=HZN.out.2;simp only [List.length_cons];omega
     ·have hzy:(zp,zi)≠(yp,yi):=fun h=>e1 (Prod.mk.inj h).1
      have e3:¬(zp:Int)=(yp:Int):=by omega
      by_cases hin:(zp,zi)∈S
      ·rw [decide_eq_true (evI_mem.2 hin)] at hlk
       have HK:=Lib.hid (HB.out.skip hin)
       go_wp2_with fail
       go_roundg ((512 - S.length)*2000+Q.length)
       case rel=>exact ⟨S,Q,rfl,H5.out,HK.out,by have:=HQL.out.2;omega⟩
       case measure=>simp only [List.length_cons];omega
      ·rw [decide_eq_false (fun h=>hin (evI_mem.1 h))] at hlk
       have HBN:=Lib.hid (HB.out.push hin hzy (HGV.out _ HVZ.out))
       have HSL:=Lib.hid (show S.length+1≤512 from by have:=HCN.out _ HBN.out.nodup HBN.out.vs;rw [List.length_append] at this;exact this)
       obtain ⟨o,hup,hset⟩:=run_update_ev H5.out.set (evI (zp,zi)) (fun h=>hin (evI_mem.1 h))
       have hsz7:(w5.putObj bs o).heap.size=w5.heap.size:=by simp
       have H7:=Lib.hid (show RcW wA bs (S++[(zp,zi)]) Q v1 (w5.putObj bs o) from ⟨H5.out.x.putObj (Nat.le_of_eq HBS.out.symm) o,H5.out.qu.same (by rw [hsz7];exact Nat.le_refl _) (fun g hg _=>World.putObj_heap_other (by omega)),by rw [List.map_append];exact hset⟩)
       have k7:=(show Hold w5 wr.heap.size _ from K5.out).putObj bs o (by have:=HBL.out;omega)
       obtain ⟨l7,c7,_,_⟩:=k7.box
       clear hset hsz7 k7 K5 H5
       generalize w5.putObj bs o=w7 at hup H7 l7 c7
       have hx77:Ext w7 w7:=Ext.refl _
       have hW7:Ext W w7:=hxA.trans H7.out.x
       have hlk2:=HM.out w7 hW7 _ HVZ.out
       obtain ⟨zq,za,zc,hzf⟩:=HRW.out w7 hW7 _ HVZ.out
       obtain ⟨zn,hzn⟩:∃ q,q=(G (zp,zi)).length:=⟨_,rfl⟩
       have HZN:=Lib.hid (show zn=(G (zp,zi)).length∧zn≤1002 from ⟨hzn,by rw [hzn];exact HGL.out _ HVZ.out⟩)
       rw [hzf,←hzn] at hlk2
       have HZS:=Lib.hid (show Src Tryz.prog 2 129 (.slice za zn zc) zn (evCells ((G (zp,zi)).map evI)) w7 from by
        have h1:=(Que.own zq).src (P:=Tryz.prog) Tryz.underlying129 (evCells_one _)
        rw [hzf,List.length_map,←hzn] at h1;exact h1)
       simp only [evV] at hlk hlk2 hup
       clear zq hzf hzn
       go_wp2_with (at_builtin;refine wpList_append_que _ rfl _ _ 129 129 rfl (base:=bs+1) (e:=79) (size:=2) i0 (.agg #[.int .i64 0,.int .i64 0]) 16 Tryz.underlying129 hi0 hz0 hz1 hz2 rfl rfl (v:=v1) (n:=Q.length) (xs:=evCells (Q.map evI)) H7.out.qu (by have:=H7.out.set.lt;omega) (.slice za zn zc) zn (evCells ((G (zp,zi)).map evI)) rfl HZS.out (by have h1:=HQL.out.1;have h2:=HZN.out.2;unfold maxLen;omega) (by have h1:=HQL.out.1;have h2:=HZN.out.2;omega) ?_;rintro v8 w8 hq8 hg8 -;have H8:=Lib.hid (H7.out.app (R:=G (zp,zi)) hbs1 (by rw [←HZN.out.1];exact hq8) hg8);clear hq8 hg8)
       go_roundg ((512 - (S.length+1))*2000+(Q.length+zn))
       case rel=>exact ⟨S++[(zp,zi)],Q++G (zp,zi),by rw [List.length_append,List.length_append,←HZN.out.1];rfl,H8.out,HBN.out,by rw [List.length_append,List.length_append,←HZN.out.1];have h1:=HQL.out;have h2:=HZN.out.2;simp only [List.length_cons,List.length_nil];omega⟩
       case measure=>have h1:=HSL.out;have h2:=HZN.out.2;simp only [List.length_cons];omega
end Go.Proofs.YtkhgpockmaghjaaGreat

namespace Go.Proofs.YtkhgpockmaghjaaGreat
open Go.RowKit Go.Shelf Go.ChangeMaps
attribute [local go_sem] Oper.semAt_some
set_option maxHeartbeats 400000 in
theorem cyc1_any (w:World) (x:NN):Calls Tryz.prog 105 #[.agg #[.int .i64 (x.1:Int),.int .i64 ((x.2:Int)+1)]] w fun e w'=>e=.returned (.bool false)∧Ext w w':=by
 go_enter Tryz.func105,Tryz.ntmps105
 go_wp2
 go_ret
 exact ⟨rfl,Ext.alloc _ _⟩
theorem rch_self {G:NN→List NN} {x:NN}:Rch G ((G x).filter fun _=>!false) x↔Path G x x:=by
 have hf:(G x).filter (fun _=>!false)=G x:=List.filter_eq_self.2 fun _ _=>rfl
 rw [hf]
 constructor
 ·rintro ⟨a,ha,e | h⟩
  ·subst e;exact .one ha
  ·exact .cons ha h
 ·rintro ⟨n,h⟩
  cases n with
  | zero => exact ⟨x,h,.inl rfl⟩
  | succ n => obtain ⟨z,hz,hp⟩:=h;exact ⟨z,hz,.inr ⟨n,hp⟩⟩
theorem setBlock_eq (w:World) (b:Nat) (o:Obj):setBlock w b o=w.putObj b o:=rfl
set_option maxHeartbeats 2000000 in
theorem cyclicg_any (W : World) {w1 : World} {bm : Nat} {ks : List NN} {NV : NN → Value} {G : NN → List NN} {V : NN → Prop} (hM : MdI w1 bm ks NV G W) (hks : ∀ z, V z ↔ z ∈ ks) (hGV : ∀ z, V z → ∀ y, y ∈ G z → V y) (hGL : ∀ z, V z → (G z).length ≤ 1002)
    (hCN:∀ S:List NN,S.Nodup→(∀ y,y∈S→V y)→S.length≤512) :
    Calls Tryz.prog 72 #[.map (some bm)] W (BoolPost (∃ z,V z∧Path G z z) W):=by
 obtain ⟨L,⟨es,clock,hb,he,hbl,hnd⟩,hk,_⟩:=hM.mp
 have HEK:=Lib.hid (show ∀ e,e∈es.toList→∃ z,V z∧e.key=evV (evI z) from fun e h=>by
  have h1:(e.key,e.val)∈es.toList.map (fun e=>(e.key,e.val)):=List.mem_map.2 ⟨e,h,rfl⟩
  rw [he] at h1
  obtain ⟨x,hx,h2⟩:=List.mem_map.1 h1
  have h3:x.1∈ks.map evI:=by rw [←hk];exact List.mem_map.2 ⟨x,hx,rfl⟩
  obtain ⟨z,hz,h4⟩:=List.mem_map.1 h3
  exact ⟨z,(hks z).2 hz,by rw [h4];exact (congrArg Prod.fst h2).symm⟩)
 have HKE:=Lib.hid (show ∀ z,V z→∃ e,e∈es.toList∧e.key=evV (evI z) from fun z h=>by
  have h1:evI z∈L.map Prod.fst:=by rw [hk];exact List.mem_map.2 ⟨z,(hks z).1 h,rfl⟩
  obtain ⟨x,hx,h2⟩:=List.mem_map.1 h1
  have h3:(evV x.1,x.2)∈L.map (fun x=>(evV x.1,x.2)):=List.mem_map.2 ⟨x,hx,rfl⟩
  rw [←he] at h3
  obtain ⟨e,h4,h5⟩:=List.mem_map.1 h3
  exact ⟨e,h4,by rw [←h2];exact congrArg Prod.fst h5⟩)
 have HBL:=Lib.hid hbl
 have HND:=Lib.hid hnd
 have HRC:=Lib.hid (fun W' (x:Ext W W') z (hz:V z)=>(show Calls Tryz.prog 91 #[.map (some bm),.agg #[.int .i64 (z.1:Int),.int .i64 ((z.2:Int)+1)],.agg #[.int .i64 (z.1:Int),.int .i64 ((z.2:Int)+1)],.func (.func 105) #[] #[]] W' (BoolPost (Path G z z) W') from
  (reaches_any W' (hM.ext x) (fun z hz=>(hks z).1 hz) hGV hGL hCN z z hz 105 #[] (fun _=>false) (enters_of Tryz.func105 (by kernel_rfl) rfl) (fun y _ w' _=>cyc1_any w' y)).mono fun e w' ⟨b,he,hb,hx⟩=>⟨b,he,hb.trans rch_self,hx⟩))
 have hrg:=run_range_map (P:=Tryz.prog) W 112 79 129 bm es clock Tryz.underlying112 hb
 have HB:=Lib.hid (fun W' (x:Ext W W')=>(show W'.heap[bm]?=some (.map es clock) from (x.block bm (Array.getElem?_eq_some_iff.1 hb).1).trans hb))
 clear hM hks hGV hGL hCN hbl hnd hk he hb
 go_enter Tryz.func72,Tryz.ntmps72
 go_wp2_with fail
 go_loopg [2] es.size (fun gg v2 wr=>∃ seen:Array Nat,gg=(leftOf es seen).size∧v2=.bool false∧wr.heap[W.heap.size]?=some (.mapIter (some bm) clock seen clock)∧Ext W wr∧∀ e,e∈es.toList→seen.contains e.born=true→∀ z,e.key=evV (evI z)→¬Path G z z)
 case atStart=>exact ⟨#[],by rw [show leftOf es #[]=es from Array.filter_eq_self.2 fun _ _=>by simp],rfl,by show (W.heap.push _)[W.heap.size]?=_;simp,Ext.alloc _ _,fun e _ h=>by simp at h⟩
 case round=>
  obtain ⟨seen,rfl,rfl,hit,hx,hall⟩:=hrel
  have HALL:=Lib.hid hall
  have hbw:=HB.out wr hx
  have law:=run_next_at (P:=Tryz.prog) wr 0 W.heap.size bm clock clock seen es clock hit hbw HBL.out (Nat.le_refl _)
  clear hall hrg
  rcases law with ⟨h0,hrun⟩ | ⟨e,he,w2,hal,hrun⟩
  ·have hnx:∀ ty,(Instr.next (.pointer (some ⟨W.heap.size,0,none⟩)) false ty).run Tryz.prog wr=.ok (.tuple #[.bool false]) wr:=fun _=>hrun
   have HF:=Lib.hid (show ¬ ∃ z,V z∧Path G z z from fun ⟨z,hz,hp⟩=>by
    obtain ⟨e,he,hk⟩:=HKE.out z hz
    refine HALL.out e he ?_ z hk hp
    cases hc:seen.contains e.born with
    | true => rfl
    | false =>
     have h1:e∈(leftOf es seen).toList:=Array.mem_toList_iff.2 (Array.mem_filter.2 ⟨Array.mem_toList_iff.1 he,by rw [hc];rfl⟩)
     have h2:=List.length_pos_of_mem h1
     rw [Array.length_toList] at h2;omega)
   clear hrun hit hbw
   go_wp2_with fail
   go_ret
   exact ⟨false,rfl,⟨fun h=>(by cases h),fun h=>absurd h HF.out⟩,hx⟩
  ·obtain ⟨hem,hsn⟩:=mem_left he
   obtain ⟨z,hz,hkz⟩:=HEK.out e hem
   obtain ⟨v,hv⟩:∃ v,v=e.val:=⟨_,rfl⟩
   have hx2:Ext W (setBlock w2 W.heap.size (.mapIter (some bm) clock (seen.push e.born) clock)):=by
    rw [setBlock_eq]
    rcases hal with rfl | rfl
    ·exact hx.putObj (Nat.le_refl _) _
    ·exact hx.drew.putObj (Nat.le_refl _) _
   have hlt:W.heap.size<w2.heap.size:=by
    have h1:=(Array.getElem?_eq_some_iff.1 hit).1
    rcases hal with rfl | rfl
    ·exact h1
    ·exact h1
   have hit2:(setBlock w2 W.heap.size (.mapIter (some bm) clock (seen.push e.born) clock)).heap[W.heap.size]?=some (.mapIter (some bm) clock (seen.push e.born) clock):=by
    rw [setBlock_eq];simp [World.putObj,hlt]
   have hen:=run_entry_at (P:=Tryz.prog) _ W.heap.size bm clock seen es clock e hit2 (HB.out _ hx2) hem HND.out
   rw [hkz,←hv] at hrun hen
   have hnx:∀ ty,(Instr.next (.pointer (some ⟨W.heap.size,0,none⟩)) false ty).run Tryz.prog wr=.ok (.tuple #[.bool true,evV (evI z),v]) (setBlock w2 W.heap.size (.mapIter (some bm) clock (seen.push e.born) clock)):=fun _=>hrun
   have HSH:=Lib.hid (left_shrinks es seen e he)
   have HEM:=Lib.hid (And.intro hem (And.intro hkz (HND.out)))
   clear hrun hv hal hlt hit hbw he hsn hkz hem
   generalize setBlock w2 W.heap.size (.mapIter (some bm) clock (seen.push e.born) clock)=w3 at hx2 hit2 hen hnx
   obtain ⟨zp,zi⟩:=z
   simp only [evV] at hen hnx
   go_upto_region 4 with fail
   refine boxed1 (w:=w3) (G:=fun x=>Code.wp _ _ _ _ x) ?_
   intro w5 hx5 hs5 ⟨l5,c5,_,_⟩
   have hx55:Ext w5 w5:=Ext.refl _
   have hW5:=hx2.trans hx5
   have hcall:=HRC.out w5 hW5 (zp,zi) hz
   dsimp only at hcall
   clear hs5 hen hnx
   go_wp2_with fail
   go_at_call 91
   refine hcall.mono ?_
   rintro r w6 ⟨b,rfl,hb,hx6⟩
   have hit6:w6.heap[W.heap.size]?=some (.mapIter (some bm) clock (seen.push e.born) clock):=((hx5.trans hx6).block _ (Array.getElem?_eq_some_iff.1 hit2).1).trans hit2
   have hW6:=hW5.trans hx6
   cases b with
   | true =>
    have HP:=Lib.hid (hb.1 rfl)
    have HZ:=Lib.hid hz
    clear hb hcall
    go_wp2_with fail
    go_ret
    exact ⟨true,rfl,⟨fun _=>⟨(zp,zi),HZ.out,HP.out⟩,fun _=>rfl⟩,hW6⟩
   | false =>
    have HP:=Lib.hid (show ¬Path G (zp,zi) (zp,zi) from fun h=>absurd (hb.2 h) (by decide))
    clear hb hcall
    go_wp2_with fail
    go_roundg ((leftOf es (seen.push e.born)).size)
    case rel=>
     refine ⟨seen.push e.born,rfl,rfl,hit6,hW6,fun e' he' hc z' hk' hp'=>?_⟩
     rw [contains_push] at hc
     cases hs:seen.contains e'.born with
     | true => exact HALL.out e' he' hs z' hk' hp'
     | false =>
      rw [hs] at hc
      have hbb:e'.born=e.born:=by simpa using hc
      have hee:e'=e:=by
       have h1:=find_born e es.toList HND.out HEM.out.1
       have h2:=find_born e' es.toList HND.out he'
       rw [hbb] at h2
       rw [h1] at h2
       exact (Option.some.inj h2).symm
      subst hee
      have h3:evI z'=evI (zp,zi):=by
       have h4:=hk'.symm.trans HEM.out.2.1
       simp only [evV,Value.agg.injEq] at h4
       simp at h4
       exact Prod.ext h4.1 (by show (z'.2:Int)+1=(zi:Int)+1;rw [h4.2])
      rw [evI_inj h3] at hp'
      exact HP.out hp'
    case measure=>exact HSH.out
end Go.Proofs.YtkhgpockmaghjaaGreat

namespace Go.Proofs.YtkhgpockmaghjaaGreat
open Go.RowKit Go.Shelf
theorem idx_Sync (w : World) (a : Option Addr) (b off n cap : Nat) (c0 c1 c2 c3 : Nat → Value) (g : Nat) (lb : Array Value) (p : Nat → Bool)
    (hn:n≤140737488355328) (ha:0<n→a=some ⟨b,off,none⟩)
    (l0:∀ w',Ext w w'→∀ i,i<n→w'.cell? ⟨b,off+i*4,none⟩=some (c0 i))
    (l1:∀ w',Ext w w'→∀ i,i<n→w'.cell? ⟨b,off+i*4+1,none⟩=some (c1 i))
    (l2:∀ w',Ext w w'→∀ i,i<n→w'.cell? ⟨b,off+i*4+2,none⟩=some (c2 i))
    (l3:∀ w',Ext w w'→∀ i,i<n→w'.cell? ⟨b,off+i*4+3,none⟩=some (c3 i))
    (eg:Enters Tryz.prog g)
    (hp:∀ i,i<n→∀ w',Ext w w'→Calls Tryz.prog g (#[.agg #[c0 i,c1 i,c2 i,c3 i]]++lb) w' fun e w''=>e=.returned (.bool (p i))∧Ext w' w'') :
    Calls Tryz.prog 86 #[.slice a n cap,.func (.func g) #[] lb] w fun e w'=>e=.returned (.int .i64 (idxI p n))∧Ext w w':=by
 have HP:=Lib.hid hp
 clear hp
 go_enter Tryz.func86,Tryz.ntmps86
 go_wp2
 go_loopw [8] (fun v wr=>∃ k:Nat,k≤n∧v=.int .i64 k∧Ext w wr∧NoneB p k) (fun v _=>n - (intOf v).toNat)
 case atStart=>exact ⟨0,Nat.zero_le _,rfl,Ext.refl _,NoneB.zero _⟩
 case round=>
  obtain ⟨k,hk,rfl,hx,hN⟩:=hrel
  have HN:=Lib.hid hN
  clear hN
  by_cases hlt:k<n
  ·obtain rfl:=ha (by omega)
   have hc:=HP.out k hlt wr hx
   unfold Enters at eg
   cases hq:p k with
   | true =>
    rw [hq] at hc
    go_wp2_with (go_at_fn g;refine hc.mono ?_;rintro e w' ⟨rfl,hx'⟩)
    go_ret
    exact ⟨ret_int (idxI_hit hlt hq HN.out).symm,hx.trans hx'⟩
   | false =>
    rw [hq] at hc
    go_wp2_with (go_at_fn g;refine hc.mono ?_;rintro e w' ⟨rfl,hx'⟩)
    go_roundw
    case rel=>exact ⟨k+1,by omega,by go_num,hx.trans hx',HN.out.succ hq⟩
    case measure=>simp [intOf];omega
  ·have HN':=Lib.hid (show NoneB p n from fun i hi=>HN.out i (by omega))
   go_wp2
   go_ret
   exact ⟨ret_int (idxI_none HN'.out).symm,hx⟩
theorem has_Sync (w : World) (a : Option Addr) (b off n cap : Nat) (c0 c1 c2 c3 : Nat → Value) (g : Nat) (lb : Array Value) (p : Nat → Bool)
    (hn:n≤140737488355328) (ha:0<n→a=some ⟨b,off,none⟩)
    (l0:∀ w',Ext w w'→∀ i,i<n→w'.cell? ⟨b,off+i*4,none⟩=some (c0 i))
    (l1:∀ w',Ext w w'→∀ i,i<n→w'.cell? ⟨b,off+i*4+1,none⟩=some (c1 i))
    (l2:∀ w',Ext w w'→∀ i,i<n→w'.cell? ⟨b,off+i*4+2,none⟩=some (c2 i))
    (l3:∀ w',Ext w w'→∀ i,i<n→w'.cell? ⟨b,off+i*4+3,none⟩=some (c3 i))
    (eg:Enters Tryz.prog g)
    (hp:∀ i,i<n→∀ w',Ext w w'→Calls Tryz.prog g (#[.agg #[c0 i,c1 i,c2 i,c3 i]]++lb) w' fun e w''=>e=.returned (.bool (p i))∧Ext w' w'') :
    Calls Tryz.prog 42 #[.slice a n cap,.func (.func g) #[] lb] w fun e w'=>e=.returned (.bool (anyB p n))∧Ext w w':=by
 have hc:=idx_Sync w a b off n cap c0 c1 c2 c3 g lb p hn ha l0 l1 l2 l3 eg hp
 have HI:=Lib.hid (idxI_anyB p n)
 clear hp l0 l1 l2 l3 ha eg
 go_enter Tryz.func42,Tryz.ntmps42
 go_wp2_with (go_at_call 86;refine hc.mono ?_;rintro e w' ⟨rfl,hx'⟩)
 go_ret
 exact ⟨ret_bool HI.out,hx'⟩
attribute [local go_sem] Oper.semAt_some
def PSize (T:Tr) (L:List Syn) (B O:Prop) (r:Int):Prop:=
 (¬(T.Valid∧B)∧r=1)∨((T.Valid∧B)∧1000<L.length∧r=5)∨((T.Valid∧B)∧L.length≤1000∧(¬SynOk T L∨O)∧r=2)∨((T.Valid∧B)∧L.length≤1000∧SynOk T L∧¬O∧r=0)
def PFault (T:Tr) (L:List Syn) (B O:Prop) (r:Int):Prop:=
 (PSize T L B O r∧r≠0)∨(PSize T L B O 0∧¬T.NoCyc L∧r=10)∨(PSize T L B O 0∧T.NoCyc L∧r=0)
theorem PSize.uniq {T:Tr} {L:List Syn} {B B' O O':Prop} {r r':Int} (h:PSize T L B O r) (k:PSize T L B' O' r') (hB:B↔B') (hO:O↔O'):r=r':=by
 unfold PSize at h k
 rw [hB,hO] at h
 by_cases h1:T.Valid∧B'
 ·by_cases h2:L.length≤1000
  ·by_cases h3:SynOk T L
   ·by_cases h4:O'
    ·simp [h1,h2,h3,h4] at h k;omega
    ·simp [h1,h2,h3,h4] at h k;omega
   ·simp [h1,h2,h3] at h k;omega
  ·have h5:1000<L.length:=by omega
   simp [h1,h2,h5] at h k;omega
 ·simp [h1] at h k;omega
theorem PSize.ok {T:Tr} {L:List Syn} {B O:Prop} (h:PSize T L B O 0):(T.Valid∧B)∧L.length≤1000∧SynOk T L∧¬O:=by
 rcases h with ⟨_,h⟩ | ⟨_,_,h⟩ | ⟨_,_,_,h⟩ | ⟨h1,h2,h3,h4,_⟩
 ·cases h
 ·cases h
 ·cases h
 ·exact ⟨h1,h2,h3,h4⟩
theorem PFault.uniq {T:Tr} {L:List Syn} {B B' O O':Prop} {r r':Int} (h:PFault T L B O r) (k:PFault T L B' O' r') (hB:B↔B') (hO:O↔O'):r=r':=by
 rcases h with ⟨h1,h2⟩ | ⟨h1,h2,h3⟩ | ⟨h1,h2,h3⟩ <;> rcases k with ⟨k1,k2⟩ | ⟨k1,k2,k3⟩ | ⟨k1,k2,k3⟩
 ·exact h1.uniq k1 hB hO
 ·exact absurd (h1.uniq k1 hB hO) h2
 ·exact absurd (h1.uniq k1 hB hO) h2
 ·exact absurd (h1.uniq k1 hB hO).symm k2
 ·rw [h3,k3]
 ·exact absurd k2 h2
 ·exact absurd (h1.uniq k1 hB hO).symm k2
 ·exact absurd h2 k2
 ·rw [h3,k3]
theorem PFault.ok {T:Tr} {L:List Syn} {B O:Prop} (h:PFault T L B O 0):(T.Valid∧B)∧L.length≤1000∧SynOk T L∧¬O∧T.NoCyc L:=by
 rcases h with ⟨_,h⟩ | ⟨_,_,h⟩ | ⟨h1,h2,_⟩
 ·exact absurd rfl h
 ·cases h
 ·obtain ⟨q1,q2,q3,q4⟩:=h1.ok;exact ⟨q1,q2,q3,q4,h2⟩
noncomputable def noEx (T:Tr) (s:Syn):Bool:=@decide (¬(T.Ex s.1.1 s.1.2∧T.Ex s.2.1 s.2.2)) (Classical.propDecidable _)
theorem noEx_iff {T:Tr} {s:Syn}:noEx T s=true↔¬(T.Ex s.1.1 s.1.2∧T.Ex s.2.1 s.2.2):=by unfold noEx;exact @decide_eq_true_iff _ (Classical.propDecidable _)
set_option maxHeartbeats 1000000 in
theorem siz1_any (w : World) (T : TM) (hT : T.At w) (s : Syn) (b : Nat) (hb : Hold w b #[.slice T.a T.n T.cap]) :
    Calls Tryz.prog 103 #[.agg #[.int .i64 s.1.1,.int .i64 s.1.2,.int .i64 s.2.1,.int .i64 s.2.2],.pointer (some ⟨b,0,none⟩)] w fun e w'=>e=.returned (.bool (noEx T.toTr s))∧Ext w w':=by
 obtain ⟨⟨x0,x1⟩,⟨y0,y1⟩⟩:=s
 obtain ⟨bx,hbx⟩:=exists_bool (T.toTr.Ex x0 x1)
 obtain ⟨by',hby⟩:=exists_bool (T.toTr.Ex y0 y1)
 have hne:noEx T.toTr ((x0,x1),(y0,y1)) = !(bx && by'):=by
  have h1:=noEx_iff (T:=T.toTr) (s:=((x0,x1),(y0,y1)))
  dsimp only at h1
  rw [←hbx,←hby] at h1
  generalize noEx T.toTr ((x0,x1),(y0,y1))=q at h1
  clear hbx hby
  cases q <;> cases bx <;> cases by' <;> simp at h1 ⊢
 rw [hne]
 have HX:=Lib.hid (fun W (h:Ext w W)=>pexists_any W T (hT.ext h) x0 x1 bx hbx)
 have HY:=Lib.hid (fun W (h:Ext w W)=>pexists_any W T (hT.ext h) y0 y1 by' hby)
 obtain ⟨lb,cb,_,_⟩:=hb.box
 have hww:Ext w w:=Ext.refl _
 dsimp only
 obtain ⟨ta,hta⟩:∃ z,z=T.a:=⟨_,rfl⟩
 simp only [TM.val,←hta] at HX HY
 rw [←hta] at cb
 clear hT hb hbx hby hne hta
 go_enter Tryz.func103,Tryz.ntmps103
 go_upto_region 1 with fail
 refine boxed1 (w:=w) (G:=fun x=>Code.wp _ _ _ _ x) ?_
 intro w1 hx1 hs1 ⟨l0,c0,_,_⟩
 have hx11:Ext w1 w1:=Ext.refl _
 clear hs1
 go_wp2_with fail
 go_at_call 104
 refine (HX.out w1 hx1).mono ?_
 rintro e w2 ⟨rfl,hx2⟩
 have hxw2:=hx1.trans hx2
 cases bx with
 | false =>
  go_wp2_with fail
  go_ret
  exact ⟨rfl,hxw2⟩
 | true =>
  go_wp2_with fail
  go_at_call 104
  refine (HY.out w2 hxw2).mono ?_
  rintro e w3 ⟨rfl,hx3⟩
  go_wp2_with fail
  go_ret
  exact ⟨by cases by' <;> rfl,hxw2.trans hx3⟩
set_option maxHeartbeats 2000000 in
theorem sizes_any (w : World) (T : TM) (hT : T.At w) (D : SyD) (hD : D.At w) (a : Option Addr) (g o n cap : Nat) (v : Nat → Int) (hC : NumAt w n a g o v) :
    Calls Tryz.prog 69 #[T.val,.slice D.s.a D.s.n D.s.c,.slice a n cap] w fun e w'=>Ext w w'∧∃ r:Int,e=.returned (.int .i64 r)∧PSize T.toTr D.l (n=T.n) (¬T.toTr.InR T.n v) r:=by
 have HVL:=Lib.hid (fun W (h:Ext w W)=>valid_any W T (hT.ext h))
 have hn0:=hT.P.hn
 have hcn:=hC.hn
 have HHS:=Lib.hid (fun W (x:Ext w W) b (hb:Hold W b #[.slice T.a T.n T.cap])=>(show Calls Tryz.prog 42 #[.slice D.s.a D.s.n D.s.c,.func (.func 103) #[] #[.pointer (some ⟨b,0,none⟩)]] W (fun e w'=>e=.returned (.bool (anyB (fun i=>noEx T.toTr (D.at i)) D.s.n))∧Ext W w') from
  has_Sync W D.s.a D.s.b D.s.o D.s.n D.s.c (fun i=>.int .i64 (D.x i).1) (fun i=>.int .i64 (D.x i).2) (fun i=>.int .i64 (D.y i).1) (fun i=>.int .i64 (D.y i).2) 103 #[.pointer (some ⟨b,0,none⟩)] (fun i=>noEx T.toTr (D.at i)) hD.hn hD.ha
   (fun w' y i hi=>(hD.ext (x.trans y)).c0 i hi) (fun w' y i hi=>(hD.ext (x.trans y)).c1 i hi) (fun w' y i hi=>(hD.ext (x.trans y)).c2 i hi) (fun w' y i hi=>(hD.ext (x.trans y)).c3 i hi) (enters_of Tryz.func103 (by kernel_rfl) rfl)
   (fun i _ w' y=>siz1_any w' T (hT.ext (x.trans y)) (D.at i) b (hb.ext y))))
 have HSY:=Lib.hid (show anyB (fun i=>noEx T.toTr (D.at i)) D.s.n=false↔SynOk T.toTr D.l from by
  rw [Bool.eq_false_iff,ne_eq,anyB_iff]
  constructor
  ·intro h s hs
   obtain ⟨i,hi,rfl⟩:=SyD.mem.1 hs
   exact Classical.byContradiction fun hn=>h ⟨i,hi,noEx_iff.2 hn⟩
  ·rintro h ⟨i,hi,h1⟩
   exact noEx_iff.1 h1 (h _ (SyD.mem.2 ⟨i,hi,rfl⟩)))
 have HDL:=Lib.hid D.len
 have HT:=Lib.hid hT
 have HC:=Lib.hid hC
 obtain ⟨ta,hta⟩:∃ z,z=T.a:=⟨_,rfl⟩
 obtain ⟨da,hda⟩:∃ z,z=D.s.a:=⟨_,rfl⟩
 obtain ⟨dn,hdn⟩:∃ z,z=D.s.n:=⟨_,rfl⟩
 have hdnn:dn≤140737488355328:=by rw [hdn];exact hD.hn
 have HTA:=Lib.hid hta
 simp only [TM.val,←hta] at HVL ⊢
 rw [←hta] at HHS
 rw [←hda,←hdn] at HHS
 rw [←hdn] at HSY HDL
 rw [←hda,←hdn]
 clear hT hD hC hta hda hdn
 go_enter Tryz.func69,Tryz.ntmps69
 go_upto_region 1 with fail
 refine boxed1 (w:=w) (G:=fun x=>Code.wp _ _ _ _ x) ?_
 intro w1 hx1 hs1 ⟨l0,c0,_,k0⟩
 have hx11:Ext w1 w1:=Ext.refl _
 have HK:=Lib.hid (show Hold w1 w.heap.size #[.slice ta T.n T.cap] from k0)
 clear hs1 k0
 go_wp2_with fail
 go_at_call 80
 refine (HVL.out w1 hx1).mono ?_
 rintro e w2 ⟨b,rfl,hb,hx2⟩
 have hxw2:=hx1.trans hx2
 cases b with
 | false =>
  have HV:=Lib.hid (show ¬T.toTr.Valid from fun h=>absurd (hb.2 h) (by decide))
  clear hb
  go_wp2_with fail
  go_ret
  exact ⟨hxw2,1,rfl,.inl ⟨fun h=>HV.out h.1,rfl⟩⟩
 | true =>
 have HV:=Lib.hid (hb.1 rfl)
 have hn8:=HV.out.n8
 clear hb
 by_cases hnn:n=T.n
 case neg=>
  have d1:((n:Int) == (T.n:Int))=false:=by simp;omega
  have d2:((n:Int) != (T.n:Int))=true:=by simp [bne];omega
  have HN:=Lib.hid hnn
  clear hnn
  go_wp2_with fail
  go_ret
  exact ⟨hxw2,1,rfl,.inl ⟨fun h=>HN.out h.2,rfl⟩⟩
 subst hnn
 have d1:((T.n:Int) == (T.n:Int))=true:=by simp
 have d2:((T.n:Int) != (T.n:Int))=false:=by simp [bne]
 by_cases hl:1000<dn
 ·have d3:decide ((1000:Int)<(dn:Int))=true:=decide_eq_true (by omega)
  have HL:=Lib.hid hl
  clear hl
  go_wp2_with fail
  go_ret
  exact ⟨hxw2,5,rfl,.inr (.inl ⟨⟨HV.out,by trivial⟩,by rw [HDL.out];exact HL.out,rfl⟩)⟩
 have d3:decide ((1000:Int)<(dn:Int))=false:=decide_eq_false (by omega)
 have HL:=Lib.hid (show D.l.length≤1000 from by rw [HDL.out];omega)
 have hhs:=HHS.out w2 hxw2 w.heap.size (HK.out.ext hx2)
 go_wp2_with fail
 go_at_call 42
 refine hhs.mono ?_
 rintro e w3 ⟨rfl,hx3⟩
 have hxw3:=hxw2.trans hx3
 have hx13:=hx2.trans hx3
 obtain ⟨q,hq⟩:∃ q,q=anyB (fun i=>noEx T.toTr (D.at i)) dn:=⟨_,rfl⟩
 rw [←hq] at HSY ⊢
 clear hq hhs d1 d2 d3 hl
 cases q with
 | true =>
  have HS:=Lib.hid (show ¬SynOk T.toTr D.l from fun h=>absurd (HSY.out.2 h) (by decide))
  go_wp2_with fail
  go_ret
  exact ⟨hxw3,2,rfl,.inr (.inr (.inl ⟨⟨HV.out,by trivial⟩,HL.out,.inl HS.out,rfl⟩))⟩
 | false =>
 have HS:=Lib.hid (HSY.out.1 rfl)
 go_wp2_with fail
 go_loopg [31] T.n (fun gg v31 wr=>∃ k:Nat,k≤T.n∧gg=T.n - k∧v31=.int .i64 k∧Ext w1 wr∧∀ p,p<k→0≤v p∧v p≤T.en p)
 case atStart=>exact ⟨0,by omega,rfl,rfl,hx13,fun p h=>absurd h (Nat.not_lt_zero _)⟩
 case round=>
  obtain ⟨k,hk,rfl,rfl,hxr,hall⟩:=hrel
  have HA:=Lib.hid hall
  have hxw:=hx1.trans hxr
  clear hall
  by_cases hlt:k<T.n
  ·have hlt':(k:Int)<(T.n:Int):=by omega
   obtain rfl:ta=some ⟨T.b,T.off,none⟩:=by rw [HTA.out];exact HT.out.P.pa (by omega)
   have hen:=HV.out.en64 hlt
   have pb:=HT.out.P.pb (by omega)
   have p2:∀ w',Ext w w'→w'.cell? ⟨T.b,T.off+k*3+2,none⟩=some (.slice (T.ea k) (T.en k) (T.ec k)):=fun w' h=>HT.out.P.p2 w' h k hlt
   obtain rfl:=HC.out.pa (by omega)
   have gb:∀ w',Ext w w'→g<w'.heap.size:=fun w' x=>Nat.lt_of_lt_of_le (HC.out.pb (by omega)) x.le
   obtain ⟨vk,hvk⟩:∃ z,z=v k:=⟨_,rfl⟩
   have gc:∀ w',Ext w w'→w'.cell? ⟨g,o+k,none⟩=some (.int .i64 vk):=fun w' x=>by rw [hvk];exact x.cell (HC.out.c k hlt)
   have HVK:=Lib.hid hvk
   clear hvk
   by_cases h0:vk<0
   ·have d0:decide (vk<0)=true:=decide_eq_true h0
    go_wp2_with fail
    go_ret
    exact ⟨hxw,2,rfl,.inr (.inr (.inl ⟨⟨HV.out,by trivial⟩,HL.out,.inr fun h=>absurd (h k hlt).1 (by rw [←HVK.out];omega),rfl⟩))⟩
   ·have d0:decide (vk<0)=false:=decide_eq_false h0
    by_cases h1:(T.en k:Int)<vk
    ·have d1:decide ((T.en k:Int)<vk)=true:=decide_eq_true h1
     go_wp2_with fail
     go_ret
     exact ⟨hxw,2,rfl,.inr (.inr (.inl ⟨⟨HV.out,by trivial⟩,HL.out,.inr fun h=>absurd (h k hlt).2 (by rw [←HVK.out];omega),rfl⟩))⟩
    ·have d1:decide ((T.en k:Int)<vk)=false:=decide_eq_false h1
     go_wp2_with fail
     go_roundg (T.n - (k+1))
     case rel=>exact ⟨k+1,by omega,rfl,by go_num,hxr,fun p hp=>by
      by_cases e:p=k
      ·subst e;rw [←HVK.out];omega
      ·exact HA.out p (by omega)⟩
     case measure=>omega
  ·obtain rfl:k=T.n:=by omega
   go_wp2_with fail
   go_ret
   exact ⟨hxw,0,rfl,.inr (.inr (.inr ⟨⟨HV.out,by trivial⟩,HL.out,HS.out,fun h=>h HA.out,rfl⟩))⟩
end Go.Proofs.YtkhgpockmaghjaaGreat
