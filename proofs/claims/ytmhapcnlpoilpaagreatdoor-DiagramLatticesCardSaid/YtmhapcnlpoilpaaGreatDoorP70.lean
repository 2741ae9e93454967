/- Contracts and laws in plain Lean for RApp: group P70. -/
import Derived.Test.YtmhapcnlpoilpaaGreatDoorP65
import Derived.Lib.QuietBelow
import Derived.Test.YtmhapcnlpoilpaaGreatDoorP68
import Derived.Test.YtmhapcnlpoilpaaGreatDoorP06
import Derived.Test.YtmhapcnlpoilpaaGreatDoorP67
import Derived.Test.YtmhapcnlpoilpaaGreatDoorP62
set_option maxRecDepth 100000
namespace Go.Proofs.YtmhapcnlpoilpaaGreatDoor
open Go.RowKit Go.Shelf
def limS (s:List UInt8):List UInt8:=if 16384<s.length then [] else s
def limE (s:List UInt8):Int:=if 16384<s.length then 5 else 0
theorem limV_eq (s:List UInt8):limV s=.tuple #[.string (bts (limS s)),.int .i64 (limE s)]:=by
 unfold limV limS limE;split <;> rfl
theorem limited2_any (w:World) (s:List UInt8):Calls Tryz.prog 37 #[.string (bts s)] w fun e w'=>e=.returned (.tuple #[.string (bts (limS s)),.int .i64 (limE s)])∧Ext w w':=by
 have h:=limited_any w s
 rw [limV_eq] at h
 exact h
structure SzAt (w:World) (v:Value) (s:Int):Prop where
 out:∀ W,Ext w W→Calls Tryz.prog 70 #[v] W fun e w'=>e=.returned (.int .i64 s)∧Ext W w'
theorem nameB_len {s:ByteArray} (h:nameB s=true):s.size≤16:=by
 unfold nameB at h;simp at h;omega
def DrawIs (T:Tr) (c:Option (Nat→Int)) (l:List UInt8):Prop:=∃ rows m,T.Stamps rows∧T.Most rows m∧l=T.dra (fun p i=>(rows p).getD i 0 - 1) m.toNat (T.nw T.n) (T.wd T.n) c T.n
def DDrawPost (T:Tr) (w:World) (e:Ending) (w':World):Prop:=Ext w w'∧((T.Valid∧∃ l,DrawIs T none l∧e=.returned (limV l))∨(¬T.Valid∧e=.returned (.tuple #[.string (bts []),.int .i64 1])))
set_option maxHeartbeats 2000000 in
theorem ddraw_any (w:World) (hTb:Tb w) (T:TM) (hT:T.At w):Calls Tryz.prog 10 #[T.val] w (DDrawPost T.toTr w):=by
 have HVL:=Lib.hid (fun W (x:Ext w W)=>valid_any W T (hT.ext x))
 have HDR:=Lib.hid (fun W (x:Ext w W) (hV:T.toTr.Valid)=>draw_nil W (hTb.ext x) T (hT.ext x) hV fun p hp=>by have:=nameB_len (hV.pr p hp).1;omega)
 simp only [TM.val] at HVL HDR ⊢
 clear hTb hT
 go_enter Tryz.func10,Tryz.ntmps10
 go_upto_region 1 with fail
 refine boxed1 (w:=w) (G:=fun x=>Code.wp _ _ _ _ x) ?_
 intro w1 hx1 hs1 ⟨l0,c0,_,_⟩
 have hx11:Ext w1 w1:=Ext.refl _
 clear hs1
 go_wp2_with fail
 go_at_call 35
 refine (HVL.out w1 hx1).mono ?_
 rintro e w2 ⟨b,rfl,hb,hx2⟩
 have HB:=Lib.hid hb
 have hxw2:=hx1.trans hx2
 clear hb
 cases b with
 | false =>
  go_wp2_with fail
  go_ret2
  exact ⟨hxw2,.inr ⟨fun h=>absurd (HB.out.2 h) Bool.false_ne_true,rfl⟩⟩
 | true =>
  have HV:=Lib.hid (HB.out.1 rfl)
  clear HB
  go_wp2_with fail
  go_at_call 38
  refine (HDR.out w2 hxw2 HV.out).mono ?_
  rintro e w3 ⟨hx3,rows,m,h1,h2,rfl⟩
  obtain ⟨l,hl⟩:∃ l,l=T.toTr.dra (fun p i=>(rows p).getD i 0 - 1) m.toNat (T.toTr.nw T.n) (T.toTr.wd T.n) none T.n:=⟨_,rfl⟩
  rw [←hl]
  have HD:=Lib.hid (show DrawIs T.toTr none l from ⟨rows,m,h1,h2,hl⟩)
  have HLI:=Lib.hid (fun W=>limited2_any W l)
  clear h1 h2 hl
  go_wp2_with (go_at_call 37;refine (HLI.out _).mono ?_;rintro e w4 ⟨rfl,hx4⟩)
  go_ret2
  exact ⟨(hxw2.trans hx3).trans hx4,.inl ⟨HV.out,l,HD.out,by rw [limV_eq];rfl⟩⟩
attribute [local go_sem] Oper.semAt_some
def latL (f:Nat→List UInt8) (s:Nat→Int):Nat→List UInt8
 | 0 => []
 | i+1 => latL f s i++((if i=0∨s i≠s (i - 1) then (if 0<i then [10] else [])++(Lib.itoa (s i)++[58]) else [])++(32 :: f i))
theorem latL_len {f:Nat→List UInt8} {s:Nat→Int} {m c:Nat}:∀ {n:Nat},(∀ j,j<n→(f j).length≤m∧(Lib.itoa (s j)).length≤c)→(latL f s n).length≤n*(m+c+3)
 | 0,_ => by simp [latL]
 | n+1,h => by
  have h1:=latL_len (n:=n) fun j hj=>h j (by omega)
  have h2:=h n (by omega)
  rw [Nat.succ_mul]
  unfold latL
  have h3:(if n=0∨s n≠s (n - 1) then (if 0<n then [10] else [])++(Lib.itoa (s n)++[58]) else ([]:List UInt8)).length≤c+2:=by
   split
   ·rw [List.length_append,List.length_append]
    have:(if 0<n then [10] else ([]:List UInt8)).length≤1:=by split <;> simp
    simp only [List.length_singleton];omega
   ·simp
  rw [List.length_append,List.length_append,List.length_cons];omega
def cutT (l:List Nat):List UInt8:=wriL (natV (fn l)) l.length
def cutS (l:List Nat):Int:=sumN (natV (fn l)) l.length
def latT (R:List (List Nat)):List UInt8:=latL (fun i=>cutT (R.getD i [])) (fun i=>cutS (R.getD i [])) R.length++[10]
theorem cutT_len {l:List Nat} {n:Nat} (hn:n≤8) (hl:l.length=n) (h:∀ p,p<n→fn l p≤64):(cutT l).length≤1000:=by
 have h1:=join_len (itoaL (natV (fn l)) l.length) 32 65 (fun x hx=>by
  simp only [itoaL,List.mem_map,List.mem_range] at hx
  obtain ⟨i,hi,rfl⟩:=hx
  have h0:=h i (by omega)
  have h1:=itoa_len (natV (fn l) i) (by unfold natV;omega)
  have h2:(natV (fn l) i).toNat≤64:=by unfold natV;omega
  omega)
 rw [itoaL_len] at h1
 have h2:l.length*(65+1)≤8*(65+1):=Nat.mul_le_mul_right _ (by omega)
 unfold cutT wriL
 simp only [List.length_cons,List.length_append,List.length_nil];omega
theorem cutS_le {l:List Nat} {n:Nat} (hn:n≤8) (hl:l.length=n) (h:∀ p,p<n→fn l p≤64):0≤cutS l∧cutS l≤512:=by
 have h1:=sumN_le (v:=natV (fn l)) (c:=64) (n:=l.length) fun k hk=>by have:=h k (by omega);unfold natV;omega
 have h2:l.length*64≤8*64:=Nat.mul_le_mul_right _ (by omega)
 unfold cutS;omega
def LatPost (T:Tr) (w:World) (e:Ending) (w':World):Prop:=Ext w w'∧((∃ L:List (List Nat),IsCuts T L∧L.length≤5000∧e=.returned (limV (latT L)))∨
 (e=.returned (.tuple #[.string (bts []),.int .i64 16])∧∃ L:List (List Nat),L.Pairwise (fun a b=>befP T.n (fn a) (fn b))∧(∀ l∈L,CutL T l)∧5000<L.length))
set_option maxHeartbeats 4000000 in
theorem dlat_any (w:World) (hTb:Tb w) (T:TM) (hT:T.At w) (hV:T.toTr.Valid):Calls Tryz.prog 28 #[T.val] w (LatPost T.toTr w):=by
 have HKL:=Lib.hid (fun W (x:Ext w W)=>kList_any W T (hT.ext x) hV)
 have HTB:=Lib.hid hTb
 have hn8:=hV.n8
 have HEN:=Lib.hid (show ∀ q,q<T.n→T.en q≤64 from fun q hq=>by have:=(hV.pr q hq).2.2.2.2;omega)
 simp only [TM.val] at HKL ⊢
 clear hTb hT hV
 go_enter Tryz.func28,Tryz.ntmps28
 go_upto_region 1 with fail
 refine boxed1 (w:=w) (G:=fun x=>Code.wp _ _ _ _ x) ?_
 intro w1 hx1 hs1 ⟨l0,c0,_,_⟩
 have hx11:Ext w1 w1:=Ext.refl _
 clear hs1
 go_upto_region 2 with (go_at_call 69;refine (HKL.out w1 hx1).mono ?_;rintro e w2 ⟨hx2,v,c,rfl,hp⟩;rcases hp with ⟨rfl,R,hq,hcu,hl,_⟩ | ⟨rfl,hL⟩)
 ·have hxw2:=hx1.trans hx2
  obtain ⟨a,g,o,cp,rfl,hle,hpa,hc⟩:=hq.get
  have hat:=hq.2
  obtain ⟨L,hLR⟩:∃ L,L=R.map Row.l:=⟨_,rfl⟩
  rw [←hLR] at hcu
  obtain ⟨n,hn⟩:∃ n,n=R.length:=⟨_,rfl⟩
  rw [←hn] at hl hle hpa ⊢
  have HLR:=Lib.hid (And.intro hLR hn)
  have HCU:=Lib.hid hcu
  have HQ:=Lib.hid (And.intro hpa (And.intro hc hat))
  have HCT:=Lib.hid (show ∀ i (hi:i<R.length),L.getD i []=R[i].l∧R[i].l.length≤8∧(∀ p,p<R[i].l.length→0≤natV (fn R[i].l) p∧natV (fn R[i].l) p≤1000000)∧(cutT R[i].l).length≤1000∧0≤cutS R[i].l∧cutS R[i].l≤512 from fun i hi=>by
   have h1:CutL T.toTr R[i].l:=(hcu.2 _).1 (by rw [hLR];exact List.mem_map_of_mem (List.getElem_mem hi))
   have h2:∀ p,p<T.n→fn R[i].l p≤64:=fun p hp=>Nat.le_trans (h1.2.le p hp) (HEN.out p hp)
   have h3:R[i].l.length=T.n:=h1.1
   refine ⟨by rw [hLR,List.getD_eq_getElem?_getD,List.getElem?_map,List.getElem?_eq_getElem hi];rfl,by omega,fun p hp=>?_,cutT_len hn8 h3 h2,cutS_le hn8 h3 h2⟩
   have:=h2 p (by omega)
   unfold natV;omega)
  have HLL:=Lib.hid (show ∀ k,k≤n→(latL (fun i=>cutT (L.getD i [])) (fun i=>cutS (L.getD i [])) k).length≤100000000 from fun k hk=>by
   have h1:=latL_len (f:=fun i=>cutT (L.getD i [])) (s:=fun i=>cutS (L.getD i [])) (m:=1000) (c:=513) (n:=k) fun j hj=>by
    obtain ⟨e1,_,_,e2,e3,e4⟩:=HCT.out j (by omega)
    simp only [e1]
    have:=itoa_len (cutS R[j].l) e3
    exact ⟨e2,by omega⟩
   have h2:k*(1000+513+3)≤5000*(1000+513+3):=Nat.mul_le_mul_right _ (by omega)
   omega)
  clear hLR hn hcu hpa hc hat hq hx2 hx1 l0 c0 HKL
  go_upto_region 5 with fail
  obtain ⟨bb,hbb⟩:∃ z,z=w2.heap.size:=⟨_,rfl⟩
  have HB0:=Lib.hid (show Bld bb [] (w2.alloc (.cells #[.pointer none,.slice none 0 0] 106)) from by rw [hbb];exact Lib.IsBuilderF.of (Lib.fresh_isBuilder 106 5 w2))
  have hx6:Ext w2 (w2.alloc (.cells #[.pointer none,.slice none 0 0] 106)):=Ext.alloc' (Ext.refl w2) _
  rw [←hbb]
  generalize w2.alloc (.cells #[.pointer none,.slice none 0 0] 106)=w6 at hx6 HB0 ⊢
  have HBB:=Lib.hid hbb
  clear hbb
  go_wp2_with fail
  go_loopg [19] n (fun gg v19 wo=>∃ i:Nat,i≤n∧gg=n - i∧v19=.int .i64 i∧Ext w2 wo∧Bld bb (latL (fun i=>cutT (L.getD i [])) (fun i=>cutS (L.getD i [])) i) wo)
  case atStart=>exact ⟨0,by omega,rfl,rfl,hx6,HB0.out⟩
  case round=>
   obtain ⟨i,hi,rfl,rfl,hxo,hbo⟩:=hrel
   have HBO:=Lib.hid hbo
   have HLI:=Lib.hid (HLL.out i hi)
   clear hbo
   have hxwo:=hxw2.trans hxo
   have hoo:Ext wr wr:=Ext.refl _
   by_cases hin:i<n
   ·have hin':(i:Int)<(n:Int):=by omega
    have hiR:i<R.length:=by rw [←HLR.out.2];exact hin
    obtain ⟨e1,e2,e3,e4,e5,e6⟩:=HCT.out i hiR
    obtain ⟨rfl,_,hgs⟩:=HQ.out.1 (by omega)
    obtain ⟨r,hr⟩:∃ r,r=R[i]:=⟨_,rfl⟩
    rw [←hr] at e1 e2 e3 e4 e5 e6
    obtain ⟨ra,rn,rc,rg,ro,hra,hrn,hrc,hrg,hro⟩:∃ ra rn rc rg ro,ra=r.a∧rn=r.l.length∧rc=r.c∧rg=r.g∧ro=r.o:=⟨_,_,_,_,_,rfl,rfl,rfl,rfl,rfl⟩
    have ci:∀ w',Ext w2 w'→w'.cell? ⟨g,o+i,none⟩=some (.slice ra rn rc):=fun w' x=>by rw [hra,hrn,hrc,hr];exact HQ.out.2.1 i hiR w' x
    have li:∀ w',Ext w2 w'→g<w'.heap.size:=fun w' x=>Nat.lt_of_lt_of_le hgs x.le
    have hrat:NumAt w2 rn ra rg ro (natV (fn r.l)):=by rw [hra,hrn,hrg,hro,hr];exact HQ.out.2.2 _ (List.getElem_mem hiR)
    rw [←hrn] at e2 e3
    obtain ⟨sz,hsz⟩:∃ sz,sz=cutS r.l:=⟨_,rfl⟩
    obtain ⟨tx,htx⟩:∃ tx,tx=cutT r.l:=⟨_,rfl⟩
    rw [←hsz] at e5 e6
    rw [←htx] at e4
    have HSI:SzAt w2 (.slice ra rn rc) sz:=.mk (fun W (x:Ext w2 W)=>(dsize_any W rn rc ra rg ro (natV (fn r.l)) (hrat.ext x) (by omega) e3).mono fun e w' h=>(⟨h.1.trans (by rw [hsz,hrn];rfl),h.2⟩:e=.returned (.int .i64 sz)∧Ext W w'))
    have HTX:=Lib.hid (fun W (x:Ext w2 W)=>(written_any W (HTB.out.ext (hxw2.trans x)) rn rc ra rg ro (natV (fn r.l)) (hrat.ext x) (by omega) e3).mono fun e w' h=>(⟨h.1.trans (by rw [htx,hrn];rfl),h.2⟩:e=.returned (.string (bts tx))∧Ext W w'))
    have HIT:=Lib.hid (fun W (x:Ext w2 W)=>itoa_any sz (by omega) (by omega) W (HTB.out.ext (hxw2.trans x)))
    obtain ⟨d,hd⟩:∃ d,d=Lib.itoa sz:=⟨_,rfl⟩
    rw [←hd] at HIT
    have hdl:d.length≤513:=by rw [hd];have:=itoa_len sz e5;omega
    have HD:=Lib.hid (show cutT (L.getD i [])=tx∧cutS (L.getD i [])=sz∧Lib.itoa sz=d from by rw [e1];exact ⟨htx.symm,hsz.symm,hd.symm⟩)
    clear hr hra hrn hrc hrg hro hrat hsz htx hd e1
    have hgw:∀ d os,Ext w2 (Sort.grow (redrawn wr d) os):=fun d os=>hxo.trans (below_regrown wr d os)
    obtain ⟨ll,hll⟩:∃ ll,ll=latL (fun i=>cutT (L.getD i [])) (fun i=>cutS (L.getD i [])) i:=⟨_,rfl⟩
    rw [←hll] at HBO HLI
    by_cases hi0:i=0
    ·have HSJ:=HSI
     have HST:=Lib.hid (show latL (fun i=>cutT (L.getD i [])) (fun i=>cutS (L.getD i [])) (i+1)=ll++((d++[58])++(32 :: tx)) from by
      unfold latL
      rw [←hll,if_pos (.inl hi0),if_neg (by omega),HD.out.1,HD.out.2.1,HD.out.2.2];rfl)
     have hd0:((i:Int) == 0)=true:=by simp [hi0]
     have hg0:decide ((0:Int)<(i:Int))=false:=decide_eq_false (by omega)
     have hg0':decide (0<i)=false:=decide_eq_false (by omega)
     have hd0':(i == 0)=true:=by simp [hi0]
     clear hll hi0
     go_upto_region 8 with fail
     refine wp_region_quiet_below (by kernel_rfl) (by kernel_rfl) ?_
     repeat (go_big_quiet_step (exact Calls.regrown_of ((by first | exact HSI | exact HSJ:SzAt w2 _ _).out _ (hgw _ _))))
     refine wpQuiet_nil ?_
     intro _ hw'
     obtain ⟨⟨dq,osq⟩,hw''⟩:=hw'
     subst hw''
     have hx8:=hgw dq osq
     have HB8:=Lib.hid (HBO.out.ext (below_regrown wr dq osq))
     generalize Sort.grow (redrawn wr dq) osq=w8 at hx8 HB8 ⊢
     clear hgw
     go_upto_region 12 with (first | (go_at_call 70;refine (HSI.out _ hx8).mono ?_;rintro e wA ⟨rfl,hxA⟩;have hxA2:=Ext.trans hx8 hxA;have HBA:=Lib.hid ((HB8).out.ext hxA)) | (go_at_call 66;refine (HIT.out _ hxA2).mono ?_;rintro e wB ⟨rfl,hxB⟩;have hxB2:=hxA2.trans hxB;have HBC:=Lib.hid (HBA.out.ext hxB)) | (go_at_call 64;refine (write1_any wB bb _ HBC.out [d,[58]] 2 rfl (by omega) (fun x hx=>by simp only [List.mem_cons,List.mem_nil_iff,or_false] at hx;rcases hx with rfl | rfl <;> first | omega | simp) (by have:=HLI.out;first | omega | (simp [cat];omega))).mono ?_;rintro e w11 ⟨rfl,hb11,hbe11⟩;have HB11:=Lib.hid hb11;have hx11:Ext w2 w11:=Below.trans hxB2 (by rw [←HBB.out];exact hbe11);clear hb11 hbe11))
     clear hxA hxA2 HBA hxB hxB2 HBC
     go_upto_region 13 with (first | (go_at_call 65;refine (HTX.out _ hx11).mono ?_;rintro e wC ⟨rfl,hxC⟩;have hxC2:=Ext.trans hx11 hxC;have HBD:=Lib.hid ((HB11).out.ext hxC)) | (go_at_call 64;refine (write1_any wC bb _ HBD.out [[32],tx] 2 rfl (by omega) (fun x hx=>by simp only [List.mem_cons,List.mem_nil_iff,or_false] at hx;rcases hx with rfl | rfl <;> first | omega | simp) (by have:=HLI.out;first | omega | (simp [cat];omega))).mono ?_;rintro e w12 ⟨rfl,hb12,hbe12⟩;have HB12:=Lib.hid hb12;have hx12:Ext w2 w12:=Below.trans hxC2 (by rw [←HBB.out];exact hbe12);clear hb12 hbe12))
     go_wp2_with fail
     go_roundg (n - (i+1))
     case rel=>exact ⟨i+1,by omega,rfl,by go_num,hx12,by rw [HST.out];simpa [cat] using HB12.out⟩
     case measure=>omega
    ·obtain ⟨j,hj⟩:∃ j,i=j+1:=⟨i - 1,by omega⟩
     have hwj:IntKind.i64.wrap ((i:Int) - 1)=(j:Int):=by rw [IntWalk.i64_in _ (by omega)];omega
     have hjn:(j:Int)<(n:Int):=by omega
     have hjR:j<R.length:=by omega
     obtain ⟨e1,e2,e3,_,f5,f6⟩:=HCT.out j hjR
     obtain ⟨r',hr⟩:∃ r',r'=R[j]:=⟨_,rfl⟩
     rw [←hr] at e1 e2 e3 f5 f6
     obtain ⟨sa,sn,sc,sg,so,hra,hrn,hrc,hrg,hro⟩:∃ ra rn rc rg ro,ra=r'.a∧rn=r'.l.length∧rc=r'.c∧rg=r'.g∧ro=r'.o:=⟨_,_,_,_,_,rfl,rfl,rfl,rfl,rfl⟩
     have cj:∀ w',Ext w2 w'→w'.cell? ⟨g,o+j,none⟩=some (.slice sa sn sc):=fun w' x=>by rw [hra,hrn,hrc,hr];exact HQ.out.2.1 j hjR w' x
     have hrat:NumAt w2 sn sa sg so (natV (fn r'.l)):=by rw [hra,hrn,hrg,hro,hr];exact HQ.out.2.2 _ (List.getElem_mem hjR)
     rw [←hrn] at e2 e3
     obtain ⟨sj,hsj⟩:∃ sj,sj=cutS r'.l:=⟨_,rfl⟩
     have HSJ:SzAt w2 (.slice sa sn sc) sj:=.mk (fun W (x:Ext w2 W)=>(dsize_any W sn sc sa sg so (natV (fn r'.l)) (hrat.ext x) (by omega) e3).mono fun e w' h=>(⟨h.1.trans (by rw [hsj,hrn];rfl),h.2⟩:e=.returned (.int .i64 sj)∧Ext W w'))
     have HDJ:=Lib.hid (show cutS (L.getD (i - 1) [])=sj from by rw [show i - 1=j by omega,e1];exact hsj.symm)
     have hd0:((i:Int) == 0)=false:=by simp;omega
     have hg0:decide ((0:Int)<(i:Int))=true:=decide_eq_true (by omega)
     have hg0':decide (0<i)=true:=decide_eq_true (by omega)
     have hd0':(i == 0)=false:=by simp;omega
     by_cases hne:sz=sj
     ·have HST := Lib.hid (show latL (fun i => cutT (L.getD i [])) (fun i => cutS (L.getD i [])) (i + 1) = ll ++ (32 :: tx) from by
        unfold latL
        rw [←hll,if_neg (by rw [HD.out.2.1,HDJ.out];intro h;rcases h with h | h;exact hi0 h;exact h hne),HD.out.1];rfl)
      have hde:(sz != sj)=false:=by simp [hne]
      clear hll hi0 hj hr hra hrn hrc hrg hro hrat hsj hne e1 f5 f6 e2 e3
      go_upto_region 8 with fail
      refine wp_region_quiet_below (by kernel_rfl) (by kernel_rfl) ?_
      repeat (go_big_quiet_step (exact Calls.regrown_of ((by first | exact HSI | exact HSJ:SzAt w2 _ _).out _ (hgw _ _))))
      refine wpQuiet_nil ?_
      intro _ hw'
      obtain ⟨⟨dq,osq⟩,hw''⟩:=hw'
      subst hw''
      have hx8:=hgw dq osq
      have HB8:=Lib.hid (HBO.out.ext (below_regrown wr dq osq))
      generalize Sort.grow (redrawn wr dq) osq=w8 at hx8 HB8 ⊢
      clear hgw
      go_upto_region 13 with (first | (go_at_call 65;refine (HTX.out _ hx8).mono ?_;rintro e wC ⟨rfl,hxC⟩;have hxC2:=Ext.trans hx8 hxC;have HBD:=Lib.hid ((HB8).out.ext hxC)) | (go_at_call 64;refine (write1_any wC bb _ HBD.out [[32],tx] 2 rfl (by omega) (fun x hx=>by simp only [List.mem_cons,List.mem_nil_iff,or_false] at hx;rcases hx with rfl | rfl <;> first | omega | simp) (by have:=HLI.out;first | omega | (simp [cat];omega))).mono ?_;rintro e w12 ⟨rfl,hb12,hbe12⟩;have HB12:=Lib.hid hb12;have hx12:Ext w2 w12:=Below.trans hxC2 (by rw [←HBB.out];exact hbe12);clear hb12 hbe12))
      go_wp2_with fail
      go_roundg (n - (i+1))
      case rel=>exact ⟨i+1,by omega,rfl,by go_num,hx12,by rw [HST.out];simpa [cat] using HB12.out⟩
      case measure=>omega
     ·have HST := Lib.hid (show latL (fun i => cutT (L.getD i [])) (fun i => cutS (L.getD i [])) (i + 1) = ll ++ ([10] ++ (d ++ [58]) ++ (32 :: tx)) from by
        unfold latL
        rw [←hll,if_pos (.inr (by rw [HD.out.2.1,HDJ.out];exact hne)),if_pos (by omega),HD.out.1,HD.out.2.1,HD.out.2.2])
      have hde:(sz != sj)=true:=by simp [hne]
      clear hll hi0 hj hr hra hrn hrc hrg hro hrat hsj hne e1 f5 f6 e2 e3
      go_upto_region 8 with fail
      refine wp_region_quiet_below (by kernel_rfl) (by kernel_rfl) ?_
      repeat (go_big_quiet_step (exact Calls.regrown_of ((by first | exact HSI | exact HSJ:SzAt w2 _ _).out _ (hgw _ _))))
      refine wpQuiet_nil ?_
      intro _ hw'
      obtain ⟨⟨dq,osq⟩,hw''⟩:=hw'
      subst hw''
      have hx8:=hgw dq osq
      have HB8:=Lib.hid (HBO.out.ext (below_regrown wr dq osq))
      generalize Sort.grow (redrawn wr dq) osq=w8 at hx8 HB8 ⊢
      clear hgw
      go_upto_region 11 with (go_at_call 64;refine (write1_any w8 bb _ HB8.out [[10]] 1 rfl (by omega) (fun x hx=>by simp at hx;subst hx;simp) (by have:=HLI.out;first | omega | (simp [cat];omega))).mono ?_;rintro e w10 ⟨rfl,hb10,hbe10⟩;have HB10:=Lib.hid hb10;have hx10:Ext w2 w10:=Below.trans hx8 (by rw [←HBB.out];exact hbe10);clear hb10 hbe10)
      go_upto_region 12 with (first | (go_at_call 70;refine (HSI.out _ hx10).mono ?_;rintro e wA ⟨rfl,hxA⟩;have hxA2:=Ext.trans hx10 hxA;have HBA:=Lib.hid ((HB10).out.ext hxA)) | (go_at_call 66;refine (HIT.out _ hxA2).mono ?_;rintro e wB ⟨rfl,hxB⟩;have hxB2:=hxA2.trans hxB;have HBC:=Lib.hid (HBA.out.ext hxB)) | (go_at_call 64;refine (write1_any wB bb _ HBC.out [d,[58]] 2 rfl (by omega) (fun x hx=>by simp only [List.mem_cons,List.mem_nil_iff,or_false] at hx;rcases hx with rfl | rfl <;> first | omega | simp) (by have:=HLI.out;first | omega | (simp [cat];omega))).mono ?_;rintro e w11 ⟨rfl,hb11,hbe11⟩;have HB11:=Lib.hid hb11;have hx11:Ext w2 w11:=Below.trans hxB2 (by rw [←HBB.out];exact hbe11);clear hb11 hbe11))
      clear hxA hxA2 HBA hxB hxB2 HBC
      go_upto_region 13 with (first | (go_at_call 65;refine (HTX.out _ hx11).mono ?_;rintro e wC ⟨rfl,hxC⟩;have hxC2:=Ext.trans hx11 hxC;have HBD:=Lib.hid ((HB11).out.ext hxC)) | (go_at_call 64;refine (write1_any wC bb _ HBD.out [[32],tx] 2 rfl (by omega) (fun x hx=>by simp only [List.mem_cons,List.mem_nil_iff,or_false] at hx;rcases hx with rfl | rfl <;> first | omega | simp) (by have:=HLI.out;first | omega | (simp [cat];omega))).mono ?_;rintro e w12 ⟨rfl,hb12,hbe12⟩;have HB12:=Lib.hid hb12;have hx12:Ext w2 w12:=Below.trans hxC2 (by rw [←HBB.out];exact hbe12);clear hb12 hbe12))
      go_wp2_with fail
      go_roundg (n - (i+1))
      case rel=>exact ⟨i+1,by omega,rfl,by go_num,hx12,by rw [HST.out];simpa [cat] using HB12.out⟩
      case measure=>omega
   ·have hin':¬(i:Int)<(n:Int):=by omega
    obtain rfl:i=n:=by omega
    obtain ⟨ll,hll⟩:∃ ll,ll=latL (fun i=>cutT (L.getD i [])) (fun i=>cutS (L.getD i [])) i:=⟨_,rfl⟩
    rw [←hll] at HBO HLI
    have HLAT:=Lib.hid (show latT L=ll++[10] from by unfold latT;rw [hll,show L.length=i from by rw [HLR.out.1,List.length_map,HLR.out.2]])
    clear hll
    go_upto_region 15 with (go_at_call 64;refine (write1_any wr bb ll HBO.out [[10]] 1 rfl (by omega) (fun x hx=>by simp at hx;subst hx;simp) (by have:=HLI.out;first | omega | (simp [cat];omega))).mono ?_;rintro e w9 ⟨rfl,hbw,hbe⟩;have HB9:=Lib.hid (And.intro hbw hbe);clear hbw hbe)
    have HB10:=Lib.hid (And.intro HB9.out.1 HB9.out.2)
    go_wp2_with (first | (go_at_call 68;refine (Tryz.Builder_String_any_k bb bb _ w9 HB10.out.1 (Nat.le_of_lt HB10.out.1.lt)).mono ?_;rintro e w10 ⟨rfl,h1,h2,h3⟩;have HB11:=Lib.hid h2;clear h1 h2 h3) | (go_at_call 37;refine (limited2_any _ (ll++[10])).mono ?_;rintro e w11 ⟨rfl,hx11⟩))
    go_ret2
    exact ⟨Ext.trans hxw2 (Ext.trans (show Ext w2 w10 from Below.trans (Below.trans hxo (by rw [←HBB.out];exact HB10.out.2)) (by rw [←HBB.out];exact HB11.out)) hx11),.inl ⟨L,HCU.out,by rw [HLR.out.1,List.length_map,←HLR.out.2];omega,by rw [HLAT.out,limV_eq];rfl⟩⟩
 ·have HL:=Lib.hid hL
  clear hL
  go_wp2_with fail
  go_ret2
  exact ⟨hx1.trans hx2,.inr ⟨rfl,HL.out⟩⟩
end Go.Proofs.YtmhapcnlpoilpaaGreatDoor
