/- Contracts and laws in plain Lean for RApp: group W73. -/
import Derived.Test.YtkhgpockmaghjaaGreatW72
import Derived.Test.YtkhgpockmaghjaaGreatW16
import Derived.Test.YtkhgpockmaghjaaGreatW34
import Derived.Test.YtkhgpockmaghjaaGreatW50
import Derived.Test.YtkhgpockmaghjaaGreatW18
import Derived.Test.YtkhgpockmaghjaaGreatW20
set_option maxRecDepth 100000
namespace Go.Proofs.YtkhgpockmaghjaaGreat
open Go.RowKit Go.Shelf
attribute [local go_sem] Oper.semAt_some
def FltPost (T:Tr) (L:List Syn) (O:Prop) (w:World) (e:Ending) (w':World):Prop:=Ext w w'∧∃ r:Int,e=.returned (.int .i64 r)∧PFault T L True O r
set_option maxHeartbeats 4000000 in
theorem rfault45_any (w : World) (T : TM) (hT : T.At w) (D : SyD) (hD : D.At w) (out : Bool) :
    Calls Tryz.prog 13 #[T.val,.slice D.s.a D.s.n D.s.c,.bool out] w (FltPost T.toTr D.l (out=true) w):=by
 have hdn:=hD.hn
 have HD:=Lib.hid hD
 have HVL:=Lib.hid (fun W (h:Ext w W)=>rvalid_any W T (hT.ext h))
 have HIS:=Lib.hid (fun W (h:Ext w W) p i b hb=>ris_any W T (hT.ext h) p i b hb)
 have HTB:=Lib.hid (fun W (h:Ext w W) hV hL=>rtable_any W T (hT.ext h) hV D (hD.ext h) hL)
 unfold FltPost
 obtain ⟨ta,hta⟩:∃ z,z=T.a:=⟨_,rfl⟩
 obtain ⟨da,hda⟩:∃ z,z=D.s.a:=⟨_,rfl⟩
 obtain ⟨dn,hdn'⟩:∃ z,z=D.s.n:=⟨_,rfl⟩
 have HDN:=Lib.hid (And.intro hda hdn')
 simp only [TM.val,←hta] at HVL HIS HTB ⊢
 rw [←hda,←hdn'] at HTB
 rw [←hdn'] at hdn
 rw [←hda,←hdn']
 clear hT hD hta hda hdn'
 go_enter Tryz.func13,Tryz.ntmps13
 go_upto_region 1 with fail
 refine boxed1 (w:=w) (G:=fun x=>Code.wp _ _ _ _ x) ?_
 intro w1 hx1 hs1 ⟨l0,c0,_,_⟩
 have hx11:Ext w1 w1:=Ext.refl _
 clear hs1
 go_wp2_with fail
 go_at_call 30
 refine (HVL.out w1 hx1).mono ?_
 rintro e w2 ⟨bv,rfl,hbv,hx2⟩
 have hxw2:=hx1.trans hx2
 cases bv with
 | false =>
  have HF:=Lib.hid (show PFault T.toTr D.l True (out=true) 1 from .inl ⟨.inl ⟨fun h=>absurd (hbv.2 h.1) (by decide),rfl⟩,by decide⟩)
  clear hbv
  go_wp2_with fail
  go_ret
  exact ⟨hxw2,_,rfl,HF.out⟩
 | true =>
 have HV:=Lib.hid (hbv.1 rfl)
 clear hbv
 by_cases hlen:1000<dn
 ·have b1:decide ((1000:Int)<(dn:Int))=true:=decide_eq_true (by omega)
  have b1':decide (1000<dn)=true:=decide_eq_true hlen
  have HF:=Lib.hid (show PFault T.toTr D.l True (out=true) 5 from .inl ⟨.inr (.inl ⟨⟨HV.out,trivial⟩,by rw [D.len,←HDN.out.2];exact hlen,rfl⟩),by decide⟩)
  go_wp2_with fail
  go_ret
  exact ⟨hxw2,_,rfl,HF.out⟩
 have b1:decide ((1000:Int)<(dn:Int))=false:=decide_eq_false (by omega)
 have b1':decide (1000<dn)=false:=decide_eq_false hlen
 have HLE:=Lib.hid (show D.l.length≤1000 from by rw [D.len,←HDN.out.2];omega)
 go_wp2_with fail
 go_loopg [7] dn (fun gg v7 wr=>∃ k:Nat,k≤dn∧gg=dn - k∧v7=.int .i64 k∧Ext w1 wr∧∀ i,i<k→T.toTr.Ex (D.x i).1 (D.x i).2∧T.toTr.Ex (D.y i).1 (D.y i).2)
 case atStart=>exact ⟨0,by omega,rfl,rfl,hx2,fun i h=>absurd h (Nat.not_lt_zero _)⟩
 case round=>
  obtain ⟨k,hk,rfl,rfl,hx1r,hall⟩:=hrel
  have HA:=Lib.hid hall
  have hxwr:=hx1.trans hx1r
  clear hall hx2 hxw2
  by_cases hlt:k<dn
  case neg=>
   obtain rfl:dn=k:=by omega
   have HL:=Lib.hid (show SynOk T.toTr D.l from fun s hs=>by
    obtain ⟨i,hi,rfl⟩:=SyD.mem.1 hs
    exact HA.out i (by rw [HDN.out.2];exact hi))
   cases out with
   | true =>
    have HF:=Lib.hid (show PFault T.toTr D.l True (true=true) 2 from .inl ⟨.inr (.inr (.inl ⟨⟨HV.out,trivial⟩,HLE.out,.inr rfl,rfl⟩)),by decide⟩)
    go_wp2_with fail
    go_ret
    exact ⟨hxwr,_,rfl,HF.out⟩
   | false =>
   have HPS:=Lib.hid (show PSize T.toTr D.l True (false=true) 0 from .inr (.inr (.inr ⟨⟨HV.out,trivial⟩,HLE.out,HL.out,by decide,rfl⟩)))
   go_wp2_with fail
   go_at_call 56
   refine (HTB.out wr hxwr HV.out HL.out).mono ?_
   rintro e w3 ⟨hx3,g,rb,f,rfl,hB,hf⟩
   obtain ⟨n,hn⟩:∃ z,z=tot T.en T.n:=⟨_,rfl⟩
   rw [←hn] at hB hf
   rw [←hn]
   have HN:=Lib.hid hn
   have HB:=Lib.hid hB
   have HF:=Lib.hid hf
   have hxw3:=hxwr.trans hx3
   clear hB hf hn
   have hnl:n≤140737488355328:=by
    rw [HN.out]
    have htl:∀ q,q≤T.n→tot T.en q≤64*q:=fun q=>by
     induction q with
     | zero => intro _;exact Nat.le_refl _
     | succ q ih =>
      intro h
      have:=ih (by omega)
      have:=HV.out.en64 (show q<T.n by omega)
      rw [totR_succ];omega
    have:=htl T.n (Nat.le_refl _)
    have:=HV.out.n8
    omega
   go_wp2_with fail
   go_loopg [9] n (fun gg v9 wi=>∃ i:Nat,i≤n∧gg=n - i∧v9=.int .i64 i∧Ext w3 wi∧∀ a,a<i→f a a=false)
   case atStart=>exact ⟨0,by omega,rfl,rfl,Ext.refl _,fun a h=>absurd h (Nat.not_lt_zero _)⟩
   case round=>
    rename World=>wi
    obtain ⟨i,hi,rfl,rfl,hx3i,hno⟩:=hrel
    have HNO:=Lib.hid hno
    have hxwi:=hxw3.trans hx3i
    clear hno
    by_cases hli:i<n
    case neg=>
     obtain rfl:n=i:=by omega
     have HNC:=Lib.hid (show T.toTr.NoCyc D.l from fun x hx hp=>by
      have h1:=(way_iff HV.out HL.out hx hx).2 hp
      have h2:numE T.toTr x<n:=by rw [HN.out];exact numE_lt hx
      have h3:=(HF.out _ _ h2 h2).2 ((warS_iff (D:=T.toTr.DN D.l) (n:=n) (fun a c h=>by rw [HN.out];exact dn_lt h)).2 h1)
      rw [HNO.out _ h2] at h3;cases h3)
     have HFF:=Lib.hid (show PFault T.toTr D.l True (false=true) 0 from .inr (.inr ⟨HPS.out,HNC.out,rfl⟩))
     go_wp2_with fail
     go_ret
     exact ⟨hxwi,_,rfl,HFF.out⟩
    have hli':(i:Int)<(n:Int):=by omega
    have hBi:=HB.out.ext hx3i
    have hRi:=hBi.row i hli
    obtain ⟨b,hb⟩:∃ b,b=f i i:=⟨_,rfl⟩
    have cg:∀ w',Ext wi w'→g<w'.heap.size:=fun w' x=>Nat.lt_of_lt_of_le hBi.lt x.le
    have ci:∀ w',Ext wi w'→w'.cell? ⟨g,i,none⟩=some (.slice (some ⟨rb i,0,none⟩) n n):=fun w' x=>x.cell (hBi.h1 i hli)
    have ri:∀ w',Ext wi w'→w'.cell? ⟨rb i,i,none⟩=some (.bool b):=fun w' x=>by rw [hb];exact x.cell (hRi.c i hli)
    have li:∀ w',Ext wi w'→rb i<w'.heap.size:=fun w' x=>Nat.lt_of_lt_of_le hRi.lt x.le
    have hii:Ext wi wi:=Ext.refl _
    have HBB:=Lib.hid hb
    clear hBi hRi hb
    cases b with
    | true =>
     have HCY:=Lib.hid (show ¬T.toTr.NoCyc D.l from fun h=>by
      have h1:=(HF.out i i hli hli).1 HBB.out.symm
      have h2:=(warS_iff (D:=T.toTr.DN D.l) (n:=n) (fun a c h=>by rw [HN.out];exact dn_lt h)).1 h1
      obtain ⟨x,hx,hxn⟩:=numE_ex (T:=T.toTr) (k:=i) (Nat.le_refl _) (by rw [←HN.out];exact hli)
      rw [←hxn] at h2
      exact h x hx ((way_iff HV.out HL.out hx hx).1 h2))
     have HFF:=Lib.hid (show PFault T.toTr D.l True (false=true) 10 from .inr (.inl ⟨HPS.out,HCY.out,rfl⟩))
     go_wp2_with fail
     go_ret
     exact ⟨hxwi,_,rfl,HFF.out⟩
    | false =>
     have HNO2:=Lib.hid (show ∀ a,a<i+1→f a a=false from fun a ha=>by
      by_cases e:a=i
      ·subst e;exact HBB.out.symm
      ·exact HNO.out a (by omega))
     go_wp2_with fail
     go_roundg (n - (i+1))
     case rel=>exact ⟨i+1,by omega,rfl,by go_num,hx3i,HNO2.out⟩
     case measure=>omega
  have hlt':(k:Int)<(dn:Int):=by omega
  have hkD:k<D.s.n:=by rw [←HDN.out.2];exact hlt
  obtain rfl:da=_:=HDN.out.1.trans (HD.out.ha (by omega))
  have pb:∀ w',Ext w w'→D.s.b<w'.heap.size:=fun w' y=>Nat.lt_of_lt_of_le (HD.out.hb (by omega)) y.le
  have hg0:∀ d os,Ext w (Sort.grow (redrawn wr d) os):=fun d os=>hxwr.trans (below_regrown wr d os)
  have hg1:∀ d os,Ext w1 (Sort.grow (redrawn wr d) os):=fun d os=>hx1r.trans (below_regrown wr d os)
  obtain ⟨x0,hx0⟩:∃ z,z=(D.x k).1:=⟨_,rfl⟩
  obtain ⟨x1,hx1'⟩:∃ z,z=(D.x k).2:=⟨_,rfl⟩
  obtain ⟨y0,hy0⟩:∃ z,z=(D.y k).1:=⟨_,rfl⟩
  obtain ⟨y1,hy1⟩:∃ z,z=(D.y k).2:=⟨_,rfl⟩
  have p0:∀ w',Ext w w'→w'.cell? ⟨D.s.b,D.s.o+k*4,none⟩=some (.int .i64 x0):=fun w' y=>by rw [hx0];exact y.cell (HD.out.c0 k hkD)
  have p1:∀ w',Ext w w'→w'.cell? ⟨D.s.b,D.s.o+k*4+1,none⟩=some (.int .i64 x1):=fun w' y=>by rw [hx1'];exact y.cell (HD.out.c1 k hkD)
  have p2:∀ w',Ext w w'→w'.cell? ⟨D.s.b,D.s.o+k*4+2,none⟩=some (.int .i64 y0):=fun w' y=>by rw [hy0];exact y.cell (HD.out.c2 k hkD)
  have p3:∀ w',Ext w w'→w'.cell? ⟨D.s.b,D.s.o+k*4+3,none⟩=some (.int .i64 y1):=fun w' y=>by rw [hy1];exact y.cell (HD.out.c3 k hkD)
  obtain ⟨bx,hbx⟩:=exists_bool (T.toTr.Ex x0 x1)
  obtain ⟨by',hby⟩:=exists_bool (T.toTr.Ex y0 y1)
  have hI1:=fun W (h:Ext w W)=>HIS.out W h x0 x1 bx hbx
  have hI2:=fun W (h:Ext w W)=>HIS.out W h y0 y1 by' hby
  have HBX:=Lib.hid (show (bx=true↔T.toTr.Ex (D.x k).1 (D.x k).2)∧(by'=true↔T.toTr.Ex (D.y k).1 (D.y k).2) from by rw [←hx0,←hx1',←hy0,←hy1];exact ⟨hbx,hby⟩)
  have HMM:=Lib.hid (show D.at k∈D.l from SyD.mem.2 ⟨k,hkD,rfl⟩)
  clear hx0 hx1' hy0 hy1 hbx hby
  cases bx with
  | false =>
   have HF:=Lib.hid (show PFault T.toTr D.l True (out=true) 2 from .inl ⟨.inr (.inr (.inl ⟨⟨HV.out,trivial⟩,HLE.out,.inl (fun h=>absurd (HBX.out.1.2 (h _ HMM.out).1) (by decide)),rfl⟩)),by decide⟩)
   go_upto_region 8 with fail
   refine wp_region_quiet_below (by kernel_rfl) (by kernel_rfl) ?_
   repeat (go_big_quiet_step (fail))
   go_big_quiet_step (exact Calls.regrown_of (hI1 _ (hg0 _ _)))
   repeat (go_big_quiet_step (fail))
   refine wpQuiet_nil ?_
   intro _ hw'
   obtain ⟨⟨dq,osq⟩,hw''⟩:=hw'
   subst hw''
   have hx2:=hg1 dq osq
   have hxw2:=hg0 dq osq
   clear hg0 hg1
   generalize Sort.grow (redrawn wr dq) osq=w2 at hx2 hxw2 ⊢
   go_wp2_with fail
   go_ret
   exact ⟨hxw2,_,rfl,HF.out⟩
  | true =>
  cases by' with
  | false =>
   have HF:=Lib.hid (show PFault T.toTr D.l True (out=true) 2 from .inl ⟨.inr (.inr (.inl ⟨⟨HV.out,trivial⟩,HLE.out,.inl (fun h=>absurd (HBX.out.2.2 (h _ HMM.out).2) (by decide)),rfl⟩)),by decide⟩)
   go_upto_region 8 with fail
   refine wp_region_quiet_below (by kernel_rfl) (by kernel_rfl) ?_
   repeat (go_big_quiet_step (fail))
   go_big_quiet_step (exact Calls.regrown_of (hI1 _ (hg0 _ _)))
   repeat (go_big_quiet_step (fail))
   go_big_quiet_step (exact Calls.regrown_of (hI2 _ (hg0 _ _)))
   repeat (go_big_quiet_step (fail))
   refine wpQuiet_nil ?_
   intro _ hw'
   obtain ⟨⟨dq,osq⟩,hw''⟩:=hw'
   subst hw''
   have hx2:=hg1 dq osq
   have hxw2:=hg0 dq osq
   clear hg0 hg1
   generalize Sort.grow (redrawn wr dq) osq=w2 at hx2 hxw2 ⊢
   go_wp2_with fail
   go_ret
   exact ⟨hxw2,_,rfl,HF.out⟩
  | true =>
   have HA2:=Lib.hid (show ∀ i,i<k+1→T.toTr.Ex (D.x i).1 (D.x i).2∧T.toTr.Ex (D.y i).1 (D.y i).2 from fun i hi=>by
    by_cases e:i=k
    ·subst e;exact ⟨HBX.out.1.1 rfl,HBX.out.2.1 rfl⟩
    ·exact HA.out i (by omega))
   go_upto_region 8 with fail
   refine wp_region_quiet_below (by kernel_rfl) (by kernel_rfl) ?_
   repeat (go_big_quiet_step (fail))
   go_big_quiet_step (exact Calls.regrown_of (hI1 _ (hg0 _ _)))
   repeat (go_big_quiet_step (fail))
   go_big_quiet_step (exact Calls.regrown_of (hI2 _ (hg0 _ _)))
   repeat (go_big_quiet_step (fail))
   refine wpQuiet_nil ?_
   intro _ hw'
   obtain ⟨⟨dq,osq⟩,hw''⟩:=hw'
   subst hw''
   have hx2:=hg1 dq osq
   have hxw2:=hg0 dq osq
   clear hg0 hg1
   generalize Sort.grow (redrawn wr dq) osq=w2 at hx2 hxw2 ⊢
   go_wp2_with fail
   go_roundg (dn - (k+1))
   case rel=>exact ⟨k+1,by omega,rfl,by go_num,hx2,HA2.out⟩
   case measure=>omega
end Go.Proofs.YtkhgpockmaghjaaGreat

namespace Go.Proofs.YtkhgpockmaghjaaGreat
open Go.ChangeShapes Go.WideShapes Go.RowKit Go.Deep
section
variable {H:Type} {enc:TypeId × Value→H} {W:World}
theorem arg_ints {r : Reach} {b0 : Nat} {v : Value} {d : DataW H} {p : List MemPlace} (hv : Value.okWide Tryz.prog W r b0 39 v) (h : DataW.Trod enc Tryz.prog W 0 (fun _ => true) true 39 v d p) (hs : Small Tryz.prog 39 d) :
    ∃ D:IntD,v=.slice D.s.a D.s.n D.s.c∧D.At W:=by
 obtain ⟨a0,len,cap,rfl⟩:=okWide_slice Tryz.underlying39 hv
 obtain ⟨fuel,hf⟩:=h
 obtain ⟨D,e,hD⟩:=open_nums (x:=(d,p)) hf hs
 refine ⟨D,?_,hD⟩
 simpa [Value.cells] using e
end
theorem IntD.At.num {C:IntD} {w:World} (hC:C.At w):NumAt w C.s.n C.s.a C.s.b C.s.o C.z:=⟨hC.s.hn,hC.s.ha,hC.s.hb,fun k hk=>(hC.c k hk).1⟩
end Go.Proofs.YtkhgpockmaghjaaGreat
