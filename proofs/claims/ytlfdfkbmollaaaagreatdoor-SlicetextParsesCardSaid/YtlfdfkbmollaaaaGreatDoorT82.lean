/- Contracts and laws in plain Lean for RApp: group T82. -/
import Derived.Test.YtlfdfkbmollaaaaGreatDoorT77
import Derived.Test.YtlfdfkbmollaaaaGreatDoorT36
namespace Go.Proofs.YtlfdfkbmollaaaaGreatDoor
open Go.RowKit Go.Shelf
attribute [local go_sem] Oper.semAt_some
set_option maxRecDepth 100000 in
set_option maxHeartbeats 16000000 in
theorem read_any (W : World) (hW : LibB W) (b : Nat) (hb : Apt b) (text : List UInt8) (h : Hold W b (rdrC ⟨text, 0, 0, 0, 0⟩)) (hl : text.length ≤ 100000) (T : TM) (hT : ∀ w', Cg (· = b) W w' → T.At w') (hV : T.toTr.Valid) :
    Calls Tryz.prog 35 #[.pointer (some ⟨b,0,none⟩),T.val] W (RdPost W b T.toTr text):=by
 have hbW:=h.lt
 have hn:=(hT W (Cg.refl _ _)).P.hn
 have HT:=Lib.hid hT
 have HV:=Lib.hid hV
 have HB:=Lib.hid hb
 have hv:T.val=.agg #[.slice T.a T.n T.cap]:=rfl
 rw [hv]
 obtain ⟨gT,hgT⟩:∃ gT,gT=W.heap.size:=⟨_,rfl⟩
 obtain ⟨gR,hgR⟩:∃ gR,gR=W.heap.size+1:=⟨_,rfl⟩
 have hord:b<gT∧gT<gR:=by omega
 have HLW:=Lib.hid (show ∀ w',Cg (· = b) W w'→LibB w' from fun w' x=>hW.cg x fun _ e=>by subst e;exact hb)
 have HH0:=Lib.hid h
 clear hT hV hW hb hv h
 go_enter Tryz.func35,Tryz.ntmps35
 go_upto_region 1 with fail
 refine boxed2 (w:=W) (G:=fun x=>Code.wp _ _ _ _ x) ?_
 intro W1 hx1 hs1 hT1 hR1
 rw [←hgT] at hT1
 rw [←hgR] at hR1
 have HA1:=Lib.hid (show RdA W b gT gR T ⟨text,0,0,0,0⟩ W1 from ⟨HH0.out.ext hx1,hT1.hold,hR1.hold,hx1.cg _⟩)
 have HGE:=Lib.hid (And.intro hgT hgR)
 have hgR2:W.heap.size≤gR:=by omega
 have hbR:b≠gR:=by omega
 rw [←hgR,←hgT]
 clear hs1 hT1 hR1 hgT hgR
 obtain ⟨lT,cT,_,_⟩:=HA1.out.ht.box
 have h11:Ext W1 W1:=Ext.refl _
 have hNX:=rnextL_any W1 (HLW.out _ HA1.out.x) b HB.out ⟨text,0,0,0,0⟩ HA1.out.h (by show text.length≤_;omega) (by simp) (by simp)
 have hnr:=next_rest ⟨text,0,0,0,0⟩
 obtain ⟨r1,hr1⟩:∃ r1,r1=(Rdr.mk text 0 0 0 0).next.2:=⟨_,rfl⟩
 obtain ⟨l1,hl1⟩:∃ l1,l1=(Rdr.mk text 0 0 0 0).next.1:=⟨_,rfl⟩
 rw [←hr1,←hl1] at hNX hnr
 have HNX:=Lib.hid hNX
 obtain ⟨hr1l,hl1l,hr1a,hr1b⟩:=hnr
 simp only at hr1l hl1l hr1a hr1b
 have HE1:=Lib.hid (And.intro hr1 hl1)
 clear hNX hr1 hl1
 go_upto_region 3 with (go_at_call 84;refine HNX.out.mono ?_;rintro e W2 ⟨rfl,hh,hc⟩;have HA2:=Lib.hid (HA1.out.cg hord hh hc);clear hh hc)
 clear h11 lT cT
 obtain ⟨lb,cb,fb,_⟩:=HA2.out.h.box
 obtain ⟨lR,cR,fR,_⟩:=HA2.out.hr.box
 have h22:Ext W2 W2:=Ext.refl _
 unfold rdrC at cb
 have hcs:=bts_const l1 [101,109,112,116,121]
 by_cases he:r1.e=0
 case neg=>
  have d0:(r1.e == 0)=false:=by simpa using he
  have d1:(r1.e != 0)=true:=by simpa using he
  have HP:=Lib.hid (show readP T.toTr text=(SL.zero,r1) from by
   unfold readP
   simp only
   rw [←HE1.out.1,←HE1.out.2,if_neg (fun h=>he h.1),if_pos he])
  have HNE:=Lib.hid he
  clear he hcs
  go_wp2_with fail
  try simp only [Exit.inBlock,Exit.then]
  refine bodyPost_ret (read_results _ _ gR _ _ _ _ rfl (HA2.out.hr.put4 _ _ _ _)) rfl ?_
  exact ⟨_,_,_,_,_,_,_,_,_,_,rfl,by rw [HP.out];exact HA2.out.h.oth4 hbR _ _ _ _,HA2.out.x.put4 hgR2 _ _ _ _,fun h=>absurd (by rw [HP.out] at h;exact h) HNE.out⟩
 have d0:(r1.e == 0)=true:=by simpa using he
 have d1:(r1.e != 0)=false:=by simp [he]
 by_cases hem:l1=[101,109,112,116,121]
 ·rw [decide_eq_true hem] at hcs
  have HP:=Lib.hid (show readP T.toTr text=(⟨true,[],[],[]⟩,r1) from by
   unfold readP
   simp only
   rw [←HE1.out.1,←HE1.out.2,if_pos ⟨he,hem⟩])
  clear he hem
  go_wp2_with fail
  try simp only [Exit.inBlock,Exit.then]
  refine bodyPost_ret (read_results _ _ gR _ _ _ _ rfl (HA2.out.hr.put4 _ _ _ _)) rfl ?_
  refine ⟨_,_,_,_,_,_,_,_,_,_,rfl,by rw [HP.out];exact HA2.out.h.oth4 hbR _ _ _ _,HA2.out.x.put4 hgR2 _ _ _ _,fun _ _ _=>?_⟩
  rw [HP.out]
  exact slc_empty _
 rw [decide_eq_false hem] at hcs
 have HRP:=Lib.hid (show readP T.toTr text=(let c:=r1.counts l1 (Lib.split l1 [32]) T.n (wordE [102,105,114,115,116])
  let b:=(cutE T.toTr c).next
  if b.2.e≠0 then (⟨false,c.1,[],[]⟩,b.2) else readL T.toTr c.1 b) from by
   unfold readP
   simp only
   rw [←HE1.out.1,←HE1.out.2,if_neg (fun h=>hem h.2),if_neg (by simpa using he)])
 clear he hem
 have hl1b:l1.length≤1000000:=by omega
 have HCT:=Lib.hid (fun W3 (x:Cg (· = b) W W3) h f lb F=>counts_any W3 (HLW.out _ x) b HB.out r1 h l1 hl1b T.n f lb (wordE [102,105,114,115,116]) F (Lib.split l1 [32]) rfl)
 have hcr:=counts_rest r1 l1 (Lib.split l1 [32]) T.n (wordE [102,105,114,115,116])
 have hco:=counts_ok r1 l1 (Lib.split l1 [32]) T.n (wordE [102,105,114,115,116])
 have hspl:=split_len 32 l1
 obtain ⟨F,hF⟩:∃ F,F=(r1.counts l1 (Lib.split l1 [32]) T.n (wordE [102,105,114,115,116])).1:=⟨_,rfl⟩
 obtain ⟨r2,hr2⟩:∃ r2,r2=(r1.counts l1 (Lib.split l1 [32]) T.n (wordE [102,105,114,115,116])).2:=⟨_,rfl⟩
 rw [←hr2] at hcr
 rw [←hF] at hco
 have hc0:(r1.counts l1 (Lib.split l1 [32]) T.n (wordE [102,105,114,115,116]))=(F,r2):=by rw [hF,hr2]
 rw [hc0] at HRP HCT
 simp only at HRP HCT
 have hFl:F.length≤1000000:=by omega
 have HFO:=Lib.hid hco.1
 obtain ⟨hr2l,hr2n⟩:=hcr
 clear hF hr2 hc0 hco hspl
 obtain ⟨bb,hbb⟩:=exists_bool (r2.e=0∧¬T.toTr.IsCut F.length (gi F))
 have HBB:=Lib.hid hbb
 clear hbb
 go_upto_region 8 with (first | (go_at_call 86;refine (word_any W2 [102,105,114,115,116]).mono ?_;rintro e W3 ⟨rfl,hw3,hx3⟩;have HW3:=Lib.hid (And.intro hw3 hx3);clear hw3 hx3) | (go_at_call 85;refine (HCT.out W3 (HA2.out.x.trans (HW3.out.2.cg _)) (HA2.out.h.ext HW3.out.2) _ _ (wordF HW3.out.1 (by have:=HA2.out.h.lt;omega))).mono ?_;rintro e W4 ⟨vf,rfl,hq,hh,hc⟩;obtain ⟨af,cf,gf,of,rfl,hnf⟩:=hq.num hFl;have HNF:=Lib.hid hnf;have HA4:=Lib.hid (show RdA W b gT gR T r2 W4 from (RdA.cg ⟨HA2.out.h.ext HW3.out.2,HA2.out.ht.ext HW3.out.2,HA2.out.hr.ext HW3.out.2,HA2.out.x.trans (HW3.out.2.cg _)⟩ hord hh hc));have HQ4:=Lib.hid (And.intro hq (HA2.out.x.trans (HW3.out.2.cg _)).le);clear hq hh hc hnf))
 have HS6:=Lib.hid (HA4.out.slc (.slice af F.length cf) (.slice none 0 0) (.slice none 0 0) (t:=30))
 generalize W4.alloc (.cells #[.bool false,.slice af F.length cf,.slice none 0 0,.slice none 0 0] 30)=W6 at HS6 ⊢
 obtain ⟨gS,hgS⟩:∃ gS,gS=W4.heap.size:=⟨_,rfl⟩
 rw [←hgS] at HS6 ⊢
 have hord2:b<gT∧gT<gR∧gR<gS:=⟨hord.1,hord.2,by have:=HA4.out.hr.lt;omega⟩
 have HOF:=Lib.hid (show Own (·≠gS) (.slice af F.length cf) from by rw [hgS];exact HQ4.out.1.off (.inl (Nat.le_refl _)))
 have HOFR:=Lib.hid (show Own (·≠gR) (.slice af F.length cf) from HQ4.out.1.off (.inr (by have:=HA2.out.hr.lt;have:=HW3.out.2.le;omega)))
 have HQF:=Lib.hid (show Que W6 W.heap.size 1 (.slice af F.length cf) F.length (intCells F) from (HQ4.out.1.ext HS6.out.2).mono HQ4.out.2)
 have HN6:=Lib.hid (HNF.out.ext HS6.out.2)
 have HS6':=Lib.hid HS6.out.1
 clear HS6 HNF HQ4 HA4 hgS cb lb fb cR lR fR h22 hcs HCT
 obtain ⟨lb,cb,fb,_⟩:=HS6'.out.h.box
 obtain ⟨lT,cT,_,_⟩:=HS6'.out.ht.box
 obtain ⟨lS,cS,_,_⟩:=HS6'.out.hs.box
 unfold rdrC at cb
 have h66:Ext W6 W6:=Ext.refl _
 have HCC:=Lib.hid (show Calls Tryz.prog 87 #[.agg #[.slice T.a T.n T.cap],.slice af F.length cf] W6 (BoolPost (T.toTr.IsCut F.length (gi F)) W6) from ccon_any W6 T (HT.out _ HS6'.out.x) af F.length cf gf of (gi F) HN6.out)
 go_cut [55] (fun s55 wx=>s55=.bool bb∧Ext W6 wx)
 case first=>
  by_cases he2:r2.e=0
  ·have d2:(r2.e == 0)=true:=by simpa using he2
   have HE2:=Lib.hid he2
   clear he2
   go_wp2_with (go_at_call 87;refine HCC.out.mono ?_;rintro e W7 ⟨b7,rfl,hb7,hx7⟩;obtain rfl:bb = !b7:=bb_not HBB.out HE2.out hb7)
   go_meet
   case rel=>exact ⟨rfl,hx7⟩
  ·have d2:(r2.e == 0)=false:=by simpa using he2
   obtain rfl:bb=false:=bb_no HBB.out he2
   clear he2
   go_wp2_with fail
   go_meet
   case rel=>exact ⟨rfl,Ext.refl _⟩
 case rest=>
  obtain ⟨rfl,hx7⟩:=hcut
  have HS7:=Lib.hid (HS6'.out.ext hx7)
  have HQ7:=Lib.hid (HQF.out.ext hx7)
  clear HS6' HQF HN6 hx7 lb cb fb lT cT lS cS h66 HCC
  obtain ⟨r3,hr3⟩:∃ r3,r3=cutE T.toTr (F,r2):=⟨_,rfl⟩
  rw [←hr3] at HRP
  have HR3:=Lib.hid hr3
  clear hr3
  have hr3l:r3.rest=r2.rest∧r3.line=r2.line:=by
   rw [HR3.out];unfold cutE;split
   ·exact fail_rest _ _ _
   ·exact ⟨rfl,rfl⟩
  go_upto_if 55 with fail
  go_cut [] (fun wx=>Hid (RdS W b gT gR gS T r3 (.slice af F.length cf) (.slice none 0 0) (.slice none 0 0) wx)∧Hid (Que wx W.heap.size 1 (.slice af F.length cf) F.length (intCells F)))
  case first=>
   cases hb2:bb with
   | true =>
    have HFL:=Lib.hid (rfail_any wc b r2 HS7.out.h 1 18)
    have HE:=Lib.hid (show r3=r2.fail 1 18 from by rw [HR3.out];unfold cutE;exact if_pos (HBB.out.1 hb2))
    clear hb2
    go_wp2_with (go_at_call 36;refine HFL.out.mono ?_;rintro e W8 ⟨rfl,hh,hc⟩;have HH8:=Lib.hid (And.intro hh hc);clear hh hc)
    go_meet
    case rel=>exact ⟨Lib.hid (by rw [HE.out];exact HS7.out.cg hord2 HH8.out.1 HH8.out.2),Lib.hid (HQ7.out.keepB HH8.out.2 hbW)⟩
   | false =>
    have HE:=Lib.hid (show r3=r2 from by rw [HR3.out];unfold cutE;exact if_neg (fun h=>by have:=HBB.out.2 h;rw [hb2] at this;cases this))
    clear hb2
    go_wp2_with fail
    go_meet
    case rel=>exact ⟨Lib.hid (by rw [HE.out];exact HS7.out),Lib.hid HQ7.out⟩
  case rest=>
   obtain ⟨HS9,HQ9⟩:=hcut
   rename World=>wd
   clear HS7 HQ7 HBB
   have hgS2:W.heap.size≤gS:=by omega
   obtain ⟨lb,cb,fb,_⟩:=HS9.out.h.box
   have h99:Ext wd wd:=Ext.refl _
   have hNX:=rnextL_any wd (HLW.out _ HS9.out.x) b HB.out r3 HS9.out.h (by rw [hr3l.1,hr2l];omega) (by rw [hr3l.2,hr2n];omega) (by rw [hr3l.2,hr2n];omega)
   have hnr:=next_rest r3
   obtain ⟨r4,hr4⟩:∃ r4,r4=r3.next.2:=⟨_,rfl⟩
   obtain ⟨l4,hl4⟩:∃ l4,l4=r3.next.1:=⟨_,rfl⟩
   have hb4:r3.next=(l4,r4):=by rw [hr4,hl4]
   rw [←hr4,←hl4] at hNX hnr
   rw [hb4] at HRP
   simp only at HRP
   have HNX:=Lib.hid hNX
   obtain ⟨hr4l,hl4l,hr4a,hr4b⟩:=hnr
   rw [hr3l.1,hr2l] at hr4l hl4l
   rw [hr3l.2,hr2n] at hr4a hr4b
   have HCF:=Lib.hid (show r4.e=0→T.toTr.IsCut F.length (gi F) from fun h=>(cutE_e (T:=T.toTr) (c:=(F,r2)) (by rw [←HR3.out];exact next_e (by rw [←hr4];exact h))).2)
   clear hNX hr4 hl4 hb4 hr3l hr2l hr2n
   go_upto_region 11 with (go_at_call 84;refine HNX.out.mono ?_;rintro e W10 ⟨rfl,hh,hc⟩;have HS10:=Lib.hid (HS9.out.cg hord2 hh hc);have HQ10:=Lib.hid (HQ9.out.keepB hc hbW);clear hh hc)
   clear lb cb fb h99
   obtain ⟨lb,cb,fb,_⟩:=HS10.out.h.box
   obtain ⟨lS,cS,fS,_⟩:=HS10.out.hs.box
   obtain ⟨lR,cR,fR,_⟩:=HS10.out.hr.box
   have h1010:Ext W10 W10:=Ext.refl _
   unfold rdrC at cb
   by_cases he:r4.e=0
   case neg=>
    have d1:(r4.e != 0)=true:=by simpa using he
    have HP:=Lib.hid (show readP T.toTr text=(⟨false,F,[],[]⟩,r4) from by rw [HRP.out,if_pos he])
    have HNE:=Lib.hid he
    clear he
    go_wp2_with fail
    try simp only [Exit.inBlock,Exit.then]
    refine bodyPost_ret (read_results _ _ gR _ _ _ _ rfl (HS10.out.hr.put4 _ _ _ _)) rfl ?_
    exact ⟨_,_,_,_,_,_,_,_,_,_,rfl,by rw [HP.out];exact HS10.out.h.oth4 hbR _ _ _ _,HS10.out.x.put4 hgR2 _ _ _ _,fun h=>absurd (by rw [HP.out] at h;exact h) HNE.out⟩
   have d1:(r4.e != 0)=false:=by simp [he]
   have HRL:=Lib.hid (show readP T.toTr text=readL T.toTr F (l4,r4) from by rw [HRP.out,if_neg (by simp [he])])
   have HIF:=Lib.hid (HCF.out he)
   clear he HRP HCF
   have hl4b:l4.length≤1000000:=by omega
   have HCT:=Lib.hid (fun W3 (x:Cg (· = b) W W3) h f lb F=>counts_any W3 (HLW.out _ x) b HB.out r4 h l4 hl4b T.n f lb (wordE [108,97,115,116]) F (Lib.split l4 [32]) rfl)
   have hcr:=counts_rest r4 l4 (Lib.split l4 [32]) T.n (wordE [108,97,115,116])
   have hco:=counts_ok r4 l4 (Lib.split l4 [32]) T.n (wordE [108,97,115,116])
   have hspl:=split_len 32 l4
   obtain ⟨L,hL⟩:∃ L,L=(r4.counts l4 (Lib.split l4 [32]) T.n (wordE [108,97,115,116])).1:=⟨_,rfl⟩
   obtain ⟨r5,hr5⟩:∃ r5,r5=(r4.counts l4 (Lib.split l4 [32]) T.n (wordE [108,97,115,116])).2:=⟨_,rfl⟩
   rw [←hr5] at hcr
   rw [←hL] at hco
   have hc0:(r4.counts l4 (Lib.split l4 [32]) T.n (wordE [108,97,115,116]))=(L,r5):=by rw [hL,hr5]
   unfold readL at HRL
   simp only at HRL
   rw [hc0] at HRL HCT
   simp only at HRL HCT
   have hLl:L.length≤1000000:=by omega
   have HLO:=Lib.hid hco.1
   obtain ⟨hr5l,hr5n⟩:=hcr
   clear hL hr5 hc0 hco hspl
   obtain ⟨bb,hbb⟩:=exists_bool (r5.e=0∧(¬T.toTr.IsCut L.length (gi L)∨¬LeqL F.length L.length (gi F) (gi L)))
   have HBB:=Lib.hid hbb
   clear hbb
   go_upto_region 14 with (first | (go_at_call 86;refine (word_any W10 [108,97,115,116]).mono ?_;rintro e W11 ⟨rfl,hw3,hx3⟩;have HW3:=Lib.hid (And.intro hw3 hx3);have hx1011:=hx3;clear hw3 hx3) | (go_at_call 85;refine (HCT.out W11 (HS10.out.x.trans (HW3.out.2.cg _)) (HS10.out.h.ext HW3.out.2) _ _ (wordF HW3.out.1 (by have:=HS10.out.h.lt;omega))).mono ?_;rintro e W12 ⟨vl,rfl,hq,hh,hc⟩;obtain ⟨al,cl,gl,ol,rfl,-⟩:=hq.num hLl;have HS12:=Lib.hid ((HS10.out.ext HW3.out.2).cg hord2 hh hc);have HQF12:=Lib.hid ((HQ10.out.ext HW3.out.2).keepB hc hbW);have HOL:=Lib.hid (show Own (·≠gS) (.slice al L.length cl) from hq.off (.inr (by have:=(HS10.out.ext HW3.out.2).hs.lt;omega)));have HOLR:=Lib.hid (show Own (·≠gR) (.slice al L.length cl) from hq.off (.inr (by have:=(HS10.out.ext HW3.out.2).hr.lt;omega)));have HQL12:=Lib.hid (hq.mono (base':=W.heap.size) (HS10.out.x.trans (HW3.out.2.cg _)).le);have lS12:=HS12.out.hs.box.lt;have cS12:=HS12.out.hs.box.cell;have fS12:=HS12.out.hs.box.frozen;have h1212:Ext W12 W12:=Ext.refl _;clear hq hh hc))
   have HS13:=Lib.hid (HS12.out.put2 hord2 hgS2 (.slice al L.length cl))
   have HQF13:=Lib.hid (HQF12.out.other ⟨gS,2,none⟩ (.slice al L.length cl) HOF.out)
   have HQL13:=Lib.hid (HQL12.out.other ⟨gS,2,none⟩ (.slice al L.length cl) HOL.out)
   generalize W12.setCell ⟨gS,2,none⟩ (.slice al L.length cl)=W13 at HS13 HQF13 HQL13 ⊢
   clear lS12 cS12 fS12 h1212 HS12 HQF12 HQL12 lb cb fb lS cS fS lR cR fR h1010 HQ10 HS10 HCT
   obtain ⟨lb,cb,fb,_⟩:=HS13.out.h.box
   obtain ⟨lT,cT,_,_⟩:=HS13.out.ht.box
   obtain ⟨lS,cS,_,_⟩:=HS13.out.hs.box
   unfold rdrC at cb
   have h13:Ext W13 W13:=Ext.refl _
   have HCC:=Lib.hid (show Calls Tryz.prog 87 #[.agg #[.slice T.a T.n T.cap],.slice al L.length cl] W13 (BoolPost (T.toTr.IsCut L.length (gi L)) W13) from by
    obtain ⟨g,o,hN⟩:=HQL13.out.num2 hLl
    exact ccon_any W13 T (HT.out _ HS13.out.x) al L.length cl g o (gi L) hN)
   have HLE:=Lib.hid (fun W14 (x:Ext W13 W14)=>show Calls Tryz.prog 67 #[.slice af F.length cf,.slice al L.length cl] W14 (BoolPost (LeqL F.length L.length (gi F) (gi L)) W14) from by
    obtain ⟨g,o,hN⟩:=HQL13.out.num2 hLl
    obtain ⟨g',o',hN'⟩:=HQF13.out.num2 hFl
    exact cleq_any W14 af al g' o' g o F.length L.length cf cl (gi F) (gi L) (hN'.ext x) (hN.ext x))
   go_cut [91] (fun s91 wx=>s91=.bool bb∧Ext W13 wx)
   case first=>
    by_cases he2:r5.e=0
    ·have d2:(r5.e == 0)=true:=by simpa using he2
     have HE2:=Lib.hid he2
     clear he2
     by_cases hcut:T.toTr.IsCut L.length (gi L)
     ·have HCU:=Lib.hid hcut
      clear hcut
      go_wp2_with (first | (go_at_call 87;refine HCC.out.mono ?_;rintro e W14 ⟨b7,rfl,hb7,hx7⟩;have e7:b7=true:=hb7.2 HCU.out;have e7':(!b7)=false:=by simp [e7]) | (go_at_call 67;refine (HLE.out _ hx7).mono ?_;rintro e W15 ⟨b8,rfl,hb8,hx8⟩;obtain rfl:bb = !b8:=bb_two HBB.out HE2.out HCU.out hb8))
      go_meet
      case rel=>exact ⟨rfl,hx7.trans hx8⟩
     ·have HCU:=Lib.hid hcut
      clear hcut
      go_wp2_with (first | (go_at_call 87;refine HCC.out.mono ?_;rintro e W14 ⟨b7,rfl,hb7,hx7⟩;obtain rfl:b7=false:=Bool.eq_false_iff.2 fun h=>HCU.out (hb7.1 h);obtain rfl:bb=true:=bb_one HBB.out HE2.out HCU.out))
      go_meet
      case rel=>exact ⟨rfl,hx7⟩
    ·have d2:(r5.e == 0)=false:=by simpa using he2
     obtain rfl:bb=false:=bb_non HBB.out he2
     clear he2
     go_wp2_with fail
     go_meet
     case rel=>exact ⟨rfl,Ext.refl _⟩
   case rest=>
    obtain ⟨rfl,hx7⟩:=hcut
    rename World=>we
    have HS7:=Lib.hid (HS13.out.ext hx7)
    have HQF7:=Lib.hid (HQF13.out.ext hx7)
    have HQL7:=Lib.hid (HQL13.out.ext hx7)
    clear HS13 HQF13 HQL13 hx7 lb cb fb lT cT lS cS h13 HCC HLE
    obtain ⟨r6,hr6⟩:∃ r6,r6=cutE2 T.toTr F (L,r5):=⟨_,rfl⟩
    rw [←hr6] at HRL
    have HR6:=Lib.hid hr6
    clear hr6
    have hr6l:r6.rest=r5.rest∧r6.line=r5.line:=by
     rw [HR6.out];unfold cutE2;split
     ·exact fail_rest _ _ _
     ·exact ⟨rfl,rfl⟩
    go_upto_if 91 with fail
    go_cut [] (fun wx=>Hid (RdS W b gT gR gS T r6 (.slice af F.length cf) (.slice al L.length cl) (.slice none 0 0) wx)∧Hid (Que wx W.heap.size 1 (.slice af F.length cf) F.length (intCells F))∧Hid (Que wx W.heap.size 1 (.slice al L.length cl) L.length (intCells L)))
    case first=>
     cases hb2:bb with
     | true =>
      have HFL:=Lib.hid (rfail_any we b r5 HS7.out.h 1 18)
      have HE:=Lib.hid (show r6=r5.fail 1 18 from by rw [HR6.out];unfold cutE2;exact if_pos (HBB.out.1 hb2))
      clear hb2
      go_wp2_with (go_at_call 36;refine HFL.out.mono ?_;rintro e W8 ⟨rfl,hh,hc⟩;have HH8:=Lib.hid (And.intro hh hc);clear hh hc)
      go_meet
      case rel=>exact ⟨Lib.hid (by rw [HE.out];exact HS7.out.cg hord2 HH8.out.1 HH8.out.2),Lib.hid (HQF7.out.keepB HH8.out.2 hbW),Lib.hid (HQL7.out.keepB HH8.out.2 hbW)⟩
     | false =>
      have HE:=Lib.hid (show r6=r5 from by rw [HR6.out];unfold cutE2;exact if_neg (fun h=>by have:=HBB.out.2 h;rw [hb2] at this;cases this))
      clear hb2
      go_wp2_with fail
      go_meet
      case rel=>exact ⟨Lib.hid (by rw [HE.out];exact HS7.out),Lib.hid HQF7.out,Lib.hid HQL7.out⟩
    case rest=>
     obtain ⟨HS9,HQF9,HQL9⟩:=hcut
     rename World=>wf
     clear HS7 HQF7 HQL7 HBB
     obtain ⟨lb,cb,fb,_⟩:=HS9.out.h.box
     obtain ⟨lS,cS,fS,_⟩:=HS9.out.hs.box
     obtain ⟨lR,cR,fR,_⟩:=HS9.out.hr.box
     have h99:Ext wf wf:=Ext.refl _
     unfold rdrC at cb
     by_cases he:r6.e=0
     case neg=>
      have d1:(r6.e != 0)=true:=by simpa using he
      have HP:=Lib.hid (show readP T.toTr text=(⟨false,F,L,[]⟩,r6) from by rw [HRL.out,if_pos he])
      have HNE:=Lib.hid he
      clear he
      go_wp2_with fail
      try simp only [Exit.inBlock,Exit.then]
      refine bodyPost_ret (read_results _ _ gR _ _ _ _ rfl (HS9.out.hr.put4 _ _ _ _)) rfl ?_
      exact ⟨_,_,_,_,_,_,_,_,_,_,rfl,by rw [HP.out];exact HS9.out.h.oth4 hbR _ _ _ _,HS9.out.x.put4 hgR2 _ _ _ _,fun h=>absurd (by rw [HP.out] at h;exact h) HNE.out⟩
     have d1:(r6.e != 0)=false:=by simp [he]
     go_upto_region 18 with fail
     have hil:=(cutE2_e (T:=T.toTr) (f:=F) (c:=(L,r5)) (by rw [←HR6.out];exact he)).2
     have HRG:=Lib.hid (show readP T.toTr text=(⟨false,F,L,(evsGo T.toTr (ownL (gi F) (gi L) T.n) (J0 T.toTr F) r6).1⟩,(evsGo T.toTr (ownL (gi F) (gi L) T.n) (J0 T.toTr F) r6).2) from by rw [HRL.out,if_neg (by simp [he])])
     have hFn:F.length=T.n:=HIF.out.1.2
     have hLn:L.length=T.n:=hil.1.1.2
     have HC:=Lib.hid (show ∀ p,p<T.n→0≤gi F p∧gi F p≤gi L p∧gi L p≤(T.en p:Int) from fun p hp=>⟨(HIF.out.2.1 p hp).1,hil.2.2 p (by rw [hFn];exact hp),(hil.1.2.1 p hp).2⟩)
     have hn1:=HV.out.n1
     have hn8:=HV.out.n8
     have HEN:=Lib.hid (fun p (hp:p<T.n)=>HV.out.en64 hp)
     have hbf:b<wf.heap.size:=HS9.out.h.lt
     have hWf:W.heap.size≤wf.heap.size:=HS9.out.x.le
     have hSf:gS<wf.heap.size:=HS9.out.hs.lt
     have HFQ:=Lib.hid (show ∀ w',Cg (fun g=>g=b∨g=gS∨g=gR) wf w'→Que w' W.heap.size 1 (.slice af F.length cf) F.length (intCells F) from fun w' x=>by
      have o1:=HQF9.out.own_of
      refine HQF9.out.own_same (P:=fun g=>g<wf.heap.size∧g≠b∧g≠gS∧g≠gR) ?_ x.le fun g e=>x.2 g e.1 fun e2=>e2.elim e.2.1 fun e3=>e3.elim e.2.2.1 e.2.2.2
      rcases o1 with o1 | o1
      ·exact .inl o1
      ·rcases HOF.out with o2 | o2
       ·exact .inl o2
       ·rcases HOFR.out with o3 | o3
        ·exact .inl o3
        ·exact .inr fun g e=>⟨(o1 g e).2,by have:=(o1 g e).1;omega,o2 g e,o3 g e⟩)
     have HLQ:=Lib.hid (show ∀ w',Cg (fun g=>g=b∨g=gS∨g=gR) wf w'→Que w' W.heap.size 1 (.slice al L.length cl) L.length (intCells L) from fun w' x=>by
      have o1:=HQL9.out.own_of
      refine HQL9.out.own_same (P:=fun g=>g<wf.heap.size∧g≠b∧g≠gS∧g≠gR) ?_ x.le fun g e=>x.2 g e.1 fun e2=>e2.elim e.2.1 fun e3=>e3.elim e.2.2.1 e.2.2.2
      rcases o1 with o1 | o1
      ·exact .inl o1
      ·rcases HOL.out with o2 | o2
       ·exact .inl o2
       ·rcases HOLR.out with o3 | o3
        ·exact .inl o3
        ·exact .inr fun g e=>⟨(o1 g e).2,by have:=(o1 g e).1;omega,o2 g e,o3 g e⟩)
     have HB0:=Lib.hid (show ∃ RB EV,RdB W wf b gT gR gS T r6 (.slice af F.length cf) (.slice al L.length cl) (.slice none 0 0) (J0k T.toTr F 0) 0 RB EV wf from
      ⟨fun _=>0,fun _ _=>.bool false,HS9.out,Cg.refl _ _,Que.nil _ _ _,fun g e=>by simp [Value.ownBlock] at e,RowsI.start _ _ _ _ _⟩)
     have HFL:=Lib.hid (And.intro hFn hLn)
     rw [hFn] at HFQ HB0
     rw [hLn] at HLQ HB0
     obtain ⟨i0,hi0,hz0,hz1,hz2⟩:=info_parts infoScR
     obtain ⟨m0,hm0,hy0,hy1,hy2⟩:=info_parts infoScJ
     have HJ0:=Lib.hid (show J0 T.toTr F=J0k T.toTr F T.n from rfl)
     have HTH:=Lib.hid HS9.out.ht
     have HR6B:=Lib.hid (show r6.rest.length≤100000∧0≤r6.line∧r6.line≤2 from by rw [hr6l.1,hr6l.2,hr5l,hr5n];omega)
     clear hFn hLn
     clear he hil HR6 HRL HIF HQF9 HQL9 lb cb fb lS cS fS lR cR fR hr6l
     obtain ⟨lT,cT,_,_⟩:=HTH.out.box
     go_wp2_with fail
     go_loopg [103] T.n (fun gg v103 wr=>∃ k:Nat,k≤T.n∧gg=T.n - k∧v103=.int .i64 k∧∃ vj RB EV,RdB W wf b gT gR gS T r6 (.slice af T.n cf) (.slice al T.n cl) vj (J0k T.toTr F k) k RB EV wr)
     case atStart=>
      obtain ⟨RB,EV,h⟩:=HB0.out
      exact ⟨0,by omega,by omega,rfl,_,RB,EV,h⟩
     case round=>
      clear HB0 HS9 lT cT
      obtain ⟨k,hk,rfl,rfl,vj,RB,EV,hI⟩:=hrel
      have HI:=Lib.hid hI
      obtain ⟨aj,cj,rfl⟩:=hI.j.slice
      clear hI
      by_cases hlt:k<T.n
      ·have hlt':(k:Int)<(T.n:Int):=by omega
       have hTA:=HT.out _ HI.out.s.x
       obtain ⟨lT,cT,_,_⟩:=HI.out.s.ht.box
       have hrr:Ext wr wr:=Ext.refl _
       have pa:=hTA.P.pa (by omega)
       have pb:=hTA.P.pb (by omega)
       have p0:∀ w',Ext wr w'→w'.cell? ⟨T.b,T.off+k*3,none⟩=some (.string (T.name k)):=fun w' x=>hTA.P.p0 w' x k hlt
       have p1:∀ w',Ext wr w'→w'.cell? ⟨T.b,T.off+k*3+1,none⟩=some (.slice (T.va k) (T.vn k) (T.vc k)):=fun w' x=>hTA.P.p1 w' x k hlt
       have p2:∀ w',Ext wr w'→w'.cell? ⟨T.b,T.off+k*3+2,none⟩=some (.slice (T.ea k) (T.en k) (T.ec k)):=fun w' x=>hTA.P.p2 w' x k hlt
       have hek:=HEN.out k hlt
       have hck:=HC.out k hlt
       obtain ⟨x,hx⟩:∃ x:Nat,gi F k=(x:Int):=⟨(gi F k).toNat,by omega⟩
       rw [hx] at hck
       have HX:=Lib.hid hx
       have HXT:=Lib.hid (show (gi F k).toNat=x from by rw [hx];exact Int.toNat_natCast x)
       have hxe:x≤T.en k:=by omega
       clear hx hTA hck
       go_upto_region 21 with fail
       obtain ⟨bx,hbx⟩:∃ z,z=wr.heap.size:=⟨_,rfl⟩
       have HP20:=Lib.hid (show Hold (wr.alloc (.cells #[.string (T.name k),.slice (T.va k) (T.vn k) (T.vc k),.slice (T.ea k) (T.en k) (T.ec k)] 79)) bx #[.string (T.name k),.slice (T.va k) (T.vn k) (T.vc k),.slice (T.ea k) (T.en k) (T.ec k)] from by rw [hbx];exact Hold.new _ _ _)
       have hx20:Ext wr (wr.alloc (.cells #[.string (T.name k),.slice (T.va k) (T.vn k) (T.vc k),.slice (T.ea k) (T.en k) (T.ec k)] 79)):=(Ext.refl wr).alloc' _
       rw [←hbx]
       generalize wr.alloc (.cells #[.string (T.name k),.slice (T.va k) (T.vn k) (T.vc k),.slice (T.ea k) (T.en k) (T.ec k)] 79)=w20 at HP20 hx20 ⊢
       clear hbx hrr lT cT p0 p1 p2 pa pb
       have HI20:=Lib.hid (HI.out.ext hx20)
       have h2020:Ext w20 w20:=Ext.refl _
       obtain ⟨l9,c9,f9,_⟩:=HP20.out.box
       go_upto_region 22 with (at_make;refine wpList_make_full _ rfl _ _ 64 rfl w20.heap.size 27 i0 (.slice none 0 0) 1 Tryz.underlying64 hi0 hz0 hz1 .i64 .i64 _ _ (T.en k) rfl rfl rfl rfl (by rw [hz2];omega) (by unfold maxLen;omega) (Nat.le_refl _) ?_;intro w21 hown hg)
       have hx21:Ext w20 w21:=(Below.refl _ _).grown hg (Nat.le_refl _) (by simp)
       obtain ⟨gr,hgr⟩:∃ z,z=w20.heap.size:=⟨_,rfl⟩
       have HI21:=Lib.hid (show ∃ EV',RdB W wf b gT gR gS T r6 (.slice af T.n cf) (.slice al T.n cl) (.slice aj k cj) (J0k T.toTr F k++[rowF T.toTr F k 0]) k (up RB k gr) EV' w21 from by
        have h:=HI20.out.new hx21 (Nat.le_refl _) (made_hold hown) (J0k_len _ _ _).symm
        rw [J0k_len,←rowF_zero T.toTr F k,←hgr] at h
        exact ⟨_,h⟩)
       rw [←hgr]
       clear hgr hown hg c9 l9 f9 h2020
       obtain ⟨EV1,hI21⟩:=HI21.out
       obtain ⟨gf,of,haf,hgf,hfc⟩:=(show Que w21 W.heap.size 1 (.slice af F.length cf) F.length (intCells F) from by rw [HFL.out.1];exact HFQ.out w21 (hI21.y.weak fun g e=>e.imp id .inl)).num3 hFl (by have:=HFL.out.1;omega)
       subst haf
       have q0:∀ w',Ext w21 w'→w'.cell? ⟨gf,of+k,none⟩=some (.int .i64 (x:Int)):=fun w' z=>by rw [←HX.out];exact z.cell (hfc k (by have:=HFL.out.1;omega))
       have qb:∀ w',Ext w21 w'→gf<w'.heap.size:=fun w' z=>Nat.lt_of_lt_of_le hgf z.le
       have HI2:=Lib.hid hI21
       obtain ⟨lS,cS,fS,_⟩:=hI21.s.hs.box
       have h2121:Ext w21 w21:=Ext.refl _
       have hF0:0<F.length:=by have:=HFL.out.1;omega
       have hF9:F.length≤1000:=by have:=HFL.out.1;omega
       clear hI21 hfc hgf HI21
       go_wp2_with fail
       go_loopg [117] x (fun gg v117 wi=>∃ i:Nat,i≤x∧gg=x - i∧v117=.int .i64 i∧∃ EV',RdB W wf b gT gR gS T r6 (.slice (some ⟨gf,of,none⟩) T.n cf) (.slice al T.n cl) (.slice aj k cj) (J0k T.toTr F k++[rowF T.toTr F k i]) k (up RB k gr) EV' wi)
       case atStart=>exact ⟨0,by omega,by omega,rfl,EV1,HI2.out⟩
       case round=>
        clear HI2 HI20 q0 qb lS cS fS h2121 hx21 HP20
        obtain ⟨i,hi,rfl,rfl,EV',hJ⟩:=hrel
        have HJ:=Lib.hid hJ
        clear hJ
        have hii:Ext wr wr:=Ext.refl _
        obtain ⟨lS,cS,fS,_⟩:=HJ.out.s.hs.box
        by_cases hlx:i<x
        ·have hlx':(i:Int)<(x:Int):=by omega
         have hie:(i:Int)<(T.en k:Int):=by omega
         have HCQ:=Lib.hid (cloneq_any wr W.heap.size (.slice (some ⟨gf,of,none⟩) T.n cf) F (by rw [HFL.out.1];exact HFQ.out _ (HJ.out.y.weak fun g e=>e.imp id .inl)) hF0 hF9)
         have HG:=Lib.hid (show Hold wr gr ((List.range (T.en k)).map (EV' k)).toArray from by
          have h:=(HJ.out.rows.row k (by rw [List.length_append,J0k_len];simp)).2
          have e:(J0k T.toTr F k++[rowF T.toTr F k i]).getD k []=rowF T.toTr F k i:=by
           have h:=getD_last (l:=J0k T.toTr F k) (x:=rowF T.toTr F k i) (d:=[])
           rwa [J0k_len] at h
          rw [up_same,e,rowF_len] at h
          exact h)
         go_wp2_with (go_at_call 88;refine HCQ.out.mono ?_;rintro e w8 ⟨v8,rfl,hq8,hx8⟩;obtain ⟨a8,c8,rfl⟩:=hq8.slice;have HQ8:=Lib.hid hq8;have hG8:=(HG.out.ext hx8).box;have lG8:=hG8.lt;have fG8:=hG8.frozen;have cG8:∀ w',Ext w8 w'→w'.cell? ⟨gr,i,none⟩=some (EV' k i):=(fun w' z=>by rw [hG8.cell w' z i,List.getElem?_toArray,List.getElem?_map,List.getElem?_range (by omega)];rfl);have h88:Ext w8 w8:=Ext.refl _;clear hq8 hG8)
         go_roundg (x - (i+1))
         case rel=>
          have e:(J0k T.toTr F k++[rowF T.toTr F k i]).getD k []=rowF T.toTr F k i:=by
           have h:=getD_last (l:=J0k T.toTr F k) (x:=rowF T.toTr F k i) (d:=[])
           rwa [J0k_len] at h
          have h:=(HJ.out).put (HJ.out.ext hx8) hgS2 hord2 hSf (p:=k) (i:=i) (by rw [List.length_append,J0k_len];simp) (by rw [e,rowF_len];omega) HQ8.out
          rw [e,rowF_set,set_last (J0k_len _ _ _).symm,up_same] at h
          exact ⟨i+1,by omega,rfl,by go_num,_,h⟩
         case measure=>omega
        ·obtain rfl:i=x:=by omega
         have hlx':¬(i:Int)<(i:Int):=by omega
         have HK:=Lib.hid (show RdB W wf b gT gR gS T r6 (.slice (some ⟨gf,of,none⟩) T.n cf) (.slice al T.n cl) (.slice aj k cj) (J0k T.toTr F (k+1)) k (up RB k gr) EV' wr from by
          rw [J0k_succ,HXT.out];exact HJ.out)
         have HV:=Lib.hid (show rowV (J0k T.toTr F (k+1)) (up RB k gr) k=.slice (some ⟨gr,0,none⟩) (T.en k) (T.en k) from by
          unfold rowV;rw [up_same,J0k_get (by omega),rowF_len])
         have HNG:=Lib.hid (show ∀ g,(Value.slice aj k cj).ownBlock=some g→wf.heap.size≤g from fun g e=>HK.out.j.block g e)
         clear HJ
         go_wp2_with (at_builtin;refine wpList_append_que _ rfl _ _ 28 28 rfl (base:=wf.heap.size) (e:=64) (size:=1) m0 (.slice none 0 0) 24 Tryz.underlying28 hm0 hy0 hy1 hy2 rfl rfl (v:=.slice aj k cj) (n:=k) (xs:=(List.range k).map (rowV (J0k T.toTr F (k+1)) (up RB k gr))) (by exact HK.out.j.ext (Ext.alloc _ _)) (by rw [World.size_alloc];have:=HK.out.y.le;omega) _ 1 [.slice (some ⟨gr,0,none⟩) (T.en k) (T.en k)] rfl (by exact Src.ofSlice _ Tryz.underlying28 ⟨wr.heap.size,0,none⟩ 1 1 _ rfl (news_ok wr _ _) (by intro u hu;simp at hu;rcases hu with rfl;rfl)) (by unfold maxLen;omega) (by omega) ?_;rintro v8 w8 hq8 hg8 ho8;obtain ⟨a8,cp8,rfl⟩:=hq8.slice;have HS8:=((HK.out.s.hs.ext (Ext.alloc' (Ext.refl _) _)).grownG hg8 (fun e=>by have:=HNG.out _ e;omega)).box;have lS8:=HS8.lt;have fS8:=HS8.frozen;have cS8:=HS8.cell;have h88:Ext w8 w8:=Ext.refl _;have H8:=Lib.hid (And.intro hq8 (And.intro hg8 ho8));clear hq8 hg8 ho8 HS8)
         go_roundg (T.n - (k+1))
         case rel=>
          have h:=HK.out.push (wa:=wr.alloc (.cells #[.slice (some ⟨gr,0,none⟩) (T.en k) (T.en k)] 64)) (t:=64) hgS2 hord2 hSf (by rw [HV.out]) (by rw [HV.out];exact H8.out.1) H8.out.2.1 H8.out.2.2
          exact ⟨k+1,by omega,rfl,by go_num,_,_,_,h⟩
         case measure=>omega
      ·obtain rfl:k=T.n:=by omega
       have hlt':¬(T.n:Int)<(T.n:Int):=by omega
       have hrr:Ext wr wr:=Ext.refl _
       obtain ⟨lS,cS,fS,_⟩:=HI.out.s.hs.box
       have cS1:∀ w',Ext wr w'→w'.cell? ⟨gS,1,none⟩=some (.slice af T.n cf):=fun w' z=>cS w' z 1
       have cS2:∀ w',Ext wr w'→w'.cell? ⟨gS,2,none⟩=some (.slice al T.n cl):=fun w' z=>cS w' z 2
       have HOW:=Lib.hid (show Calls Tryz.prog 51 #[.slice af T.n cf,.slice al T.n cl] wr (OwnPost (gi F) (gi L) T.n wr) from by
        obtain ⟨g1,o1,h1⟩:=(show Que wr W.heap.size 1 (.slice af F.length cf) F.length (intCells F) from by rw [HFL.out.1];exact HFQ.out wr (HI.out.y.weak fun g e=>e.imp id .inl)).num2 hFl
        obtain ⟨g2,o2,h2⟩:=(show Que wr W.heap.size 1 (.slice al L.length cl) L.length (intCells L) from by rw [HFL.out.2];exact HLQ.out wr (HI.out.y.weak fun g e=>e.imp id .inl)).num2 hLl
        rw [HFL.out.1] at h1
        rw [HFL.out.2] at h2
        exact own_any wr af al g1 o1 g2 o2 T.n cf cl (gi F) (gi L) h1 h2 (by omega) fun p hp=>by have h3:=HC.out p hp;have h4:=HEN.out p hp;omega)
       clear cS HJ0 hlt
       go_upto_region 30 with (go_at_call 51;refine HOW.out.mono ?_;rintro e w30 ⟨hx30,a30,c30,rfl,hq30⟩;have HQ30:=Lib.hid hq30;clear hq30)
       obtain ⟨B0,hB0⟩:∃ z,z=wr.heap.size:=⟨_,rfl⟩
       rw [←hB0] at HQ30
       obtain ⟨N,hN⟩:∃ N,N=(ownL (gi F) (gi L) T.n).length:=⟨_,rfl⟩
       rw [←hN] at HQ30 ⊢
       have HN:=Lib.hid hN
       have HI30:=Lib.hid (HI.out.ext hx30)
       have HRW:=Lib.hid (show ∀ p,p<T.n→RB p<B0 from fun p hp=>by rw [hB0];exact (HI.out.rows.row p (by rw [J0k_len];exact hp)).2.lt)
       have hB0f:wf.heap.size≤B0:=by rw [hB0];exact HI.out.y.le
       have hB30:B0≤w30.heap.size:=by rw [hB0];exact hx30.le
       have hN9:N≤1000:=by
        have h1:=ownL_len (u:=gi F) (v:=gi L) (c:=64) (n:=T.n) fun p hp=>by have h3:=HC.out p hp;have h4:=HEN.out p hp;omega
        have h2:T.n*64≤8*64:=Nat.mul_le_mul_right _ hn8
        omega
       clear hN hB0 hx30 hrr lS fS cS1 cS2 HOW HI
       go_loopg [140] N (fun gg v140 wo=>∃ k:Nat,k≤N∧gg=N - k∧v140=.int .i64 k∧∃ J r EV',RdB W wf b gT gR gS T r (.slice af T.n cf) (.slice al T.n cl) (.slice aj T.n cj) J T.n RB EV' wo∧JOk T.toTr J∧evsGo T.toTr ((ownL (gi F) (gi L) T.n).drop k) J r=evsGo T.toTr (ownL (gi F) (gi L) T.n) (J0 T.toTr F) r6∧(r.rest.length≤100000∧0≤r.line∧r.line≤(k:Int)+2)∧Cg (fun g=>g<B0) w30 wo)
       case atStart=>
        exact ⟨0,by omega,by omega,rfl,J0k T.toTr F T.n,r6,EV,HI30.out,JOk.start hFl HFO.out,rfl,⟨HR6B.out.1,HR6B.out.2.1,by have:=HR6B.out.2.2;omega⟩,Cg.refl _ _⟩
       case round=>
        clear HI30
        obtain ⟨k,hk,rfl,rfl,J,r,EV',hI,hJO,hE,⟨hr1,hr2,hr3⟩,hy⟩:=hrel
        have HI:=Lib.hid hI
        have HJO:=Lib.hid hJO
        have HE:=Lib.hid hE
        have HY:=Lib.hid hy
        clear hI hJO hE hy
        by_cases hlt:k<N
        ·have hlt':(k:Int)<(N:Int):=by omega
         have hkL:k<(ownL (gi F) (gi L) T.n).length:=by rw [←HN.out];exact hlt
         obtain ⟨p,i,hxk,hp,hip⟩:=own_at (fun p hp=>(HC.out p hp).1) hkL
         have hie:i<T.en p:=by have:=HC.out p hp;omega
         obtain ⟨go',oo,ha30,hgo1,hgo2,hco⟩:=(HQ30.out.same HY.out.le fun g h1 h2=>HY.out.2 g h2 (by omega)).cellsE HN.out.symm (by omega)
         subst ha30
         obtain ⟨z,hz⟩:∃ z:Int,z=(i:Int)+1:=⟨_,rfl⟩
         have o0:∀ w',Ext wr w'→w'.cell? ⟨go',oo+k*2,none⟩=some (.int .i64 (p:Int)):=fun w' x=>by rw [x.cell (hco k hkL).1,hxk]
         have o1:∀ w',Ext wr w'→w'.cell? ⟨go',oo+k*2+1,none⟩=some (.int .i64 z):=fun w' x=>by rw [x.cell (hco k hkL).2,hxk,hz]
         have ob:∀ w',Ext wr w'→go'<w'.heap.size:=fun w' x=>Nat.lt_of_lt_of_le hgo2 x.le
         have HXK:=Lib.hid hxk
         have HZ:=Lib.hid hz
         have hrr:Ext wr wr:=Ext.refl _
         clear hco hgo1 hgo2 hxk hz
         go_upto_region 32 with fail
         obtain ⟨bx,hbx⟩:∃ z,z=wr.heap.size:=⟨_,rfl⟩
         have HP32:=Lib.hid (show Hold (wr.alloc (.cells #[.int .i64 (p:Int),.int .i64 z] 70)) bx #[.int .i64 (p:Int),.int .i64 z] from by rw [hbx];exact Hold.new _ _ _)
         have hx32:Ext wr (wr.alloc (.cells #[.int .i64 (p:Int),.int .i64 z] 70)):=(Ext.refl wr).alloc' _
         rw [←hbx]
         generalize wr.alloc (.cells #[.int .i64 (p:Int),.int .i64 z] 70)=w32 at HP32 hx32 ⊢
         have HBX:=Lib.hid (show b<bx∧gS<bx∧∀ q,q<T.n→RB q<bx from by
          have h1:=HI.out.s.hs.lt
          have h2:=HY.out.le
          exact ⟨by omega,by omega,fun q hq=>by have:=HRW.out q hq;omega⟩)
         clear hbx hrr o0 o1 ob
         have HI32:=Lib.hid (HI.out.ext hx32)
         have hYb:Cg (fun g=>g<B0) w30 w32:=HY.out.trans (hx32.cg _)
         have HY32:=Lib.hid hYb
         have h3232:Ext w32 w32:=Ext.refl _
         have hNX:=rnextL_any w32 (HLW.out _ HI32.out.s.x) b HB.out r HI32.out.s.h (by omega) (by omega) (by omega)
         have hnr:=next_rest r
         obtain ⟨rk,hrk⟩:∃ x,x=r.next.2:=⟨_,rfl⟩
         obtain ⟨lk,hlk⟩:∃ x,x=r.next.1:=⟨_,rfl⟩
         rw [←hrk,←hlk] at hNX hnr
         have HNX:=Lib.hid hNX
         have HRK:=Lib.hid (And.intro hrk hlk)
         obtain ⟨hk1,hk2,hk3,hk4⟩:=hnr
         clear hNX hrk hlk hYb
         go_upto_region 33 with (go_at_call 84;refine HNX.out.mono ?_;rintro e w33 ⟨rfl,hh,hc⟩;have HI33:=Lib.hid (HI32.out.rdr hord2 hbf hh hc);have HP33:=Lib.hid (HP32.out.cg hc (by have:=HBX.out.1;omega));have HY33:=Lib.hid (HY32.out.trans (hc.weak (S':=fun g=>g<B0) (fun g e=>by rw [e];omega)));clear hh hc)
         clear h3232
         obtain ⟨lb,cb,fb,_⟩:=HI33.out.s.h.box
         obtain ⟨lS,cS,fS,_⟩:=HI33.out.s.hs.box
         obtain ⟨lR,cR,fR,_⟩:=HI33.out.s.hr.box
         have h33:Ext w33 w33:=Ext.refl _
         unfold rdrC at cb
         by_cases he:rk.e=0
         case neg=>
          have d1:(rk.e != 0)=true:=by simpa using he
          have HP:=Lib.hid (show readP T.toTr text=(⟨false,F,L,J⟩,rk) from by
           rw [HRG.out,←HE.out,evsGo_stop hkL (by rw [←HRK.out.1];exact he),←HRK.out.1])
          have HNE:=Lib.hid he
          clear he
          go_wp2_with fail
          try simp only [Exit.inBlock,Exit.then]
          refine bodyPost_ret (read_results _ _ gR _ _ _ _ rfl (HI33.out.s.hr.put4 _ _ _ _)) rfl ?_
          exact ⟨_,_,_,_,_,_,_,_,_,_,rfl,by rw [HP.out];exact HI33.out.s.h.oth4 hbR _ _ _ _,HI33.out.s.x.put4 hgR2 _ _ _ _,fun h=>absurd (by rw [HP.out] at h;exact h) HNE.out⟩
         have d1:(rk.e != 0)=false:=by simp [he]
         have HE0:=Lib.hid he
         have hnm:=nameB16 (HV.out.pr p hp).1
         have hen:=HEN.out p hp
         have HNA:=Lib.hid (show Calls Tryz.prog 52 #[.agg #[.slice T.a T.n T.cap],.agg #[.int .i64 (p:Int),.int .i64 z]] w33 (fun e w'=>e=.returned (.tuple #[.string (bts (evN T.toTr ((p:Int),z))),.int .i64 0])∧Ext w33 w') from by
          rw [HZ.out]
          exact tname_any w33 (HLW.out _ HI33.out.s.x) T (HT.out _ HI33.out.s.x) HV.out p i hp hie (by omega) (by omega))
         obtain ⟨nm,hnmv⟩:∃ x,x=evN T.toTr ((p:Int),z):=⟨_,rfl⟩
         rw [←hnmv] at HNA
         have HNM:=Lib.hid hnmv
         obtain ⟨lT,cT,_,_⟩:=HI33.out.s.ht.box
         obtain ⟨lx,cx,_,_⟩:=HP33.out.box
         clear he hnm hnmv lR cR fR
         go_upto_region 36 with (go_at_call 52;refine HNA.out.mono ?_;rintro e w35 ⟨rfl,hx35⟩)
         obtain ⟨bn,hbn⟩:∃ z,z=w35.heap.size:=⟨_,rfl⟩
         have HN36:=Lib.hid (show Hold (w35.alloc (.cells #[.string (bts nm)] 9)) bn #[.string (bts nm)] from by rw [hbn];exact Hold.new _ _ _)
         have hx36:Ext w33 (w35.alloc (.cells #[.string (bts nm)] 9)):=hx35.alloc' _
         have HBN:=Lib.hid (show b<bn from by rw [hbn];have:=HI33.out.s.h.lt;have:=hx35.le;omega)
         rw [←hbn]
         generalize w35.alloc (.cells #[.string (bts nm)] 9)=wq at HN36 hx36 ⊢
         clear hbn lS cS fS lT cT lx cx h33 lb cb fb
         have HIq:=Lib.hid (HI33.out.ext hx36)
         have HPq:=Lib.hid (HP33.out.ext hx36)
         have HYq:=Lib.hid (HY33.out.trans (hx36.cg _))
         obtain ⟨gj,oj,haj,hgj1,hgj2,hcj⟩:=HIq.out.j.cellsV (by omega)
         subst haj
         have hpJ:p<J.length:=by rw [HJO.out.len];exact hp
         obtain ⟨gp,hgp⟩:∃ z,z=RB p:=⟨_,rfl⟩
         have HGP:=Lib.hid hgp
         have hrow:=(HIq.out.rows.row p hpJ).2
         have hnm:=HIq.out.rows.nm p hpJ
         rw [←hgp] at hrow hnm
         rw [HJO.out.row p hp] at hrow
         have hgp1:wf.heap.size≤gp:=by rw [hgp];exact (HIq.out.rows.row p hpJ).1
         have hgp2:gp<bx:=by rw [hgp];exact HBX.out.2.2 p hp
         have HNJ:=Lib.hid (show ¬(gj=b∨gj=gp) from fun e=>e.elim (fun e=>by omega) fun e=>hnm (.inr (by rw [←e];rfl)))
         have HZS:=Lib.hid (HIq.out.s.hs.boxG (S:=fun g=>g=b∨g=gp) (fun e=>e.elim (fun e=>by omega) fun e=>by omega)).2
         have HZX:=Lib.hid (HPq.out.boxG (S:=fun g=>g=b∨g=gp) (fun e=>e.elim (fun e=>by have:=HBX.out.1;omega) fun e=>by omega)).2
         have HZJ:=Lib.hid (show ∀ w',Cg (fun g=>g=b∨g=gp) wq w'→w'.cell? ⟨gj,oj+p,none⟩=some (.slice (some ⟨gp,0,none⟩) (T.en p) (T.en p)) from fun w' x=>by
          have e:=World.cell?_of_block (w:=wq) (w':=w') (a:=⟨gj,oj+p,none⟩) (x.2 gj hgj2 HNJ.out)
          rw [e,hcj p hp,hgp,←HJO.out.row p hp];rfl)
         have hpT:(p:Int)<(T.n:Int):=by omega
         have hiT:(i:Int)<(T.en p:Int):=by omega
         have e1w:IntKind.i64.wrap (p:Int)=(p:Int):=IntWalk.i64_in _ (by omega)
         have e2w:IntKind.i64.wrap (z - 1)=(i:Int):=by have:=HZ.out;rw [IntWalk.i64_in _ (by omega)];omega
         have e3w:IntKind.i64.wrap (i:Int)=(i:Int):=IntWalk.i64_in _ (by omega)
         have hlkl:lk.length≤1000000:=by omega
         clear hcj hnm hgp
         refine wp_region_T (t:=13) (S:=Cg (fun g=>g=b∨g=gp) wq) (R:=fun _=>True) (by kernel_rfl) (Cg.drew (Cg.refl _ _)) trivial (fun hHeld=>?_)
         have HI0:=Lib.hid (HIq.out.ext (Ext.refl wq).drew)
         have HN0:=Lib.hid (HN36.out.ext (Ext.refl wq).drew)
         have HY0:=Lib.hid (HYq.out.trans ((Ext.refl wq).drew.cg _))
         have HR0:=Lib.hid (hrow.ext (Ext.refl wq).drew)
         generalize wq.drew=v0 at HI0 HN0 HY0 HR0 hHeld ⊢
         clear hrow
         obtain ⟨GC,hGC⟩:∃ G,G=rk.counts lk (Lib.split lk [32]) T.n (fun s=>titleE s nm):=⟨_,rfl⟩
         have HCT:=Lib.hid (counts_any v0 (HLW.out _ HI0.out.s.x) b HB.out rk HI0.out.s.h lk hlkl T.n 89 #[.pointer (some ⟨bn,0,none⟩)] (fun s=>titleE s nm) (readF (HLW.out _ HI0.out.s.x) HB.out HN0.out (by have:=HBN.out;omega)) (Lib.split lk [32]) rfl)
         rw [←hGC] at HCT
         have hcr:=counts_rest rk lk (Lib.split lk [32]) T.n (fun s=>titleE s nm)
         have hco:=counts_ok rk lk (Lib.split lk [32]) T.n (fun s=>titleE s nm)
         have hspl:=split_len 32 lk
         rw [←hGC] at hcr hco
         have HGC:=Lib.hid hGC
         have HCB:=Lib.hid (show (GC.2.rest.length≤100000∧0≤GC.2.line∧GC.2.line≤(k:Int)+1+2)∧GC.1.length≤1000000∧Nat50 GC.1 from ⟨⟨by rw [hcr.1];omega,by rw [hcr.2];omega,by rw [hcr.2];omega⟩,by omega,hco.1⟩)
         clear hGC hcr hco hspl
         refine takeS 0 (v:=?_) rfl (by kernel_rfl) (by kernel_rfl) (by kernel_rfl) (fun _ _ _ h=>h) (by decide) (Or.inl ⟨by rfl,?_⟩) hHeld.1 hHeld.2 ?_
         rotate_left
         ·intro w' hSw
          have z0:=HZS.out w' hSw
          have z1:=HZX.out w' hSw
          have z2:=HZJ.out w' hSw
          have z3:=hSw.le
          have hSS:=Ext.refl w'
          go_simp
          try with_reducible rfl
         try simp only [Act.put,zA,zB,zC]
         refine takeS 1 (v:=?_) rfl (by kernel_rfl) (by kernel_rfl) (by kernel_rfl) (fun _ _ _ h=>h) (by decide) (Or.inl ⟨by rfl,?_⟩) hHeld.1 hHeld.2 ?_
         rotate_left
         ·intro w' hSw
          have z0:=HZS.out w' hSw
          have z1:=HZX.out w' hSw
          have z2:=HZJ.out w' hSw
          have z3:=hSw.le
          have hSS:=Ext.refl w'
          go_simp
          try with_reducible rfl
         try simp only [Act.put,zA,zB,zC]
         refine takeS 2 (v:=?_) rfl (by kernel_rfl) (by kernel_rfl) (by kernel_rfl) (fun _ _ _ h=>h) (by decide) (Or.inl ⟨by rfl,?_⟩) hHeld.1 hHeld.2 ?_
         rotate_left
         ·intro w' hSw
          have z0:=HZS.out w' hSw
          have z1:=HZX.out w' hSw
          have z2:=HZJ.out w' hSw
          have z3:=hSw.le
          have hSS:=Ext.refl w'
          go_simp
          try with_reducible rfl
         try simp only [Act.put,zA,zB,zC]
         refine takeS 3 (v:=?_) rfl (by kernel_rfl) (by kernel_rfl) (by kernel_rfl) (fun _ _ _ h=>h) (by decide) (Or.inl ⟨by rfl,?_⟩) hHeld.1 hHeld.2 ?_
         rotate_left
         ·intro w' hSw
          have z0:=HZS.out w' hSw
          have z1:=HZX.out w' hSw
          have z2:=HZJ.out w' hSw
          have z3:=hSw.le
          have hSS:=Ext.refl w'
          go_simp
          try with_reducible rfl
         try simp only [Act.put,zA,zB,zC]
         refine takeS 4 (v:=?_) rfl (by kernel_rfl) (by kernel_rfl) (by kernel_rfl) (fun _ _ _ h=>h) (by decide) (Or.inl ⟨by rfl,?_⟩) hHeld.1 hHeld.2 ?_
         rotate_left
         ·intro w' hSw
          have z0:=HZS.out w' hSw
          have z1:=HZX.out w' hSw
          have z2:=HZJ.out w' hSw
          have z3:=hSw.le
          have hSS:=Ext.refl w'
          go_simp
          try with_reducible rfl
         try simp only [Act.put,zA,zB,zC]
         refine takeS 5 (v:=?_) rfl (by kernel_rfl) (by kernel_rfl) (by kernel_rfl) (fun _ _ _ h=>h) (by decide) (Or.inl ⟨by rfl,?_⟩) hHeld.1 hHeld.2 ?_
         rotate_left
         ·intro w' hSw
          have z0:=HZS.out w' hSw
          have z1:=HZX.out w' hSw
          have z2:=HZJ.out w' hSw
          have z3:=hSw.le
          have hSS:=Ext.refl w'
          go_simp
          try with_reducible rfl
         try simp only [Act.put,zA,zB,zC]
         refine takeS 6 (v:=?_) rfl (by kernel_rfl) (by kernel_rfl) (by kernel_rfl) (fun _ _ _ h=>h) (by decide) (Or.inl ⟨by rfl,?_⟩) hHeld.1 hHeld.2 ?_
         rotate_left
         ·intro w' hSw
          have z0:=HZS.out w' hSw
          have z1:=HZX.out w' hSw
          have z2:=HZJ.out w' hSw
          have z3:=hSw.le
          have hSS:=Ext.refl w'
          go_simp
          try with_reducible rfl
         try simp only [Act.put,zA,zB,zC]
         refine takeS 7 (v:=?_) rfl (by kernel_rfl) (by kernel_rfl) (by kernel_rfl) (fun _ _ _ h=>h) (by decide) (Or.inl ⟨by rfl,?_⟩) hHeld.1 hHeld.2 ?_
         rotate_left
         ·intro w' hSw
          have z0:=HZS.out w' hSw
          have z1:=HZX.out w' hSw
          have z2:=HZJ.out w' hSw
          have z3:=hSw.le
          have hSS:=Ext.refl w'
          go_simp
          try with_reducible rfl
         try simp only [Act.put,zA,zB,zC]
         refine takeS 8 (v:=?_) rfl (by kernel_rfl) (by kernel_rfl) (by kernel_rfl) (fun _ _ _ h=>h) (by decide) (Or.inl ⟨by rfl,?_⟩) hHeld.1 hHeld.2 ?_
         rotate_left
         ·intro w' hSw
          have z0:=HZS.out w' hSw
          have z1:=HZX.out w' hSw
          have z2:=HZJ.out w' hSw
          have z3:=hSw.le
          have hSS:=Ext.refl w'
          go_simp
          try with_reducible rfl
         try simp only [Act.put,zA,zB,zC]
         refine takeS 9 (v:=?_) rfl (by kernel_rfl) (by kernel_rfl) (by kernel_rfl) (fun _ _ _ h=>h) (by decide) (Or.inl ⟨by rfl,?_⟩) hHeld.1 hHeld.2 ?_
         rotate_left
         ·intro w' hSw
          have z0:=HZS.out w' hSw
          have z1:=HZX.out w' hSw
          have z2:=HZJ.out w' hSw
          have z3:=hSw.le
          have hSS:=Ext.refl w'
          go_simp
          try with_reducible rfl
         try simp only [Act.put,zA,zB,zC]
         refine takeS 10 (v:=?_) rfl (by kernel_rfl) (by kernel_rfl) (by kernel_rfl) (fun _ _ _ h=>h) (by decide) (Or.inl ⟨by rfl,?_⟩) hHeld.1 hHeld.2 ?_
         rotate_left
         ·intro w' hSw
          have z0:=HZS.out w' hSw
          have z1:=HZX.out w' hSw
          have z2:=HZJ.out w' hSw
          have z3:=hSw.le
          have hSS:=Ext.refl w'
          go_simp
          try with_reducible rfl
         try simp only [Act.put,zA,zB,zC]
         refine takeS 11 (v:=?_) rfl (by kernel_rfl) (by kernel_rfl) (by kernel_rfl) (fun _ _ _ h=>h) (by decide) (Or.inl ⟨by rfl,?_⟩) hHeld.1 hHeld.2 ?_
         rotate_left
         ·intro w' hSw
          have z0:=HZS.out w' hSw
          have z1:=HZX.out w' hSw
          have z2:=HZJ.out w' hSw
          have z3:=hSw.le
          have hSS:=Ext.refl w'
          go_simp
          try with_reducible rfl
         try simp only [Act.put,zA,zB,zC]
         refine takeS 12 (v:=?_) rfl (by kernel_rfl) (by kernel_rfl) (by kernel_rfl) (fun _ _ _ h=>h) (by decide) (Or.inl ⟨by rfl,?_⟩) hHeld.1 hHeld.2 ?_
         rotate_left
         ·intro w' hSw
          have z0:=HZS.out w' hSw
          have z1:=HZX.out w' hSw
          have z2:=HZJ.out w' hSw
          have z3:=hSw.le
          have hSS:=Ext.refl w'
          go_simp
          try with_reducible rfl
         try simp only [Act.put,zA,zB,zC]
         have hS0:=hHeld.1
         clear hHeld
         refine wpAnyT_ready (rs:=[13]) (by kernel_rfl) (by simp) ?_
         refine AllReadyT.late rfl (by decide) (fun K hK=>?_) AllReadyT.nil
         go_simp
         go_at_call 85
         refine HCT.out.mono ?_
         rintro e v1 ⟨v8,rfl,hq8,hh8,hc8⟩
         obtain ⟨a8,c8,rfl⟩:=hq8.slice
         have hS1:Cg (fun g=>g=b∨g=gp) wq v1:=hS0.trans (hc8.weak fun g e=>.inl e)
         refine hK.out _ _ hS1 (fun hH1=>?_)
         clear hK K
         try simp only [Act.put,zA,zB,zC]
         have HQ8:=Lib.hid hq8
         have HI1:=Lib.hid (HI0.out.rdr hord2 hbf hh8 hc8)
         have HR1:=HR0.out.cg hc8 (by omega)
         have HY1:=Lib.hid (HY0.out.trans (hc8.weak (S':=fun g=>g<B0) (fun g e=>by rw [e];omega)))
         have s1:=HR1.box.frozen
         have s0:v1.cell? ⟨gp,i,none⟩=some (EV' p i):=by
          rw [HR1.box.cell v1 (Ext.refl _) i,List.getElem?_toArray,List.getElem?_map,List.getElem?_range hie];rfl
         have s2:=HR1.lt
         have s3:Ext v1 v1:=Ext.refl _
         clear hq8 hh8 hc8 HR1 hH1
         refine wpAnyT_ready (rs:=[14]) (by kernel_rfl) (by simp) ?_
         refine AllReadyT.late rfl (by decide) (fun K hK=>?_) AllReadyT.nil
         go_simp
         refine hK.out _ _ hS1 (fun hH1=>?_)
         clear hK K
         try simp only [Act.put,zA,zB,zC]
         clear hH1
         refine wpAnyT_ready (rs:=[15]) (by kernel_rfl) (by simp) ?_
         refine AllReadyT.late rfl (by decide) (fun K hK=>?_) AllReadyT.nil
         go_simp
         refine hK.out _ _ (hS1.set ⟨gp,i,none⟩ _ (.inr rfl)) (fun hH1=>?_)
         clear hK K
         try simp only [Act.put,zA,zB,zC]
         refine wpAnyT_done (by kernel_rfl) ?_ _
         clear hH1 hS0 hS1 s0 s1 s2 s3
         go_wp2_with fail
         go_roundg (N - (k+1))
         case rel=>
          have hpu:=HI0.out.put HI1.out hgS2 hord2 hSf (p:=p) (i:=i) hpJ (by rw [HJO.out.row p hp];exact hie) HQ8.out
          refine ⟨k+1,by omega,rfl,by go_num,J.set p ((J.getD p []).set i GC.1),GC.2,_,by rw [HGP.out];exact hpu,HJO.out.put hp hie HCB.out.2.1 HCB.out.2.2,?_,⟨HCB.out.1.1,HCB.out.1.2.1,by have:=HCB.out.1.2.2;omega⟩,HY1.out.set _ _ (by show gp<B0;rw [HGP.out];exact HRW.out p hp)⟩
          rw [←HE.out,evsGo_step hkL (by rw [←HRK.out.1];exact HE0.out) HXK.out,←HRK.out.1,←HRK.out.2,←HZ.out,←HNM.out,←HGC.out]
         case measure=>omega
        ·obtain rfl:k=N:=by omega
         have hlt':¬(k:Int)<(k:Int):=by omega
         have HP:=Lib.hid (show readP T.toTr text=(⟨false,F,L,J⟩,r) from by
          rw [HRG.out,←HE.out,HN.out,evsGo_end])
         obtain ⟨lS,cS,fS,_⟩:=HI.out.s.hs.box
         obtain ⟨lR,cR,fR,_⟩:=HI.out.s.hr.box
         have hrr:Ext wr wr:=Ext.refl _
         go_wp2_with fail
         try simp only [Exit.inBlock,Exit.then]
         refine bodyPost_ret (read_results _ _ gR _ _ _ _ rfl (HI.out.s.hr.put4 _ _ _ _)) rfl ?_
         refine ⟨_,_,_,_,_,_,_,_,_,_,rfl,by rw [HP.out];exact HI.out.s.h.oth4 hbR _ _ _ _,HI.out.s.x.put4 hgR2 _ _ _ _,fun _ w' hc=>?_⟩
         rw [HP.out]
         have hpc:=put4_cg wr gR (.bool false) (.slice af T.n cf) (.slice al T.n cl) (.slice aj T.n cj)
         generalize ((((wr.setCell ⟨gR,0,none⟩ (.bool false)).setCell ⟨gR,1,none⟩ (.slice af T.n cf)).setCell ⟨gR,2,none⟩ (.slice al T.n cl)).setCell ⟨gR,3,none⟩ (.slice aj T.n cj))=wz at hpc hc
         have hy1:Cg (fun g=>g=b∨g=gS∨g=gR) wf wz:=(HI.out.y.weak fun g e=>e.imp id .inl).trans (hpc.weak fun g e=>.inr (.inr e))
         have hRf:gR<wf.heap.size:=by omega
         have q1:=(HFQ.out wz hy1).same hc.le fun g h1 h2=>hc.2 g h2 (by omega)
         have q2:=(HLQ.out wz hy1).same hc.le fun g h1 h2=>hc.2 g h2 (by omega)
         have q3:=((HI.out.j.keepB hpc hRf).mono hWf).same hc.le fun g h1 h2=>hc.2 g h2 (by omega)
         have q4:=(((HI.out.rows.same (hpc.weak fun g e=>.inl (by rw [e];exact hRf))).set (M':=fun g=>g<W.heap.size) fun g e=>.inl (.inl (by omega))).same hc).lower hWf
         rw [←HJO.out.len] at q3
         exact slc_of (by rw [HFL.out.1];exact q1) (by rw [HFL.out.2];exact q2) (by rw [HJO.out.len] at q3 ⊢;exact q3) q4 hFl hLl (by rw [HJO.out.len];omega) (fun p hp=>by rw [HJO.out.len] at hp;rw [HJO.out.row p hp];have:=HEN.out p hp;omega) (fun p i _ _=>(HJO.out.el p i).1) (fun i _=>Nat50.ok HFO.out i) (fun i _=>Nat50.ok HLO.out i) fun p i q=>(HJO.out.el p i).2.ok q
end Go.Proofs.YtlfdfkbmollaaaaGreatDoor
