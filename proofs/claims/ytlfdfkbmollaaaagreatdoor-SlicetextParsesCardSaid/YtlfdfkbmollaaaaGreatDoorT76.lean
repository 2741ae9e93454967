/- Contracts and laws in plain Lean for RApp: group T76. -/
import Derived.Lib.AtoiAll
import Derived.Lib.IndexMore
import Derived.Test.YtlfdfkbmollaaaaGreatDoorT01
import Derived.Test.YtlfdfkbmollaaaaGreatDoorT70
import Derived.Test.YtlfdfkbmollaaaaGreatDoorT73
import Derived.Lib.SplitLaws
import Derived.Lib.ItoaNum
import Derived.Test.YtlfdfkbmollaaaaGreatDoorT63
import Derived.Test.YtlfdfkbmollaaaaGreatDoorT67
import Derived.Test.YtlfdfkbmollaaaaGreatDoorT74
import Derived.Test.YtlfdfkbmollaaaaGreatDoorT06
import Derived.Test.YtlfdfkbmollaaaaGreatDoorT07
set_option maxRecDepth 100000
namespace Go.Proofs.YtlfdfkbmollaaaaGreatDoor
structure Rdr where
 rest:List UInt8
 line:Int
 al:Int
 ac:Int
 e:Int
def Rdr.fail (r:Rdr) (col err:Int):Rdr:=if r.e=0 then ⟨r.rest,r.line,r.line,col,err⟩ else r
def Rdr.next (r:Rdr):List UInt8 × Rdr:=
 if r.e≠0 then ([],r)
 else if r.rest=[] then ([],⟨r.rest,r.line+1,r.line+1,1,4⟩)
 else if (Lib.cut r.rest [10]).2.2=false then ([],⟨r.rest,r.line+1,r.line+1,((Lib.cut r.rest [10]).1.length:Int)+1,4⟩)
 else ((Lib.cut r.rest [10]).1,⟨(Lib.cut r.rest [10]).2.1,r.line+1,r.al,r.ac,r.e⟩)
def digB (c:UInt8):Bool:=decide (48≤c.toNat∧c.toNat≤57)
def decF (a:Nat):List UInt8→Nat
 | [] => a
 | c :: l => decF (a*10+(c.toNat - 48)) l
theorem decF_ge:∀ (l:List UInt8) (a:Nat),a≤decF a l
 | [],_ => Nat.le_refl _
 | c :: l,a => by
  have:=decF_ge l (a*10+(c.toNat - 48))
  unfold decF;omega
def decI (s:List UInt8):Int × Int:=
 if s=[]∨(s.head?=some 48∧s≠[48])∨s.all digB=false then (0,3) else if 1125899906842624<decF 0 s then (0,9) else ((decF 0 s:Nat),0)
theorem parse_dig:∀ (l:List UInt8) (a:Nat),l.all digB=true→a<18446744073709551616→Lib.parseUint10 a l=if decF a l<18446744073709551616 then .ok (decF a l) else .range
 | [],a,_,ha => by unfold Lib.parseUint10 decF;rw [if_pos ha]
 | c :: l,a,h,ha => by
  rw [List.all_cons,Bool.and_eq_true] at h
  have hc:48≤c.toNat∧c.toNat≤57:=of_decide_eq_true h.1
  unfold Lib.parseUint10 decF
  rw [if_pos hc]
  have hge:=decF_ge l (a*10+(c.toNat - 48))
  by_cases h1:1844674407370955162≤a
  ·rw [if_pos h1,if_neg (by omega)]
  ·rw [if_neg h1]
   by_cases h2:18446744073709551616≤a*10+(c.toNat - 48)
   ·rw [if_pos h2,if_neg (by omega)]
   ·rw [if_neg h2,parse_dig l _ h.2 (by omega)]
theorem atoi_dig {s:List UInt8} (h0:s≠[]) (h:s.all digB=true):Lib.atoiAll s=if decF 0 s<9223372036854775808 then .ok ((decF 0 s:Nat):Int) else .range:=by
 cases s with
 | nil => exact absurd rfl h0
 | cons c l =>
  have hc:48≤c.toNat∧c.toNat≤57:=by
   rw [List.all_cons,Bool.and_eq_true] at h
   exact of_decide_eq_true h.1
  unfold Lib.atoiAll Lib.parseMag
  simp only
  rw [if_neg (show ¬(c.toNat=43∨c.toNat=45) by omega),if_neg (by simp),parse_dig (c :: l) 0 h (by omega)]
  by_cases h1:decF 0 (c :: l)<18446744073709551616
  ·rw [if_pos h1]
   simp only
   by_cases h2:decF 0 (c :: l)<9223372036854775808
   ·rw [if_pos h2,if_neg (by omega),if_neg (by omega),if_neg (by omega)]
   ·rw [if_neg h2,if_pos (by omega)]
  ·rw [if_neg h1,if_neg (by omega)]
def letB (c:UInt8):Bool:=decide ((97≤c.toNat∧c.toNat≤122)∨(65≤c.toNat∧c.toNat≤90))
def nameS:List UInt8→Bool
 | [] => false
 | c :: l => letB c && l.all (fun d => letB d || d == 95 || digB d) && decide (l.length+1≤16)
def titleE (word want:List UInt8):Int:=
 if (Lib.cut word [46]).2.2=false∨nameS (Lib.cut word [46]).1=false then 3
 else if (decI (Lib.cut word [46]).2.1).2≠0 then (decI (Lib.cut word [46]).2.1).2
 else if word≠want then 11 else 0
def wordsGo (n:Nat) (first:List UInt8→Int):List (List UInt8)→Nat→Int→List Int→Rdr→List Int × Rdr × Bool
 | [],_,_,out,r => (out,r,false)
 | w :: ws,i,col,out,r =>
  if r.e≠0 then ([],r,true)
  else if i=0 then wordsGo n first ws (i+1) (col+(w.length+1)) out (if first w≠0 then r.fail col (first w) else r)
  else if n<i then wordsGo n first ws (i+1) (col+(w.length+1)) out (r.fail col 3)
  else wordsGo n first ws (i+1) (col+(w.length+1)) (out++[(decI w).1]) (if (decI w).2≠0 then r.fail col (decI w).2 else r)
def Rdr.counts (r:Rdr) (line:List UInt8) (ws:List (List UInt8)) (n:Nat) (first:List UInt8→Int):List Int × Rdr:=
 let g:=wordsGo n first ws 0 1 [] r
 if g.2.2=true then ([],g.2.1) else (g.1,if g.1.length<n then g.2.1.fail (line.length+1) 3 else g.2.1)
def wordE (want s:List UInt8):Int:=if s≠want then 3 else 0
end Go.Proofs.YtlfdfkbmollaaaaGreatDoor

namespace Go.Proofs.YtlfdfkbmollaaaaGreatDoor
structure SL where
 em:Bool
 f:List Int
 l:List Int
 j:List (List (List Int))
def SL.zero:SL:=⟨false,[],[],[]⟩
def gi (l:List Int):Nat→Int:=fun i=>l.getD i 0
structure SlcD.Is (S:SlcD) (s:SL):Prop where
 em:S.em=s.em
 fn:S.f.s.n=s.f.length
 fz:∀ i,i<s.f.length→S.f.z i=gi s.f i
 ln:S.l.s.n=s.l.length
 lz:∀ i,i<s.l.length→S.l.z i=gi s.l i
 jn:S.j.s.n=s.j.length
 mn:∀ p,p<s.j.length→(S.j.m p).n=(s.j.getD p []).length
 rn:∀ p i,p<s.j.length→i<(s.j.getD p []).length→(S.j.m p).rn i=((s.j.getD p []).getD i []).length
 vz:∀ p i q,p<s.j.length→i<(s.j.getD p []).length→q<((s.j.getD p []).getD i []).length→(S.j.m p).val i q=gi ((s.j.getD p []).getD i []) q
def evN (T:Tr) (x:EvE):List UInt8:=(T.name x.1.toNat).data.toList++46 :: Lib.itoa x.2
def J0 (T:Tr) (f:List Int):List (List (List Int)):=(List.range T.n).map fun p=>(List.range (T.en p)).map fun i=>if i<(gi f p).toNat then f else []
def setJ (J:List (List (List Int))) (x:EvE) (v:List Int):List (List (List Int)):=J.set x.1.toNat ((J.getD x.1.toNat []).set (x.2.toNat - 1) v)
def evsGo (T:Tr):List EvE→List (List (List Int))→Rdr→List (List (List Int)) × Rdr
 | [],J,r => (J,r)
 | x :: xs,J,r =>
  if r.next.2.e≠0 then (J,r.next.2)
  else evsGo T xs (setJ J x (r.next.2.counts r.next.1 (Lib.split r.next.1 [32]) T.n (fun w=>titleE w (evN T x))).1) (r.next.2.counts r.next.1 (Lib.split r.next.1 [32]) T.n (fun w=>titleE w (evN T x))).2
open Classical in
noncomputable def cutE (T:Tr) (c:List Int × Rdr):Rdr:=if c.2.e=0∧¬T.IsCut c.1.length (gi c.1) then c.2.fail 1 18 else c.2
open Classical in
noncomputable def cutE2 (T:Tr) (f:List Int) (c:List Int × Rdr):Rdr:=if c.2.e=0∧(¬T.IsCut c.1.length (gi c.1)∨¬LeqL f.length c.1.length (gi f) (gi c.1)) then c.2.fail 1 18 else c.2
noncomputable def readL (T:Tr) (f:List Int) (b:List UInt8 × Rdr):SL × Rdr:=
 let d:=b.2.counts b.1 (Lib.split b.1 [32]) T.n (wordE [108,97,115,116])
 if (cutE2 T f d).e≠0 then (⟨false,f,d.1,[]⟩,cutE2 T f d)
 else
  let g:=evsGo T (ownL (gi f) (gi d.1) T.n) (J0 T f) (cutE2 T f d)
  (⟨false,f,d.1,g.1⟩,g.2)
noncomputable def readP (T:Tr) (text:List UInt8):SL × Rdr:=
 let a:=(Rdr.mk text 0 0 0 0).next
 if a.2.e=0∧a.1=[101,109,112,116,121] then (⟨true,[],[],[]⟩,a.2)
 else if a.2.e≠0 then (SL.zero,a.2)
 else
  let c:=a.2.counts a.1 (Lib.split a.1 [32]) T.n (wordE [102,105,114,115,116])
  let b:=(cutE T c).next
  if b.2.e≠0 then (⟨false,c.1,[],[]⟩,b.2) else readL T c.1 b
end Go.Proofs.YtlfdfkbmollaaaaGreatDoor

namespace Go.Proofs.YtlfdfkbmollaaaaGreatDoor
open Go.RowKit Go.Shelf
def MaxB (w:World):Prop:=∃ m,w.cell? ⟨0,0,none⟩=some (.int .i64 m)
theorem MaxB.ext {w w':World} (h:MaxB w) (x:Ext w w'):MaxB w':=by
 obtain ⟨m,h⟩:=h
 exact ⟨m,x.cell h⟩
theorem btsB (b:ByteArray):bts b.data.toList=b:=by simp [bts]
theorem ssplit_any (W : World) (h : MaxB W) (l : List UInt8) (c : UInt8) (L : List (List UInt8)) (hL : Lib.split l [c] = L) (hl : l.length ≤ 1000000) :
    Calls Tryz.prog 136 #[.string (bts l),.string ⟨#[c]⟩] W fun e w'=>e=.returned (.slice (some ⟨W.heap.size,0,none⟩) L.length L.length)∧w'=W.alloc (.cells (strV L).toArray 9):=by
 obtain ⟨m,hm⟩:=h
 have h1:=Tryz.strings_Split (bts l) ⟨#[c]⟩ m W (by rw [bts_size];omega) hm (by show 1≤1;omega)
 have hB:(Lib.splitB ⟨#[c]⟩ 0 (Lib.countB (bts l) ⟨#[c]⟩) (bts l)).map (·.data.toList)=L:=by
  rw [Lib.splitB_data];exact hL
 have hlen:=Lib.splitB_all ⟨#[c]⟩ (by show 1≤1;omega) 0 _ (bts l) rfl
 have e1:Lib.countB (bts l) ⟨#[c]⟩ + 1=L.length:=by rw [←hlen,←hB,List.length_map]
 have e2:(Lib.splitB ⟨#[c]⟩ 0 (Lib.countB (bts l) ⟨#[c]⟩) (bts l)).map Value.string=strV L:=by
  rw [←hB];unfold strV;rw [List.map_map]
  exact List.map_congr_left fun b _=>by show Value.string b=Value.string (bts b.data.toList);rw [btsB]
 rw [e1,e2] at h1
 exact h1
theorem scut_any (W : World) (h : MaxB W) (l : List UInt8) (c : UInt8) (hl : l.length ≤ 1000000) :
    Calls Tryz.prog 135 #[.string (bts l),.string ⟨#[c]⟩] W fun e w'=>e=.returned (.tuple #[.string (bts (Lib.cut l [c]).1),.string (bts (Lib.cut l [c]).2.1),.bool (Lib.cut l [c]).2.2])∧Ext W w':=by
 obtain ⟨m,hm⟩:=h
 have h1:=Tryz.strings_Cut (bts l) ⟨#[c]⟩ m W (by rw [bts_size];omega) hm
 rw [show (bts l).data.toList=l from rfl,show (ByteArray.mk #[c]).data.toList=[c] from rfl] at h1
 exact h1.mono fun e w' ⟨he,n,hw⟩=>⟨he,by rw [hw];exact (Ext.refl W).drewN n⟩
structure LibB (w:World):Prop where
 mx:MaxB w
 tb:Tb w
 er:∃ tp p,w.cell? ⟨4,0,none⟩=some (.iface tp p)
theorem LibB.ext {w w':World} (h:LibB w) (x:Ext w w'):LibB w':=by
 obtain ⟨tp,p,h1⟩:=h.er
 exact ⟨h.mx.ext x,h.tb.ext x,tp,p,x.cell h1⟩
theorem tb_lt {w:World} (h:Tb w):2<w.heap.size:=by
 unfold Tb Lib.TabIs World.var? at h
 rw [gPow] at h
 simp only [Option.bind_some] at h
 cases hh:w.heap[2]? with
 | none => rw [hh] at h;simp at h
 | some o => exact (Array.getElem?_eq_some_iff.1 hh).1
theorem tb_blk {w w':World} (h:Tb w) (e:w'.heap[2]?=w.heap[2]?):Tb w':=by
 unfold Tb Lib.TabIs World.var? at h ⊢
 rw [gPow] at h ⊢
 simp only [Option.bind_some] at h ⊢
 rw [e];exact h
def Apt (b:Nat):Prop:=b≠0∧b≠2∧b≠4
theorem LibB.apt {w:World} (h:LibB w) {b:Nat} (hb:w.heap.size≤b):Apt b:=by
 obtain ⟨m,h1⟩:=h.mx
 obtain ⟨tp,p,h2⟩:=h.er
 have a1:=cell_lt h1
 have a2:=cell_lt h2
 have a3:=tb_lt h.tb
 simp only at a1 a2
 exact ⟨by omega,by omega,by omega⟩
theorem LibB.cg {w w':World} {S:Nat→Prop} (h:LibB w) (x:Cg S w w') (hS:∀ b,S b→Apt b):LibB w':=by
 obtain ⟨m,h1⟩:=h.mx
 obtain ⟨tp,p,h2⟩:=h.er
 have a1:=cell_lt h1
 have a2:=cell_lt h2
 have a3:=tb_lt h.tb
 exact ⟨⟨m,(World.cell?_of_block (w:=w) (a:=⟨0,0,none⟩) (x.2 _ a1 fun e=>(hS _ e).1 rfl)).trans h1⟩,tb_blk h.tb (x.2 _ a3 fun e=>(hS _ e).2.1 rfl),tp,p,(World.cell?_of_block (w:=w) (a:=⟨4,0,none⟩) (x.2 _ a2 fun e=>(hS _ e).2.2 rfl)).trans h2⟩
theorem atoi_yes (W : World) (l : List UInt8) (hl : l.length ≤ 1000000) (v : Int) (h : Lib.atoiAll l = .ok v) :
    Calls Tryz.prog 188 #[.string (bts l)] W fun e w'=>e=.returned (.tuple #[.int .i64 v,.nilIface])∧Ext W w':=by
 refine (Tryz.strconv_Atoi_ok (bts l) (by rw [bts_size];omega) v h W).mono ?_
 rintro e w' ⟨he,rfl | ⟨t,rfl⟩⟩
 ·exact ⟨he,Ext.refl _⟩
 ·exact ⟨he,Lib.bytesWorld_below _ _ _⟩
theorem atoi_no (W : World) (hW : LibB W) (l : List UInt8) (hl : l.length ≤ 1000000) (h : Lib.atoiAll l = .range) :
    Calls Tryz.prog 188 #[.string (bts l)] W fun e w'=>(∃ v tp p,e=.returned (.tuple #[.int .i64 v,.iface tp p]))∧Ext W w':=by
 obtain ⟨tp,p,h1⟩:=hW.er
 refine (Any.strconv_Atoi_range Tryz.laysC172 (bts l) (by rw [bts_size];omega) h (.iface tp p) W h1 (Or.inr ⟨tp,p,rfl⟩)).mono ?_
 rintro e w' ⟨N,he,_,_,hx⟩
 exact ⟨⟨_,_,_,he⟩,hx⟩
attribute [local go_sem] Oper.semAt_some
def rdrC (r:Rdr):Array Value:=#[.string (bts r.rest),.int .i64 r.line,.int .i64 r.al,.int .i64 r.ac,.int .i64 r.e]
def RdrPost (v:Value) (b:Nat) (r:Rdr) (W:World) (e:Ending) (W':World):Prop:=e=.returned v∧Hold W' b (rdrC r)∧Cg (· = b) W W'
theorem Cg.put {b:Nat} {w W:World} (h:Cg (· = b) w W) (i:Nat) (v:Value):Cg (· = b) w (W.setCell ⟨b,i,none⟩ v):=h.set ⟨b,i,none⟩ v rfl
set_option maxHeartbeats 1000000 in
theorem rfail_any (W : World) (b : Nat) (r : Rdr) (h : Hold W b (rdrC r)) (col err : Int) :
    Calls Tryz.prog 36 #[.pointer (some ⟨b,0,none⟩),.int .i64 col,.int .i64 err] W (RdrPost (.tuple #[]) b (r.fail col err) W):=by
 have HH:=Lib.hid h
 obtain ⟨l0,c0,f0,_⟩:=h.box
 have hww:Ext W W:=Ext.refl _
 unfold rdrC at c0
 by_cases h0:r.e=0
 ·have d0:(r.e == 0)=true:=by simp [h0]
  have HF:=Lib.hid (show r.fail col err=⟨r.rest,r.line,r.line,col,err⟩ from if_pos h0)
  clear h0 h
  unfold RdrPost
  go_enter Tryz.func36,Tryz.ntmps36
  go_wp2_with fail
  go_end0
  refine ⟨rfl,?_,?_⟩
  ·rw [HF.out];exact ((HH.out.set 4 _).set 2 _).set 3 _
  ·exact (((Cg.refl _ W).put 4 _).put 2 _).put 3 _
 ·have d0:(r.e == 0)=false:=by simpa using h0
  have HF:=Lib.hid (show r.fail col err=r from if_neg h0)
  clear h0 h
  unfold RdrPost
  go_enter Tryz.func36,Tryz.ntmps36
  go_wp2_with fail
  go_end0
  exact ⟨rfl,by rw [HF.out];exact HH.out,Cg.refl _ _⟩
theorem bts_isE (l:List UInt8):(bts l).toList.isEmpty=l.isEmpty:=by rw [ByteArray.toList_eq];rfl
theorem cut_len (l:List UInt8) (c:UInt8):(Lib.cut l [c]).1.length≤l.length∧(Lib.cut l [c]).2.1.length≤l.length:=by
 unfold Lib.cut
 split
 ·exact ⟨by rw [List.length_take];exact Nat.min_le_right _ _,by rw [List.length_drop];omega⟩
 ·exact ⟨Nat.le_refl _,Nat.zero_le _⟩
set_option maxHeartbeats 2000000 in
theorem rnextL_any (W : World) (hM : LibB W) (b : Nat) (hb : Apt b) (r : Rdr) (h : Hold W b (rdrC r)) (hl : r.rest.length ≤ 1000000) (h1 : 0 ≤ r.line) (h2 : r.line ≤ 1000000) :
    Calls Tryz.prog 84 #[.pointer (some ⟨b,0,none⟩)] W (RdrPost (.string (bts r.next.1)) b r.next.2 W):=by
 have HH:=Lib.hid h
 have HM:=Lib.hid hM
 have HB:=Lib.hid hb
 obtain ⟨l0,c0,f0,_⟩:=h.box
 have hww:Ext W W:=Ext.refl _
 unfold rdrC at c0
 unfold RdrPost
 clear h hM hb
 by_cases h0:r.e=0
 case neg=>
  have d0:(r.e != 0)=true:=by simpa using h0
  have HN:=Lib.hid (show r.next=([],r) from if_pos h0)
  clear h0
  go_enter Tryz.func84,Tryz.ntmps84
  go_wp2_with fail
  go_ret
  exact ⟨by rw [HN.out];rfl,by rw [HN.out];exact HH.out,Cg.refl _ _⟩
 have d0:(r.e != 0)=false:=by simp [h0]
 have H0:=Lib.hid h0
 have hlw:IntKind.i64.wrap (r.line+1)=r.line+1:=IntWalk.i64_in _ (by omega)
 clear h0
 go_enter Tryz.func84,Tryz.ntmps84
 go_upto_region 4 with fail
 have HH1:=Lib.hid (show Hold (W.setCell ⟨b,1,none⟩ (.int .i64 (r.line+1))) b (rdrC ⟨r.rest,r.line+1,r.al,r.ac,r.e⟩) from HH.out.set 1 _)
 have HC1:=Lib.hid (show Cg (· = b) W (W.setCell ⟨b,1,none⟩ (.int .i64 (r.line+1))) from (Cg.refl _ W).put 1 _)
 clear c0 l0 f0 hww
 generalize W.setCell ⟨b,1,none⟩ (.int .i64 (r.line+1))=W1 at HH1 HC1 ⊢
 obtain ⟨l1,c1,f1,_⟩:=HH1.out.box
 have h11:Ext W1 W1:=Ext.refl _
 unfold rdrC at c1
 have hzr:=bts_size r.rest
 by_cases hr:r.rest=[]
 ·have HF:=Lib.hid (rfail_any W1 b ⟨r.rest,r.line+1,r.al,r.ac,r.e⟩ HH1.out 1 4)
  have HN:=Lib.hid (show r.next=([],⟨r.rest,r.line+1,r.line+1,1,4⟩) from by unfold Rdr.next;rw [if_neg (by rw [H0.out];decide),if_pos hr])
  have HFE:=Lib.hid (show (Rdr.mk r.rest (r.line+1) r.al r.ac r.e).fail 1 4=⟨r.rest,r.line+1,r.line+1,1,4⟩ from if_pos H0.out)
  have dr:(bts r.rest).toList.isEmpty=true:=by rw [bts_isE,hr];rfl
  clear hr
  go_wp2_with fail
  go_at_call 36
  refine HF.out.mono ?_
  rintro e W2 ⟨rfl,hh,hc⟩
  have HH2:=Lib.hid hh
  have HC2:=Lib.hid (HC1.out.trans hc)
  clear hh hc
  go_wp2_with fail
  go_ret
  exact ⟨by rw [HN.out];rfl,by rw [HN.out,←HFE.out];exact HH2.out,HC2.out⟩
 ·have dr:(bts r.rest).toList.isEmpty=false:=by rw [bts_isE];cases hrr:r.rest with | nil=>exact absurd hrr hr | cons x y=>rfl
  have HCU:=Lib.hid (scut_any W1 (HM.out.cg HC1.out (fun _ e=>by subst e;exact HB.out)).mx r.rest 10 hl)
  have HNN:=Lib.hid hr
  have hcl:=cut_len r.rest 10
  obtain ⟨u,hu⟩:∃ u,u=(Lib.cut r.rest [10]).1:=⟨_,rfl⟩
  obtain ⟨v,hv⟩:∃ v,v=(Lib.cut r.rest [10]).2.1:=⟨_,rfl⟩
  obtain ⟨f,hf⟩:∃ f,f=(Lib.cut r.rest [10]).2.2:=⟨_,rfl⟩
  rw [←hu,←hv,←hf] at HCU
  rw [←hu,←hv] at hcl
  have HE:=Lib.hid (And.intro hu (And.intro hv hf))
  have hzu:=bts_size u
  obtain ⟨hcu,_⟩:=hcl
  clear hr hu hv hf
  go_upto_region 8 with (go_at_call 135;refine HCU.out.mono ?_;rintro e W2 ⟨rfl,hx2⟩;have HH2:=Lib.hid (HH1.out.ext hx2);have HC2:=Lib.hid (HC1.out.trans (hx2.cg _)))
  have h22:Ext W2 W2:=Ext.refl _
  obtain ⟨l2,c2,f2,_⟩:=HH2.out.box
  unfold rdrC at c2
  clear c1 l1 f1 HCU
  cases f with
  | false =>
   have hul:u.length≤1000000:=by omega
   have HF:=Lib.hid (rfail_any W2 b ⟨r.rest,r.line+1,r.al,r.ac,r.e⟩ HH2.out ((u.length:Int)+1) 4)
   have HN:=Lib.hid (show r.next=([],⟨r.rest,r.line+1,r.line+1,(u.length:Int)+1,4⟩) from by unfold Rdr.next;rw [if_neg (by rw [H0.out];decide),if_neg HNN.out,if_pos HE.out.2.2.symm,←HE.out.1])
   have HFE:=Lib.hid (show (Rdr.mk r.rest (r.line+1) r.al r.ac r.e).fail ((u.length:Int)+1) 4=⟨r.rest,r.line+1,r.line+1,(u.length:Int)+1,4⟩ from if_pos H0.out)
   go_wp2_with fail
   go_at_call 36
   refine HF.out.mono ?_
   rintro e W3 ⟨rfl,hh,hc⟩
   have HH3:=Lib.hid hh
   have HC3:=Lib.hid (HC2.out.trans hc)
   clear hh hc
   go_wp2_with fail
   go_ret
   exact ⟨by rw [HN.out];rfl,by rw [HN.out,←HFE.out];exact HH3.out,HC3.out⟩
  | true =>
   have HN:=Lib.hid (show r.next=(u,⟨v,r.line+1,r.al,r.ac,r.e⟩) from by unfold Rdr.next;rw [if_neg (by rw [H0.out];decide),if_neg HNN.out,if_neg (by rw [←HE.out.2.2];decide),←HE.out.1,←HE.out.2.1])
   go_wp2_with fail
   go_ret
   exact ⟨by rw [HN.out];rfl,by rw [HN.out];exact HH2.out.set 0 _,HC2.out.put 0 _⟩
end Go.Proofs.YtlfdfkbmollaaaaGreatDoor

namespace Go.Proofs.YtlfdfkbmollaaaaGreatDoor
open Go.RowKit Go.Shelf
attribute [local go_sem] Oper.semAt_some
theorem headS (s:ByteArray) (h:0<s.size):∃ l,s.data.toList=s[0] :: l:=by
 obtain ⟨⟨l⟩⟩:=s
 cases l with
 | nil => exact absurd h (by decide)
 | cons x l => exact ⟨l,rfl⟩
theorem ne_emp (s:ByteArray) (h:0<s.size):s.data.toList≠[]:=by
 obtain ⟨l,e⟩:=headS s h
 rw [e];simp
theorem take_allS (f:UInt8→Bool) (s:ByteArray) (k:Nat) (h:k<s.size):(s.data.toList.take (k+1)).all f=((s.data.toList.take k).all f && f s[k]):=by
 rw [List.take_succ_eq_append_getElem (by simpa using h)];simp;rfl
theorem take_wholeS (s:ByteArray):s.data.toList.take s.size=s.data.toList:=List.take_of_length_le (by simp)
theorem all_falseS (f:UInt8→Bool) (s:ByteArray) (k:Nat) (h:k<s.size) (hc:f s[k]=false):s.data.toList.all f=false:=by
 rw [List.all_eq_false]
 exact ⟨s[k],by simp [ByteArray.getElem_eq_getElem_data],by simp [hc]⟩
theorem decI_zero {l:List UInt8} (h:l=[]∨(l.head?=some 48∧l≠[48])∨l.all digB=false):decI l=(0,3):=by
 unfold decI;rw [if_pos h]
theorem decI_big {l:List UInt8} (h:¬(l=[]∨(l.head?=some 48∧l≠[48])∨l.all digB=false)) (h1:1125899906842624<decF 0 l):decI l=(0,9):=by
 unfold decI;rw [if_neg h,if_pos h1]
theorem decI_ok {l:List UInt8} (h:¬(l=[]∨(l.head?=some 48∧l≠[48])∨l.all digB=false)) (h1:¬1125899906842624<decF 0 l):decI l=(((decF 0 l:Nat):Int),0):=by
 unfold decI;rw [if_neg h,if_neg h1]
theorem toList_isE (s:ByteArray):s.toList.isEmpty=s.data.toList.isEmpty:=by rw [ByteArray.toList_eq]
theorem toList_emp (s:ByteArray) (h:s.size=0):s.toList.isEmpty=true:=by
 rw [toList_isE]
 obtain ⟨⟨l⟩⟩:=s
 cases l with
 | nil => rfl
 | cons x l => exact absurd h (by simp [ByteArray.size])
theorem toList_nemp (s:ByteArray) (h:0<s.size):s.toList.isEmpty=false:=by
 rw [toList_isE]
 obtain ⟨⟨l⟩⟩:=s
 cases l with
 | nil => exact absurd h (by decide)
 | cons x l => rfl
theorem toList_ne48 (s:ByteArray):(s.toList == [48])=decide (s.data.toList=[48]):=by
 rw [ByteArray.toList_eq]
 rw [Bool.eq_iff_iff];simp
set_option maxHeartbeats 2000000 in
theorem decimal_any (W : World) (hW : LibB W) (s : ByteArray) (hs : s.size ≤ 1000000) :
    Calls Tryz.prog 137 #[.string s] W fun e w'=>e=.returned (.tuple #[.int .i64 (decI s.data.toList).1,.int .i64 (decI s.data.toList).2])∧Ext W w':=by
 have hxx:Ext W W:=Ext.refl _
 by_cases h0:0<s.size
 case neg=>
  have d0:=toList_emp s (by omega)
  have HE:=Lib.hid (show decI s.data.toList=(0,3) from decI_zero (Or.inl (List.eq_nil_of_length_eq_zero (by simp [←ByteArray.size_data] at h0 ⊢;simpa using h0))))
  clear hW h0
  go_enter Tryz.func137,Tryz.ntmps137
  go_wp2_with fail
  go_ret2
  exact ⟨by rw [HE.out];rfl,Ext.refl _⟩
 have d0:=toList_nemp s h0
 have d1:=toList_ne48 s
 obtain ⟨l,hl⟩:∃ l,l=s.data.toList:=⟨_,rfl⟩
 have hne:l≠[]:=by rw [hl];exact ne_emp s h0
 have hhd:l.head?=some s[0]:=by obtain ⟨t,e⟩:=headS s h0;rw [hl,e];rfl
 rw [←hl] at d1 ⊢
 have hll:l.length≤1000000:=by rw [hl];simpa using hs
 have hbl:bts l=s:=by rw [hl];exact btsB s
 have h48:s[0].toNat=48↔s[0]=48:=by rw [←UInt8.toNat_inj];rfl
 by_cases hz:s[0].toNat=48∧l≠[48]
 ·have dz:((s[0].toNat:Int) == 48)=true:=by rw [hz.1];rfl
  have d2:(s.toList == [48])=false:=by rw [d1];simp [hz.2]
  have HE:=Lib.hid (show decI l=(0,3) from decI_zero (Or.inr (Or.inl ⟨by rw [hhd,h48.1 hz.1],hz.2⟩)))
  clear hW hz hl hne hhd hll hbl h48 d1
  go_enter Tryz.func137,Tryz.ntmps137
  go_wp2_with fail
  go_ret2
  exact ⟨by rw [HE.out];rfl,Ext.refl _⟩
 have hz2:((s[0].toNat:Int) == 48)=false∨(((s[0].toNat:Int) == 48)=true∧(s.toList == [48])=true):=by
  by_cases h1:s[0].toNat=48
  ·refine .inr ⟨by rw [h1];rfl,?_⟩
   rw [d1]
   by_cases h2:l=[48]
   ·simp [h2]
   ·exact absurd ⟨h1,h2⟩ hz
  ·exact .inl (by simpa using fun h2:((s[0].toNat:Nat):Int)=48=>h1 (by omega))
 have HN:=Lib.hid (show l.all digB=true→¬(l=[]∨(l.head?=some 48∧l≠[48])∨l.all digB=false) from fun ha h=>by
  rcases h with h | ⟨h1,h2⟩ | h
  ·exact hne h
  ·rw [hhd] at h1;exact hz ⟨h48.2 (Option.some.inj h1),h2⟩
  ·rw [ha] at h;cases h)
 have HAD:=Lib.hid (show l.all digB=true→Lib.atoiAll l=if decF 0 l<9223372036854775808 then .ok ((decF 0 l:Nat):Int) else .range from fun ha=>atoi_dig hne ha)
 have HW:=Lib.hid hW
 have HL:=Lib.hid hl
 have HBL:=Lib.hid hbl
 clear hW hne hhd hbl h48 hz d1
 have HT:=Lib.hid (show ∀ k (h:k<s.size),(l.take (k+1)).all digB=((l.take k).all digB && digB s[k]) from fun k h=>by rw [hl];exact take_allS digB s k h)
 have HF:=Lib.hid (show ∀ k (h:k<s.size),digB s[k]=false→l.all digB=false from fun k h hc=>by rw [hl];exact all_falseS digB s k h hc)
 have HA:=Lib.hid (show l.take s.size=l from by rw [hl];exact take_wholeS s)
 clear hl
 rcases hz2 with dz | ⟨dz,d2⟩
 all_goals
  go_enter Tryz.func137,Tryz.ntmps137
  go_wp2_with fail
  go_loop [20] (fun i=>∃ k:Nat,k≤s.size∧i=.int .i64 k∧(l.take k).all digB=true) (fun i=>s.size - (intOf i).toNat)
  case atStart=>exact ⟨0,Nat.zero_le _,rfl,by simp⟩
  case round=>
   obtain ⟨k,hk,rfl,hall⟩:=hrel
   have HL:=Lib.hid hall
   clear hall
   by_cases hlt:k<s.size
   ·by_cases hdg:48≤s[k].toNat∧s[k].toNat≤57
    ·have HD:=Lib.hid (show digB s[k]=true from decide_eq_true hdg)
     obtain ⟨hg1,hg2⟩:=hdg
     have e1:decide ((s[k].toNat:Int)<48)=false:=decide_eq_false (by omega)
     have e2:decide ((57:Int)<(s[k].toNat:Int))=false:=decide_eq_false (by omega)
     go_wp2_with fail
     go_round
     case rel=>exact ⟨k+1,by omega,by go_num,by rw [HT.out k hlt,HL.out,HD.out];rfl⟩
     case measure=>simp [intOf];omega
    ·have HE:=Lib.hid (show decI l=(0,3) from decI_zero (Or.inr (Or.inr (HF.out k hlt (decide_eq_false hdg)))))
     by_cases hg1:s[k].toNat<48
     ·have e1:decide ((s[k].toNat:Int)<48)=true:=decide_eq_true (by omega)
      go_wp2_with fail
      go_ret2
      exact ⟨by rw [HE.out];rfl,Ext.refl _⟩
     ·have e1:decide ((s[k].toNat:Int)<48)=false:=decide_eq_false (by omega)
      have e2:decide ((57:Int)<(s[k].toNat:Int))=true:=decide_eq_true (by omega)
      go_wp2_with fail
      go_ret2
      exact ⟨by rw [HE.out];rfl,Ext.refl _⟩
   ·obtain rfl:k=s.size:=by omega
    have hall:l.all digB=true:=by have:=HL.out;rw [HA.out] at this;exact this
    have hat:=HAD.out hall
    have hnz:=HN.out hall
    obtain ⟨v,hv⟩:∃ v,v=decF 0 l:=⟨_,rfl⟩
    rw [←hv] at hat
    by_cases hvb:v<9223372036854775808
    ·rw [if_pos hvb] at hat
     have HC:=Lib.hid (show Calls Tryz.prog 188 #[.string s] W fun e w'=>e=.returned (.tuple #[.int .i64 (v:Int),.nilIface])∧Ext W w' from by rw [←HBL.out];exact atoi_yes W l hll _ hat)
     by_cases hvm:1125899906842624<v
     ·have HE:=Lib.hid (show decI l=(0,9) from decI_big hnz (by rw [←hv];exact hvm))
      clear hat hnz hv hall
      have e3:decide ((1125899906842624:Int)<(v:Int))=true:=decide_eq_true (by omega)
      go_wp2_with (go_at_call 188;refine HC.out.mono ?_;rintro e w2 ⟨rfl,hx2⟩)
      go_ret2
      exact ⟨by rw [HE.out];rfl,hx2⟩
     ·have HE:=Lib.hid (show decI l=((v:Int),0) from by rw [hv];exact decI_ok hnz (by rw [←hv];exact hvm))
      clear hat hnz hv hall
      have e3:decide ((1125899906842624:Int)<(v:Int))=false:=decide_eq_false (by omega)
      go_wp2_with (go_at_call 188;refine HC.out.mono ?_;rintro e w2 ⟨rfl,hx2⟩)
      go_ret2
      exact ⟨by rw [HE.out];rfl,hx2⟩
    ·rw [if_neg hvb] at hat
     have HC:=Lib.hid (show Calls Tryz.prog 188 #[.string s] W fun e w'=>(∃ v tp p,e=.returned (.tuple #[.int .i64 v,.iface tp p]))∧Ext W w' from by rw [←HBL.out];exact atoi_no W HW.out l hll hat)
     have HE:=Lib.hid (show decI l=(0,9) from decI_big hnz (by rw [←hv];omega))
     clear hat hnz hv hall
     go_wp2_with (go_at_call 188;refine HC.out.mono ?_;rintro e w2 ⟨⟨v2,tp,p,rfl⟩,hx2⟩)
     go_ret2
     exact ⟨by rw [HE.out];rfl,hx2⟩
theorem bts_beq (a b:List UInt8):((bts a).toList == (bts b).toList)=decide (a=b):=by
 rw [ByteArray.toList_eq,ByteArray.toList_eq]
 rw [Bool.eq_iff_iff];simp [bts]
theorem bts_bne (a b:List UInt8):((bts a).toList != (bts b).toList)=decide (a≠b):=by
 unfold bne;rw [bts_beq];by_cases h:a=b <;> simp [h]
theorem bne95 {x:Int} (h:x≠95):(x != 95)=true:=by simpa using h
theorem bne95f {x:Int} (h:x=95):(x != 95)=false:=by simp [h]
def nmB (d:UInt8):Bool:=letB d || d == 95 || digB d
theorem nmB_let {c:UInt8} (h:letB c=true):nmB c=true:=by unfold nmB;rw [h];rfl
theorem nmB_dig {c:UInt8} (h:c.toNat=95∨(48≤c.toNat∧c.toNat≤57)):nmB c=true:=by
 unfold nmB
 rcases h with h | h
 ·rw [show c=95 from UInt8.toNat_inj.1 h];decide
 ·rw [show digB c=true from decide_eq_true h];simp
theorem nmB_no {c:UInt8} (h:letB c=false) (h1:c.toNat≠95∧¬(48≤c.toNat∧c.toNat≤57)):nmB c=false:=by
 unfold nmB
 rw [h,show digB c=false from decide_eq_false h1.2,show (c == 95)=false from by rw [beq_eq_false_iff_ne];intro e;subst e;exact h1.1 rfl];rfl
theorem nameS_eq (s:ByteArray) (h:0<s.size):nameS s.data.toList=(letB s[0] && s.data.toList.all nmB && decide (s.size≤16)):=by
 obtain ⟨t,e⟩:=headS s h
 have hl:s.size=t.length+1:=by have:=congrArg List.length e;simpa using this
 rw [hl,e,List.all_cons]
 show (letB s[0] && t.all nmB && decide (t.length+1≤16))=_
 cases h1:letB s[0] with
 | false => simp
 | true => rw [nmB_let h1];simp
set_option maxHeartbeats 2000000 in
theorem sname_any (W : World) (s : ByteArray) (hs : s.size ≤ 1000000) :
    Calls Tryz.prog 140 #[.string s] W fun e w'=>e=.returned (.bool (nameS s.data.toList))∧W=w':=by
 obtain ⟨l,hl⟩:∃ l,l=s.data.toList:=⟨_,rfl⟩
 rw [←hl]
 have HT:=Lib.hid (show ∀ k (h:k<s.size),(l.take (k+1)).all nmB=((l.take k).all nmB && nmB s[k]) from fun k h=>by rw [hl];exact take_allS nmB s k h)
 have HN0:=Lib.hid (show 0<s.size→letB (l.headD 0)=false→nameS l=false from fun h h1=>by rw [hl,head_get s h] at h1;rw [hl,nameS_eq s h,h1];rfl)
 have HNA:=Lib.hid (show ∀ k (h:k<s.size),nmB s[k]=false→nameS l=false from fun k h hc=>by rw [hl,nameS_eq s (by omega),all_falseS nmB s k h hc];simp)
 have HEND:=Lib.hid (show 0<s.size→(l.take s.size).all nmB=true→letB (l.headD 0)=true→nameS l=decide (s.size≤16) from fun h h1 h2=>by rw [hl,head_get s h] at h2;rw [hl,nameS_eq s h,h2];rw [hl,take_wholeS] at h1;rw [h1];rfl)
 have HHD:=Lib.hid (show ∀ h:0<s.size,l.headD 0=s[0] from fun h=>by rw [hl];exact head_get s h)
 have HZ:=Lib.hid (show s.size=0→nameS l=false from fun h=>by
  have:l=[]:=List.eq_nil_of_length_eq_zero (by rw [hl];simpa using h)
  rw [this];rfl)
 clear hl
 go_enter Tryz.func140,Tryz.ntmps140
 go_wp2_with fail
 go_loop [8] (fun i=>∃ k:Nat,k≤s.size∧i=.int .i64 k∧(l.take k).all nmB=true∧(0<k→letB (l.headD 0)=true)) (fun i=>s.size - (intOf i).toNat)
 case atStart=>exact ⟨0,Nat.zero_le _,rfl,by simp,fun h=>absurd h (by omega)⟩
 case round=>
  obtain ⟨k,hk,rfl,hall,hf0⟩:=hrel
  have HL:=Lib.hid hall
  have HF0:=Lib.hid hf0
  clear hall hf0
  by_cases hlt:k<s.size
  ·have hc:s[k].toNat<48∨(48≤s[k].toNat∧s[k].toNat≤57)∨(58≤s[k].toNat∧s[k].toNat≤64)∨(65≤s[k].toNat∧s[k].toNat≤90)∨((91≤s[k].toNat∧s[k].toNat≤94)∨s[k].toNat=96)∨s[k].toNat=95∨(97≤s[k].toNat∧s[k].toNat≤122)∨123≤s[k].toNat:=by omega
   rcases hc with hr | hr | hr | hr | hr | hr | hr | hr
   ·-- s[k].toNat<48
    have e0:decide ((97:Int)≤(s[k].toNat:Int))=false:=decide_eq_false (by omega)
    have e2:decide ((65:Int)≤(s[k].toNat:Int))=false:=decide_eq_false (by omega)
    have e4:((s[k].toNat:Int) != 95)=true:=bne95 (by omega)
    have e5:decide ((s[k].toNat:Int)<48)=true:=decide_eq_true (by omega)
    have HD:=Lib.hid (show letB s[k]=false from decide_eq_false (by omega))
    by_cases hk0:k=0
    ·have HE:=Lib.hid (show nameS l=false from HN0.out (by omega) (by subst hk0;rw [HHD.out hlt];exact HD.out))
     have ek:((k:Int) == 0)=true:=by simp [hk0]
     clear hk0 hr
     go_wp2_with fail
     go_ret
     exact ⟨by rw [HE.out] <;> rfl,rfl⟩
    ·have ek:((k:Int) == 0)=false:=by simp [hk0]
     have HE:=Lib.hid (show nameS l=false from HNA.out k hlt (nmB_no HD.out (by omega)))
     clear hk0 hr
     go_wp2_with fail
     go_ret
     exact ⟨by rw [HE.out] <;> rfl,rfl⟩
   ·-- 48≤s[k].toNat∧s[k].toNat≤57
    have e0:decide ((97:Int)≤(s[k].toNat:Int))=false:=decide_eq_false (by omega)
    have e2:decide ((65:Int)≤(s[k].toNat:Int))=false:=decide_eq_false (by omega)
    have e4:((s[k].toNat:Int) != 95)=true:=bne95 (by omega)
    have e5:decide ((s[k].toNat:Int)<48)=false:=decide_eq_false (by omega)
    have e6:decide ((57:Int)<(s[k].toNat:Int))=false:=decide_eq_false (by omega)
    have HD:=Lib.hid (show letB s[k]=false from decide_eq_false (by omega))
    by_cases hk0:k=0
    ·have HE:=Lib.hid (show nameS l=false from HN0.out (by omega) (by subst hk0;rw [HHD.out hlt];exact HD.out))
     have ek:((k:Int) == 0)=true:=by simp [hk0]
     clear hk0 hr
     go_wp2_with fail
     go_ret
     exact ⟨by rw [HE.out] <;> rfl,rfl⟩
    ·have ek:((k:Int) == 0)=false:=by simp [hk0]
     have HE:=Lib.hid (show nmB s[k]=true from nmB_dig (by omega))
     have hkp:0<k:=by omega
     clear hk0 hr
     go_wp2_with fail
     go_round
     case rel=>exact ⟨k+1,by omega,by go_num,by rw [HT.out k hlt,HL.out,HE.out];rfl,fun _=>HF0.out hkp⟩
     case measure=>simp [intOf];omega
   ·-- 58≤s[k].toNat∧s[k].toNat≤64
    have e0:decide ((97:Int)≤(s[k].toNat:Int))=false:=decide_eq_false (by omega)
    have e2:decide ((65:Int)≤(s[k].toNat:Int))=false:=decide_eq_false (by omega)
    have e4:((s[k].toNat:Int) != 95)=true:=bne95 (by omega)
    have e5:decide ((s[k].toNat:Int)<48)=false:=decide_eq_false (by omega)
    have e6:decide ((57:Int)<(s[k].toNat:Int))=true:=decide_eq_true (by omega)
    have HD:=Lib.hid (show letB s[k]=false from decide_eq_false (by omega))
    by_cases hk0:k=0
    ·have HE:=Lib.hid (show nameS l=false from HN0.out (by omega) (by subst hk0;rw [HHD.out hlt];exact HD.out))
     have ek:((k:Int) == 0)=true:=by simp [hk0]
     clear hk0 hr
     go_wp2_with fail
     go_ret
     exact ⟨by rw [HE.out] <;> rfl,rfl⟩
    ·have ek:((k:Int) == 0)=false:=by simp [hk0]
     have HE:=Lib.hid (show nameS l=false from HNA.out k hlt (nmB_no HD.out (by omega)))
     clear hk0 hr
     go_wp2_with fail
     go_ret
     exact ⟨by rw [HE.out] <;> rfl,rfl⟩
   ·-- 65≤s[k].toNat∧s[k].toNat≤90
    have e0:decide ((97:Int)≤(s[k].toNat:Int))=false:=decide_eq_false (by omega)
    have e2:decide ((65:Int)≤(s[k].toNat:Int))=true:=decide_eq_true (by omega)
    have e3:decide ((s[k].toNat:Int)≤90)=true:=decide_eq_true (by omega)
    have HD:=Lib.hid (show letB s[k]=true from decide_eq_true (by omega))
    clear hr
    go_wp2_with fail
    go_round
    case rel=>exact ⟨k+1,by omega,by go_num,by rw [HT.out k hlt,HL.out,nmB_let HD.out];rfl,fun _=>by
     by_cases e:k=0
     ·subst e;rw [HHD.out hlt];exact HD.out
     ·exact HF0.out (by omega)⟩
    case measure=>simp [intOf];omega
   ·-- (91≤s[k].toNat∧s[k].toNat≤94)∨s[k].toNat=96
    have e0:decide ((97:Int)≤(s[k].toNat:Int))=false:=decide_eq_false (by omega)
    have e2:decide ((65:Int)≤(s[k].toNat:Int))=true:=decide_eq_true (by omega)
    have e3:decide ((s[k].toNat:Int)≤90)=false:=decide_eq_false (by omega)
    have e4:((s[k].toNat:Int) != 95)=true:=bne95 (by omega)
    have e5:decide ((s[k].toNat:Int)<48)=false:=decide_eq_false (by omega)
    have e6:decide ((57:Int)<(s[k].toNat:Int))=true:=decide_eq_true (by omega)
    have HD:=Lib.hid (show letB s[k]=false from decide_eq_false (by omega))
    by_cases hk0:k=0
    ·have HE:=Lib.hid (show nameS l=false from HN0.out (by omega) (by subst hk0;rw [HHD.out hlt];exact HD.out))
     have ek:((k:Int) == 0)=true:=by simp [hk0]
     clear hk0 hr
     go_wp2_with fail
     go_ret
     exact ⟨by rw [HE.out] <;> rfl,rfl⟩
    ·have ek:((k:Int) == 0)=false:=by simp [hk0]
     have HE:=Lib.hid (show nameS l=false from HNA.out k hlt (nmB_no HD.out (by omega)))
     clear hk0 hr
     go_wp2_with fail
     go_ret
     exact ⟨by rw [HE.out] <;> rfl,rfl⟩
   ·-- s[k].toNat=95
    have e0:decide ((97:Int)≤(s[k].toNat:Int))=false:=decide_eq_false (by omega)
    have e2:decide ((65:Int)≤(s[k].toNat:Int))=true:=decide_eq_true (by omega)
    have e3:decide ((s[k].toNat:Int)≤90)=false:=decide_eq_false (by omega)
    have e4:((s[k].toNat:Int) != 95)=false:=bne95f (by omega)
    have HD:=Lib.hid (show letB s[k]=false from decide_eq_false (by omega))
    by_cases hk0:k=0
    ·have HE:=Lib.hid (show nameS l=false from HN0.out (by omega) (by subst hk0;rw [HHD.out hlt];exact HD.out))
     have ek:((k:Int) == 0)=true:=by simp [hk0]
     clear hk0 hr
     go_wp2_with fail
     go_ret
     exact ⟨by rw [HE.out] <;> rfl,rfl⟩
    ·have ek:((k:Int) == 0)=false:=by simp [hk0]
     have HE:=Lib.hid (show nmB s[k]=true from nmB_dig (by omega))
     have hkp:0<k:=by omega
     clear hk0 hr
     go_wp2_with fail
     go_round
     case rel=>exact ⟨k+1,by omega,by go_num,by rw [HT.out k hlt,HL.out,HE.out];rfl,fun _=>HF0.out hkp⟩
     case measure=>simp [intOf];omega
   ·-- 97≤s[k].toNat∧s[k].toNat≤122
    have e0:decide ((97:Int)≤(s[k].toNat:Int))=true:=decide_eq_true (by omega)
    have e1:decide ((s[k].toNat:Int)≤122)=true:=decide_eq_true (by omega)
    have HD:=Lib.hid (show letB s[k]=true from decide_eq_true (by omega))
    clear hr
    go_wp2_with fail
    go_round
    case rel=>exact ⟨k+1,by omega,by go_num,by rw [HT.out k hlt,HL.out,nmB_let HD.out];rfl,fun _=>by
     by_cases e:k=0
     ·subst e;rw [HHD.out hlt];exact HD.out
     ·exact HF0.out (by omega)⟩
    case measure=>simp [intOf];omega
   ·-- 123≤s[k].toNat
    have e0:decide ((97:Int)≤(s[k].toNat:Int))=true:=decide_eq_true (by omega)
    have e1:decide ((s[k].toNat:Int)≤122)=false:=decide_eq_false (by omega)
    have e2:decide ((65:Int)≤(s[k].toNat:Int))=true:=decide_eq_true (by omega)
    have e3:decide ((s[k].toNat:Int)≤90)=false:=decide_eq_false (by omega)
    have e4:((s[k].toNat:Int) != 95)=true:=bne95 (by omega)
    have e5:decide ((s[k].toNat:Int)<48)=false:=decide_eq_false (by omega)
    have e6:decide ((57:Int)<(s[k].toNat:Int))=true:=decide_eq_true (by omega)
    have HD:=Lib.hid (show letB s[k]=false from decide_eq_false (by omega))
    by_cases hk0:k=0
    ·have HE:=Lib.hid (show nameS l=false from HN0.out (by omega) (by subst hk0;rw [HHD.out hlt];exact HD.out))
     have ek:((k:Int) == 0)=true:=by simp [hk0]
     clear hk0 hr
     go_wp2_with fail
     go_ret
     exact ⟨by rw [HE.out] <;> rfl,rfl⟩
    ·have ek:((k:Int) == 0)=false:=by simp [hk0]
     have HE:=Lib.hid (show nameS l=false from HNA.out k hlt (nmB_no HD.out (by omega)))
     clear hk0 hr
     go_wp2_with fail
     go_ret
     exact ⟨by rw [HE.out] <;> rfl,rfl⟩
  ·obtain rfl:k=s.size:=by omega
   by_cases h0:0<s.size
   ·have HE:=Lib.hid (HEND.out h0 HL.out (HF0.out h0))
    have d0:=toList_nemp s h0
    by_cases h16:s.size≤16
    ·have e16:decide ((s.size:Int)≤16)=true:=decide_eq_true (by omega)
     go_wp2_with fail
     go_ret
     exact ⟨by rw [HE.out,decide_eq_true h16] <;> rfl,rfl⟩
    ·have e16:decide ((s.size:Int)≤16)=false:=decide_eq_false (by omega)
     go_wp2_with fail
     go_ret
     exact ⟨by rw [HE.out,decide_eq_false h16] <;> rfl,rfl⟩
   ·have d0:=toList_emp s (by omega)
    have HE:=Lib.hid (HZ.out (by omega))
    go_wp2_with fail
    go_ret
    exact ⟨by rw [HE.out] <;> rfl,rfl⟩
set_option maxHeartbeats 2000000 in
theorem title_any (W : World) (hW : LibB W) (w want : List UInt8) (hl : w.length ≤ 1000000) :
    Calls Tryz.prog 90 #[.string (bts w),.string (bts want)] W fun e w'=>e=.returned (.int .i64 (titleE w want))∧Ext W w':=by
 have HC:=Lib.hid (scut_any W hW.mx w 46 hl)
 have hcl:=cut_len w 46
 obtain ⟨u,hu⟩:∃ u,u=(Lib.cut w [46]).1:=⟨_,rfl⟩
 obtain ⟨v,hv⟩:∃ v,v=(Lib.cut w [46]).2.1:=⟨_,rfl⟩
 obtain ⟨f,hf⟩:∃ f,f=(Lib.cut w [46]).2.2:=⟨_,rfl⟩
 rw [←hu,←hv,←hf] at HC
 rw [←hu,←hv] at hcl
 have HN:=Lib.hid (fun W=>show Calls Tryz.prog 140 #[.string (bts u)] W fun e w'=>e=.returned (.bool (nameS u))∧W=w' from sname_any W (bts u) (by rw [bts_size];omega))
 have HD:=Lib.hid (fun W1 (x:Ext W W1)=>show Calls Tryz.prog 137 #[.string (bts v)] W1 fun e w'=>e=.returned (.tuple #[.int .i64 (decI v).1,.int .i64 (decI v).2])∧Ext W1 w' from decimal_any W1 (hW.ext x) (bts v) (by rw [bts_size];omega))
 have HT:=Lib.hid (show titleE w want=if f=false∨nameS u=false then 3 else if (decI v).2≠0 then (decI v).2 else if w≠want then 11 else 0 from by rw [hu,hv,hf];rfl)
 have hbw:=bts_beq w want
 obtain ⟨nb,hnb⟩:∃ nb,nb=nameS u:=⟨_,rfl⟩
 obtain ⟨dv,hdv⟩:∃ dv,dv=(decI v).1:=⟨_,rfl⟩
 obtain ⟨de,hde⟩:∃ de,de=(decI v).2:=⟨_,rfl⟩
 rw [←hnb] at HN HT
 rw [←hdv,←hde] at HD
 rw [←hde] at HT
 clear hu hv hf hW hnb hdv hde hcl
 have hww:Ext W W:=Ext.refl _
 cases f with
 | false =>
  go_enter Tryz.func90,Tryz.ntmps90
  go_wp2_with (first | (go_at_call 135;refine HC.out.mono ?_;rintro e w2 ⟨rfl,hx2⟩))
  go_ret
  exact ⟨by rw [HT.out] <;> rfl,hx2⟩
 | true =>
  cases nb with
  | false =>
   go_enter Tryz.func90,Tryz.ntmps90
   go_wp2_with (first | (go_at_call 135;refine HC.out.mono ?_;rintro e w2 ⟨rfl,hx2⟩) | (go_at_call 140;refine (HN.out _).mono ?_;rintro e w3 ⟨rfl,rfl⟩))
   go_ret
   exact ⟨by rw [HT.out] <;> rfl,hx2⟩
  | true =>
   by_cases h0:de=0
   ·subst h0
    by_cases h1:w=want
    ·rw [decide_eq_true h1] at hbw
     have HE:=Lib.hid (show titleE w want=0 from by rw [HT.out,if_neg (by simp),if_neg (by simp),if_neg (by simp [h1])])
     clear h1 HT
     go_enter Tryz.func90,Tryz.ntmps90
     go_wp2_with (first | (go_at_call 135;refine HC.out.mono ?_;rintro e w2 ⟨rfl,hx2⟩) | (go_at_call 140;refine (HN.out _).mono ?_;rintro e w3 ⟨rfl,rfl⟩) | (go_at_call 137;refine (HD.out _ hx2).mono ?_;rintro e w4 ⟨rfl,hx4⟩))
     go_ret
     exact ⟨by rw [HE.out] <;> rfl,hx2.trans hx4⟩
    ·rw [decide_eq_false h1] at hbw
     have HE:=Lib.hid (show titleE w want=11 from by rw [HT.out,if_neg (by simp),if_neg (by simp),if_pos h1])
     clear h1 HT
     go_enter Tryz.func90,Tryz.ntmps90
     go_wp2_with (first | (go_at_call 135;refine HC.out.mono ?_;rintro e w2 ⟨rfl,hx2⟩) | (go_at_call 140;refine (HN.out _).mono ?_;rintro e w3 ⟨rfl,rfl⟩) | (go_at_call 137;refine (HD.out _ hx2).mono ?_;rintro e w4 ⟨rfl,hx4⟩))
     go_ret
     exact ⟨by rw [HE.out] <;> rfl,hx2.trans hx4⟩
   ·have d0:(de != 0)=true:=by simpa using h0
    have HE:=Lib.hid (show titleE w want=de from by rw [HT.out,if_neg (by simp),if_pos h0])
    clear h0 HT
    go_enter Tryz.func90,Tryz.ntmps90
    go_wp2_with (first | (go_at_call 135;refine HC.out.mono ?_;rintro e w2 ⟨rfl,hx2⟩) | (go_at_call 140;refine (HN.out _).mono ?_;rintro e w3 ⟨rfl,rfl⟩) | (go_at_call 137;refine (HD.out _ hx2).mono ?_;rintro e w4 ⟨rfl,hx4⟩))
    go_ret
    exact ⟨by rw [HE.out] <;> rfl,hx2.trans hx4⟩
end Go.Proofs.YtlfdfkbmollaaaaGreatDoor

namespace Go.Proofs.YtlfdfkbmollaaaaGreatDoor
open Go.RowKit Go.Shelf
attribute [local go_sem] Oper.semAt_some
structure FstE (w0:World) (f:Nat) (lb:Array Value) (b:Nat) (e:List UInt8→Int):Prop where
 en:Enters Tryz.prog f
 go:∀ W,Cg (· = b) w0 W→∀ s:List UInt8,s.length≤1000000→Calls Tryz.prog f (#[.string (bts s)]++lb) W fun en W'=>en=.returned (.int .i64 (e s))∧Ext W W'
set_option maxHeartbeats 1000000 in
theorem word_any (W : World) (s : List UInt8) :
    Calls Tryz.prog 86 #[.string (bts s)] W fun e W'=>e=.returned (.func (.func 138) #[] #[.pointer (some ⟨W.heap.size,0,none⟩)])∧Hold W' W.heap.size #[.string (bts s)]∧Ext W W':=by
 go_enter Tryz.func86,Tryz.ntmps86
 go_wp2_with fail
 go_ret
 exact ⟨rfl,Hold.new _ _ _,(Ext.refl W).alloc' _⟩
set_option maxHeartbeats 1000000 in
theorem word1_any (W : World) (g : Nat) (want s : List UInt8) (h : Hold W g #[.string (bts want)]) :
    Calls Tryz.prog 138 #[.string (bts s),.pointer (some ⟨g,0,none⟩)] W fun e W'=>e=.returned (.int .i64 (wordE want s))∧Ext W W':=by
 obtain ⟨l0,c0,f0,_⟩:=h.box
 have hww:Ext W W:=Ext.refl _
 have hd:=bts_beq s want
 have hx:=Lib.hid (show wordE want s=if s≠want then 3 else 0 from rfl)
 clear h
 by_cases e:s=want
 ·rw [decide_eq_true e] at hd
  rw [if_neg (by simp [e])] at hx
  clear e
  go_enter Tryz.func138,Tryz.ntmps138
  go_wp2_with fail
  go_ret
  exact ⟨by rw [hx.out] <;> rfl,Ext.refl _⟩
 ·rw [decide_eq_false e] at hd
  rw [if_pos e] at hx
  clear e
  go_enter Tryz.func138,Tryz.ntmps138
  go_wp2_with fail
  go_ret
  exact ⟨by rw [hx.out] <;> rfl,Ext.refl _⟩
theorem wordF {w0:World} {g b:Nat} {want:List UInt8} (h:Hold w0 g #[.string (bts want)]) (hg:g≠b):FstE w0 138 #[.pointer (some ⟨g,0,none⟩)] b (wordE want):=
 ⟨enters_of Tryz.func138 (by kernel_rfl) rfl,fun W x s _=>word1_any W g want s (h.cg x hg)⟩
def stepO (k n:Nat) (out:List Int) (w:List UInt8):List Int:=if k=0 then out else if n<k then out else out++[(decI w).1]
def stepR (k n:Nat) (first:List UInt8→Int) (col:Int) (r:Rdr) (w:List UInt8):Rdr:=
 if k=0 then (if first w≠0 then r.fail col (first w) else r) else if n<k then r.fail col 3 else if (decI w).2≠0 then r.fail col (decI w).2 else r
theorem wordsGo_step {n : Nat} {first : List UInt8 → Int} {w : List UInt8} {ws : List (List UInt8)} {k : Nat} {col : Int} {out : List Int} {r : Rdr} (h : r.e = 0) :
    wordsGo n first (w :: ws) k col out r=wordsGo n first ws (k+1) (col+(w.length+1)) (stepO k n out w) (stepR k n first col r w):=by
 rw [wordsGo,if_neg (by rw [h];decide)]
 unfold stepO stepR
 by_cases h0:k=0
 ·subst h0;simp
 ·rw [if_neg h0,if_neg h0,if_neg h0]
  by_cases h1:n<k
  ·rw [if_pos h1,if_pos h1,if_pos h1]
  ·rw [if_neg h1,if_neg h1,if_neg h1]
theorem splitK_in {c:UInt8}:∀ (k:Nat) (s x:List UInt8),x∈Lib.splitK [c] 0 k s→x.length≤s.length
 | 0,s,x,h => by rw [Lib.splitK] at h;simp at h;subst h;exact Nat.le_refl _
 | k+1,s,x,h => by
  rw [Lib.splitK] at h
  split at h
  ·simp at h;subst h;exact Nat.le_refl _
  ·rcases List.mem_cons.1 h with rfl | h
   ·rw [List.length_take];omega
   ·have:=splitK_in k _ x h
    rw [List.length_drop] at this;omega
theorem splitK_len {c:UInt8}:∀ (k:Nat) (s:List UInt8),(Lib.splitK [c] 0 k s).length≤k+1
 | 0,s => by rw [Lib.splitK];simp
 | k+1,s => by
  rw [Lib.splitK]
  split
  ·simp
  ·have:=splitK_len (c:=c) k (s.drop ((Lib.index s [c]).toNat+[c].length))
   rw [List.length_cons];omega
theorem split_in {c:UInt8} {s x:List UInt8} (h:x∈Lib.split s [c]):x.length≤s.length:=splitK_in _ _ _ h
theorem split_len (c:UInt8) (s:List UInt8):(Lib.split s [c]).length≤s.length+1:=by
 have h1:=splitK_len (c:=c) (Lib.count s [c]) s
 have h2:Lib.count s [c]≤s.length:=by rw [Lib.count_one];exact List.count_le_length
 unfold Lib.split;omega
theorem Que.keepB {w w':World} {base size b n:Nat} {v:Value} {xs:List Value} (h:Que w base size v n xs) (x:Cg (· = b) w w') (hb:b<base):Que w' base size v n xs:=
 h.same x.le fun g h1 h2=>x.2 g h2 (by omega)
def CntPost (b:Nat) (L:List Int) (r':Rdr) (W:World) (e:Ending) (W':World):Prop:=∃ v,e=.returned v∧Que W' W.heap.size 1 v L.length (intCells L)∧Hold W' b (rdrC r')∧Cg (· = b) W W'
structure RdcI (W:World) (b gw:Nat) (ws:List (List UInt8)) (n:Nat) (first:List UInt8→Int) (G:List Int × Rdr × Bool) (k:Nat) (col:Int) (out:List Int) (r:Rdr) (v:Value) (w:World):Prop where
 q:Que w (gw+1) 1 v out.length (intCells out)
 h:Hold w b (rdrC r)
 x:Cg (· = b) W w
 hw:Hold w gw (strV ws).toArray
 g:wordsGo n first (ws.drop k) k col out r=G
 c0:1≤col
 c1:col≤1+k*1000001
 l:out.length≤k
theorem RdcI.done {W w:World} {b gw n:Nat} {ws:List (List UInt8)} {first:List UInt8→Int} {G:List Int × Rdr × Bool} {col:Int} {out:List Int} {r:Rdr} {v:Value} (h:RdcI W b gw ws n first G ws.length col out r v w):G=(out,r,false):=by
 have h1:=h.g
 rw [List.drop_length,wordsGo] at h1
 exact h1.symm
theorem drop_getD {ws:List (List UInt8)} {k:Nat} (h:k<ws.length):ws.drop k=ws.getD k [] :: ws.drop (k+1):=by
 rw [List.drop_eq_getElem_cons h,List.getD_eq_getElem?_getD,List.getElem?_eq_getElem h];rfl
theorem RdcI.stop {W w:World} {b gw n k:Nat} {ws:List (List UInt8)} {first:List UInt8→Int} {G:List Int × Rdr × Bool} {col:Int} {out:List Int} {r:Rdr} {v:Value} (h:RdcI W b gw ws n first G k col out r v w) (hk:k<ws.length) (he:r.e≠0):G=([],r,true):=by
 have h1:=h.g
 rw [drop_getD hk,wordsGo,if_pos he] at h1
 exact h1.symm
theorem RdcI.next {W w w' : World} {b gw n k : Nat} {ws : List (List UInt8)} {first : List UInt8 → Int} {G : List Int × Rdr × Bool} {col : Int} {out out' : List Int} {r r' : Rdr} {v v' : Value} {x : List UInt8} (h : RdcI W b gw ws n first G k col out r v w) (hk : k < ws.length) (he : r.e = 0) (hx : x = ws.getD k []) (hxl : x.length ≤ 1000000)
    (ho:out'=stepO k n out x) (hr:r'=stepR k n first col r x) (q:Que w' (gw+1) 1 v' out'.length (intCells out')) (hh:Hold w' b (rdrC r')) (hc:Cg (· = b) W w') (hw:Hold w' gw (strV ws).toArray) :
    RdcI W b gw ws n first G (k+1) (col+(x.length+1)) out' r' v' w':=by
 have h1:=h.g
 rw [drop_getD hk,wordsGo_step he,←hx,←ho,←hr] at h1
 have h2:=h.c0
 have h3:=h.c1
 have h4:=h.l
 refine ⟨q,hh,hc,hw,h1,by omega,by omega,?_⟩
 rw [ho];unfold stepO
 by_cases h5:k=0
 ·rw [if_pos h5];omega
 ·rw [if_neg h5]
  by_cases h6:n<k
  ·rw [if_pos h6];omega
  ·rw [if_neg h6,List.length_append];simp;omega
structure RdcF (W:World) (b gw:Nat) (ws:List (List UInt8)) (out:List Int) (r:Rdr) (v:Value) (w:World):Prop where
 q:Que w (gw+1) 1 v out.length (intCells out)
 h:Hold w b (rdrC r)
 x:Cg (· = b) W w
 hw:Hold w gw (strV ws).toArray
theorem RdcF.ext {W w w':World} {b gw:Nat} {ws:List (List UInt8)} {out:List Int} {r:Rdr} {v:Value} (h:RdcF W b gw ws out r v w) (x:Ext w w'):RdcF W b gw ws out r v w':=
 ⟨h.q.ext x,h.h.ext x,h.x.trans (x.cg _),h.hw.ext x⟩
theorem RdcF.app {W w w' : World} {b gw ol : Nat} {ws : List (List UInt8)} {out : List Int} {r : Rdr} {a a' : Option Addr} {c c' : Nat} {t : TypeId} (h : RdcF W b gw ws out r (.slice a ol c) w) (dv : Int) (hol : ol = out.length) (hgw : gw = W.heap.size) (hb : b < gw)
    (hq:Que w' (gw+1) 1 (.slice a' (ol+1) c') (ol+1) (intCells out++[.int .i64 dv])) (hg:(w.alloc (.cells #[.int .i64 dv] t)).grownBy w' (Value.slice a ol c).ownBlock):RdcF W b gw ws (out++[dv]) r (.slice a' (ol+1) c') w':=by
 have hx:Ext w (w.alloc (.cells #[.int .i64 dv] t)):=(Ext.refl w).alloc' _
 have ho:∀ g,(Value.slice a ol c).ownBlock=some g→gw+1≤g:=fun g e=>h.q.block g e
 refine ⟨by rw [List.length_append,←hol];unfold intCells at hq ⊢;rw [List.map_append];exact hq,(h.h.ext hx).grownG hg fun e=>?_,(h.x.trans (hx.cg _)).grown hg fun g e=>.inr ?_,(h.hw.ext hx).grownG hg fun e=>?_⟩
 ·have:=ho b e;omega
 ·have:=ho g e;omega
 ·have:=ho gw e;omega
set_option maxHeartbeats 4000000 in
theorem counts_any (W : World) (hW : LibB W) (b : Nat) (hb : Apt b) (r : Rdr) (h : Hold W b (rdrC r)) (line : List UInt8) (hl : line.length ≤ 1000000) (n : Nat) (f : Nat) (lb : Array Value) (first : List UInt8 → Int) (F : FstE W f lb b first)
    (ws:List (List UInt8)) (hws:Lib.split line [32]=ws) :
    Calls Tryz.prog 85 #[.pointer (some ⟨b,0,none⟩),.string (bts line),.int .i64 n,.func (.func f) #[] lb] W (CntPost b (r.counts line ws n first).1 (r.counts line ws n first).2 W):=by
 have hbW:=h.lt
 have HSP:=Lib.hid (ssplit_any W hW.mx line 32 ws hws hl)
 have HW:=Lib.hid hW
 have HB:=Lib.hid hb
 have HF:=Lib.hid F
 have eg:=F.en
 obtain ⟨j0,hj0,hy0,hy1,hy2⟩:=info_parts infoInt
 obtain ⟨G,hG⟩:∃ G,G=wordsGo n first ws 0 1 [] r:=⟨_,rfl⟩
 have HC:=Lib.hid (show r.counts line ws n first=(if G.2.2=true then ([],G.2.1) else (G.1,if G.1.length<n then G.2.1.fail (line.length+1) 3 else G.2.1)) from by rw [hG];rfl)
 obtain ⟨gw,hgw⟩:∃ gw,gw=W.heap.size:=⟨_,rfl⟩
 have HI0:=Lib.hid (show ∀ W3,W3=W.alloc (.cells (strV ws).toArray 9)→RdcI W b gw ws n first G 0 1 [] r (.slice none 0 0) W3 from fun W3 e=>by
  subst e hgw
  exact ⟨Que.nil _ _ _,h.ext ((Ext.refl W).alloc' _),((Ext.refl W).alloc' _).cg _,Hold.new _ _ _,hG.symm,by omega,by omega,by simp⟩)
 have hml:=split_len 32 line
 rw [hws] at hml
 have HIN:=Lib.hid (show ∀ k,k<ws.length→(ws.getD k []).length≤line.length from fun k hk=>split_in (c:=32) (s:=line) (by
  rw [hws,List.getD_eq_getElem?_getD,List.getElem?_eq_getElem hk];exact List.getElem_mem hk))
 obtain ⟨m,hm⟩:∃ m,m=ws.length:=⟨_,rfl⟩
 rw [←hm] at hml
 rw [←hgw] at HSP hbW
 have hzl:=bts_size line
 have HM:=Lib.hid hm
 have HGW:=Lib.hid hgw
 rw [←hm] at HSP
 unfold Enters at eg
 clear hW hb F h hG hws hm hgw
 go_enter Tryz.func85,Tryz.ntmps85
 go_wp2_with (go_at_call 136;refine HSP.out.mono ?_;rintro e W3 ⟨rfl,hW3⟩;have HI3:=Lib.hid (HI0.out W3 hW3);clear hW3)
 go_loopg [9,10,19] m (fun gg v9 v10 v19 wr=>∃ k:Nat,k≤m∧gg=m - k∧v19=.int .i64 k∧∃ col out r,v10=.int .i64 col∧RdcI W b gw ws n first G k col out r v9 wr)
 case atStart=>exact ⟨0,by omega,rfl,rfl,1,[],r,rfl,HI3.out⟩
 case round=>
  clear HI3 HSP HI0
  obtain ⟨k,hk,rfl,rfl,col,out,r1,rfl,hI⟩:=hrel
  obtain ⟨a9,c9,rfl⟩:=hI.q.slice
  obtain ⟨ol,hol⟩:∃ ol,ol=out.length:=⟨_,rfl⟩
  rw [←hol]
  have HI:=Lib.hid hI
  obtain ⟨lb0,cb0,fb0,_⟩:=hI.h.box
  obtain ⟨lw0,cw0,_,_⟩:=hI.hw.box
  have hwr:Ext wr wr:=Ext.refl _
  unfold rdrC at cb0
  have hc0:=hI.c0
  have hc1:=hI.c1
  by_cases hlt:k<m
  ·have hkw:k<ws.length:=by rw [←HM.out];exact hlt
   have hlt':(k:Int)<(m:Int):=by omega
   obtain ⟨x,hx⟩:∃ x,x=ws.getD k []:=⟨_,rfl⟩
   have hxl:x.length≤1000000:=by have:=HIN.out k hkw;rw [←hx] at this;omega
   have pw:∀ w',Ext wr w'→w'.cell? ⟨gw,k,none⟩=some (.string (bts x)):=fun w' e=>by
    rw [cw0 w' e k,List.getElem?_toArray]
    unfold strV
    rw [List.getElem?_map,List.getElem?_eq_getElem hkw,hx,List.getD_eq_getElem?_getD,List.getElem?_eq_getElem hkw];rfl
   have hzx:=bts_size x
   have hw1:IntKind.i64.wrap ((x.length:Int)+1)=(x.length:Int)+1:=IntWalk.i64_in _ (by omega)
   have hw2:IntKind.i64.wrap (col+((x.length:Int)+1))=col+((x.length:Int)+1):=IntWalk.i64_in _ (by omega)
   have HX:=Lib.hid hx
   have HK:=Lib.hid hkw
   clear hx hkw cw0 hI
   by_cases he:r1.e≠0
   ·have d0:(r1.e != 0)=true:=by simpa using he
    have HS:=Lib.hid (HI.out.stop HK.out he)
    clear he
    go_wp2_with fail
    go_ret
    exact ⟨_,rfl,by rw [HC.out,HS.out];exact Que.nil _ _ _,by rw [HC.out,HS.out];exact HI.out.h,HI.out.x⟩
   ·have he':r1.e=0:=by simpa using he
    have d0:(r1.e != 0)=false:=by simp [he']
    have HE:=Lib.hid he'
    clear he he'
    have HB0:=Lib.hid (show RdcF W b gw ws out r1 (.slice a9 ol c9) wr from ⟨by rw [hol];exact HI.out.q,HI.out.h,HI.out.x,HI.out.hw⟩)
    have HOL:=Lib.hid hol
    clear hol lw0 lb0 cb0 fb0
    obtain ⟨lb0,cb0,fb0,_⟩:=HI.out.h.box
    unfold rdrC at cb0
    by_cases hk0:k=0
    ·have d1:((k:Int) == 0)=true:=by simp [hk0]
     obtain ⟨ev,hev⟩:∃ ev,ev=first x:=⟨_,rfl⟩
     have HG:=Lib.hid (HF.out.go wr HI.out.x x hxl)
     rw [←hev] at HG
     have HO:=Lib.hid (show out=stepO k n out x from by unfold stepO;rw [if_pos hk0])
     have hR:=(show stepR k n first col r1 x=if ev≠0 then r1.fail col ev else r1 from by unfold stepR;rw [if_pos hk0,←hev])
     clear hk0 hev
     by_cases h0:ev=0
     ·have d2:(ev != 0)=false:=by simp [h0]
      have HR:=Lib.hid (show r1=stepR k n first col r1 x from by rw [hR,if_neg (by simp [h0])])
      clear h0 hR
      go_wp2_with fail
      go_at_fn f
      refine HG.out.mono ?_
      rintro e w2 ⟨rfl,hx2⟩
      have HI2:=Lib.hid (HB0.out.ext hx2)
      go_wp2_with fail
      go_roundg (m - (k+1))
      case rel=>exact ⟨k+1,by omega,rfl,by go_num,_,_,_,rfl,HI.out.next HK.out HE.out HX.out hxl HO.out HR.out HI2.out.q HI2.out.h HI2.out.x HI2.out.hw⟩
      case measure=>omega
     ·have d2:(ev != 0)=true:=by simpa using h0
      have HR:=Lib.hid (show r1.fail col ev=stepR k n first col r1 x from by rw [hR,if_pos h0])
      clear h0 hR
      go_wp2_with fail
      go_at_fn f
      refine HG.out.mono ?_
      rintro e w2 ⟨rfl,hx2⟩
      have HI2:=Lib.hid (HB0.out.ext hx2)
      go_wp2_with fail
      go_at_call 36
      refine (rfail_any w2 b r1 HI2.out.h col ev).mono ?_
      rintro e w3 ⟨rfl,hh,hc⟩
      have HI3:=Lib.hid (show RdcF W b gw ws out (r1.fail col ev) (.slice a9 ol c9) w3 from ⟨HI2.out.q.keepB hc (by omega),hh,HI2.out.x.trans hc,HI2.out.hw.cg hc (by omega)⟩)
      clear hh hc
      go_wp2_with fail
      go_roundg (m - (k+1))
      case rel=>exact ⟨k+1,by omega,rfl,by go_num,_,_,_,rfl,HI.out.next HK.out HE.out HX.out hxl HO.out HR.out HI3.out.q HI3.out.h HI3.out.x HI3.out.hw⟩
      case measure=>omega
    have d1:((k:Int) == 0)=false:=by simp [hk0]
    by_cases hnk:n<k
    ·have d2:decide ((n:Int)<(k:Int))=true:=decide_eq_true (by omega)
     have d2':decide (n<k)=true:=decide_eq_true hnk
     have HO:=Lib.hid (show out=stepO k n out x from by unfold stepO;rw [if_neg hk0,if_pos hnk])
     have HR:=Lib.hid (show r1.fail col 3=stepR k n first col r1 x from by unfold stepR;rw [if_neg hk0,if_pos hnk])
     clear hk0 hnk
     ·go_wp2_with fail
      go_at_call 36
      refine (rfail_any wr b r1 HI.out.h col 3).mono ?_
      rintro e w3 ⟨rfl,hh,hc⟩
      have HI3:=Lib.hid (show RdcF W b gw ws out (r1.fail col 3) (.slice a9 ol c9) w3 from ⟨HB0.out.q.keepB hc (by omega),hh,HB0.out.x.trans hc,HB0.out.hw.cg hc (by omega)⟩)
      clear hh hc
      go_wp2_with fail
      go_roundg (m - (k+1))
      case rel=>exact ⟨k+1,by omega,rfl,by go_num,_,_,_,rfl,HI.out.next HK.out HE.out HX.out hxl HO.out HR.out HI3.out.q HI3.out.h HI3.out.x HI3.out.hw⟩
      case measure=>omega
    ·have d2:decide ((n:Int)<(k:Int))=false:=decide_eq_false (by omega)
     have d2':decide (n<k)=false:=decide_eq_false hnk
     have HD:=Lib.hid (show Calls Tryz.prog 137 #[.string (bts x)] wr fun e w'=>e=.returned (.tuple #[.int .i64 (decI x).1,.int .i64 (decI x).2])∧Ext wr w' from decimal_any wr (HW.out.cg HI.out.x fun _ e=>by subst e;exact HB.out) (bts x) (by rw [bts_size];omega))
     obtain ⟨dv,hdv⟩:∃ dv,dv=(decI x).1:=⟨_,rfl⟩
     obtain ⟨de,hde⟩:∃ de,de=(decI x).2:=⟨_,rfl⟩
     rw [←hdv,←hde] at HD
     have HO:=Lib.hid (show out++[dv]=stepO k n out x from by unfold stepO;rw [if_neg hk0,if_neg hnk,hdv])
     have hR:=(show stepR k n first col r1 x=if de≠0 then r1.fail col de else r1 from by unfold stepR;rw [if_neg hk0,if_neg hnk,←hde])
     clear hk0 hnk hdv hde
     have holb:ol≤1000001:=by have h1:=HI.out.l;have h2:=HOL.out;omega
     by_cases h0:de=0
     ·have d3:(de != 0)=false:=by simp [h0]
      have HR:=Lib.hid (show r1=stepR k n first col r1 x from by rw [hR,if_neg (by simp [h0])])
      clear h0 hR
      go_upto_region 9 with (go_at_call 137;refine HD.out.mono ?_;rintro e w2 ⟨rfl,hx2⟩;have HI2:=Lib.hid (HB0.out.ext hx2))
      go_upto_region 18 with (at_builtin;refine wpList_append_que _ rfl _ _ 27 27 rfl (base:=gw+1) (e:=3) (size:=1) j0 (.int .i64 0) 8 Tryz.underlying27 hj0 hy0 hy1 hy2 rfl rfl (v:=.slice a9 ol c9) (n:=ol) (xs:=intCells out) (by have h:=HI2.out.q.ext (Ext.alloc w2 (.cells #[.int .i64 dv] 3));rw [←HOL.out] at h;exact h) (by rw [World.size_alloc];have:=HI2.out.hw.lt;omega) (.slice (some ⟨w2.heap.size,0,none⟩) 1 1) 1 [.int .i64 dv] rfl (by exact Src.ofSlice (size:=1) _ Tryz.underlying27 ⟨w2.heap.size,0,none⟩ 1 1 _ rfl (news_ok w2 _ _) (one_int _)) (by unfold maxLen;omega) (by omega) ?_;rintro v7 w7 hq7 hg7 -;obtain ⟨a8,c8,rfl⟩:=hq7.slice;have H7:=Lib.hid (HI2.out.app dv HOL.out HGW.out hbW hq7 hg7);clear hq7 hg7)
      go_wp2_with fail
      go_roundg (m - (k+1))
      case rel=>exact ⟨k+1,by omega,rfl,by go_num,_,_,_,rfl,HI.out.next HK.out HE.out HX.out hxl HO.out HR.out H7.out.q H7.out.h H7.out.x H7.out.hw⟩
      case measure=>omega
     ·have d3:(de != 0)=true:=by simpa using h0
      have HR:=Lib.hid (show r1.fail col de=stepR k n first col r1 x from by rw [hR,if_pos h0])
      clear h0 hR
      go_upto_region 9 with (go_at_call 137;refine HD.out.mono ?_;rintro e w2 ⟨rfl,hx2⟩;have HI2:=Lib.hid (HB0.out.ext hx2))
      go_wp2_with fail
      go_at_call 36
      refine (rfail_any w2 b r1 HI2.out.h col de).mono ?_
      rintro e w3 ⟨rfl,hh,hc⟩
      have HI3:=Lib.hid (show RdcF W b gw ws out (r1.fail col de) (.slice a9 ol c9) w3 from ⟨HI2.out.q.keepB hc (by omega),hh,HI2.out.x.trans hc,HI2.out.hw.cg hc (by omega)⟩)
      clear hh hc
      go_upto_region 18 with (at_builtin;refine wpList_append_que _ rfl _ _ 27 27 rfl (base:=gw+1) (e:=3) (size:=1) j0 (.int .i64 0) 8 Tryz.underlying27 hj0 hy0 hy1 hy2 rfl rfl (v:=.slice a9 ol c9) (n:=ol) (xs:=intCells out) (by have h:=HI3.out.q.ext (Ext.alloc w3 (.cells #[.int .i64 dv] 3));rw [←HOL.out] at h;exact h) (by rw [World.size_alloc];have:=HI3.out.hw.lt;omega) (.slice (some ⟨w3.heap.size,0,none⟩) 1 1) 1 [.int .i64 dv] rfl (by exact Src.ofSlice (size:=1) _ Tryz.underlying27 ⟨w3.heap.size,0,none⟩ 1 1 _ rfl (news_ok w3 _ _) (one_int _)) (by unfold maxLen;omega) (by omega) ?_;rintro v7 w7 hq7 hg7 -;obtain ⟨a8,c8,rfl⟩:=hq7.slice;have H7:=Lib.hid (HI3.out.app dv HOL.out HGW.out hbW hq7 hg7);clear hq7 hg7)
      go_wp2_with fail
      go_roundg (m - (k+1))
      case rel=>exact ⟨k+1,by omega,rfl,by go_num,_,_,_,rfl,HI.out.next HK.out HE.out HX.out hxl HO.out HR.out H7.out.q H7.out.h H7.out.x H7.out.hw⟩
      case measure=>omega
  ·have hlt':decide ((k:Int)<(m:Int))=false:=decide_eq_false (by omega)
   obtain rfl:k=m:=by omega
   have hG:=(show G=(out,r1,false) from RdcI.done (by rw [←HM.out];exact hI))
   have HCC:=Lib.hid (show r.counts line ws n first=(out,if out.length<n then r1.fail (line.length+1) 3 else r1) from by rw [HC.out,hG];rfl)
   have HOL:=Lib.hid hol
   have hlw:IntKind.i64.wrap ((line.length:Int)+1)=(line.length:Int)+1:=IntWalk.i64_in _ (by omega)
   clear hG hI hol lw0 cw0
   by_cases hs:ol<n
   ·have d1:decide ((ol:Int)<(n:Int))=true:=decide_eq_true (by omega)
    have d1':decide (ol<n)=true:=decide_eq_true hs
    have HR:=Lib.hid (show r.counts line ws n first=(out,r1.fail (line.length+1) 3) from by rw [HCC.out,if_pos (by rw [←HOL.out];exact hs)])
    clear hs
    go_wp2_with fail
    go_at_call 36
    refine (rfail_any wr b r1 HI.out.h ((line.length:Int)+1) 3).mono ?_
    rintro e w3 ⟨rfl,hh,hc⟩
    have HHH:=Lib.hid (And.intro hh hc)
    clear hh hc
    go_wp2_with fail
    go_ret
    refine ⟨_,rfl,?_,by rw [HR.out];exact HHH.out.1,HI.out.x.trans HHH.out.2⟩
    rw [HR.out]
    show Que w3 W.heap.size 1 (.slice a9 ol c9) out.length (intCells out)
    have:=(HI.out.q.keepB HHH.out.2 (by omega)).mono (base':=W.heap.size) (by rw [←HGW.out];omega)
    rw [←HOL.out] at this ⊢
    exact this
   ·have d1:decide ((ol:Int)<(n:Int))=false:=decide_eq_false (by omega)
    have d1':decide (ol<n)=false:=decide_eq_false hs
    have HR:=Lib.hid (show r.counts line ws n first=(out,r1) from by rw [HCC.out,if_neg (by rw [←HOL.out];exact hs)])
    clear hs
    go_wp2_with fail
    go_ret
    refine ⟨_,rfl,?_,by rw [HR.out];exact HI.out.h,HI.out.x⟩
    rw [HR.out]
    show Que wr W.heap.size 1 (.slice a9 ol c9) out.length (intCells out)
    have:=HI.out.q.mono (base':=W.heap.size) (by rw [←HGW.out];omega)
    rw [←HOL.out] at this ⊢
    exact this
end Go.Proofs.YtlfdfkbmollaaaaGreatDoor
