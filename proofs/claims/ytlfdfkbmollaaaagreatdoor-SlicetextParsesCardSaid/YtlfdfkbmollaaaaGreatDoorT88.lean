/- Contracts and laws in plain Lean for RApp: group T88. -/
import Derived.Test.YtlfdfkbmollaaaaGreatDoorT76
import Derived.Test.YtlfdfkbmollaaaaGreatDoorT86
import Derived.OwnWalk
import Derived.Test.YtlfdfkbmollaaaaGreatDoorT67
import Derived.Test.YtlfdfkbmollaaaaGreatDoorT79
import Derived.Test.YtlfdfkbmollaaaaGreatDoorT77
import Derived.Test.YtlfdfkbmollaaaaGreatDoorT13
set_option maxRecDepth 100000
namespace Go.Proofs.YtlfdfkbmollaaaaGreatDoor
open Go.RowKit Go.Shelf
attribute [local go_sem] Oper.semAt_some
theorem u8_dig {x:Nat} (h1:48≤x) (h2:x≤57):IntKind.u8.wrap ((x:Int) - 48)=((x - 48:Nat):Int):=by
 have:∀ d:Nat,d<10→IntKind.u8.wrap ((d:Int))=(d:Int):=by decide
 rw [show (x:Int) - 48=((x - 48:Nat):Int) from by omega]
 exact this _ (by omega)
set_option maxHeartbeats 2000000 in
theorem number_any (W : World) (s : ByteArray) (hs : s.size ≤ 1000000) :
    Calls Tryz.prog 98 #[.string s] W fun e w'=>e=.returned (.tuple #[.int .i64 (decI s.data.toList).1,.int .i64 (decI s.data.toList).2])∧W=w':=by
 by_cases h0:0<s.size
 case neg=>
  have d0:=toList_emp s (by omega)
  have HE:=Lib.hid (show decI s.data.toList=(0,3) from decI_zero (Or.inl (List.eq_nil_of_length_eq_zero (by simp [←ByteArray.size_data] at h0 ⊢;simpa using h0))))
  clear h0
  go_enter Tryz.func98,Tryz.ntmps98
  go_wp2_with fail
  go_ret2
  exact ⟨by rw [HE.out];rfl,rfl⟩
 have d0:=toList_nemp s h0
 have d1:=toList_ne48 s
 obtain ⟨l,hl⟩:∃ l,l=s.data.toList:=⟨_,rfl⟩
 have hne:l≠[]:=by rw [hl];exact ne_emp s h0
 have hhd:l.head?=some s[0]:=by obtain ⟨t,e⟩:=headS s h0;rw [hl,e];rfl
 rw [←hl] at d1 ⊢
 have h48:s[0].toNat=48↔s[0]=48:=by rw [←UInt8.toNat_inj];rfl
 by_cases hz:s[0].toNat=48∧l≠[48]
 ·have dz:((s[0].toNat:Int) == 48)=true:=by rw [hz.1];rfl
  have d2:(s.toList == [48])=false:=by rw [d1];simp [hz.2]
  have HE:=Lib.hid (show decI l=(0,3) from decI_zero (Or.inr (Or.inl ⟨by rw [hhd,h48.1 hz.1],hz.2⟩)))
  clear hz hl hne hhd h48 d1
  go_enter Tryz.func98,Tryz.ntmps98
  go_wp2_with fail
  go_ret2
  exact ⟨by rw [HE.out];rfl,rfl⟩
 have hz2:((s[0].toNat:Int) == 48)=false∨(((s[0].toNat:Int) == 48)=true∧(s.toList == [48])=true):=by
  by_cases h1:s[0].toNat=48
  ·refine .inr ⟨by rw [h1];rfl,?_⟩
   rw [d1]
   by_cases h2:l=[48]
   ·simp [h2]
   ·exact absurd ⟨h1,h2⟩ hz
  ·exact .inl (by simpa using fun h2:((s[0].toNat:Nat):Int)=48=>h1 (by omega))
 have HN:=Lib.hid (show l.all digB=true→¬(l=[]∨(l.head?=some 48∧l≠[48])∨l.all digB=false) from fun ha h=>by
  rcases h with h | ⟨h1,h2⟩ | h
  ·exact hne h
  ·rw [hhd] at h1;exact hz ⟨h48.2 (Option.some.inj h1),h2⟩
  ·rw [ha] at h;cases h)
 clear hne hhd h48 hz d1
 have HT:=Lib.hid (show ∀ k (h:k<s.size),(l.take (k+1)).all digB=((l.take k).all digB && digB s[k]) from fun k h=>by rw [hl];exact take_allS digB s k h)
 have HDF:=Lib.hid (show ∀ k (h:k<s.size),decF 0 (l.take (k+1))=decF 0 (l.take k)*10+(s[k].toNat - 48) from fun k h=>by
  have hk:k<s.data.toList.length:=by simpa using h
  have hg:s.data.toList[k]=s[k]:=by simp;rfl
  rw [hl,List.take_succ_eq_append_getElem hk,hg]
  exact decF_app _ 0 _)
 have HF:=Lib.hid (show ∀ k (h:k<s.size),digB s[k]=false→l.all digB=false from fun k h hc=>by rw [hl];exact all_falseS digB s k h hc)
 have HA:=Lib.hid (show l.take s.size=l from by rw [hl];exact take_wholeS s)
 clear hl
 rcases hz2 with dz | ⟨dz,d2⟩
 all_goals
  go_enter Tryz.func98,Tryz.ntmps98
  go_wp2_with fail
  go_loop [4,5] (fun n i=>∃ k v:Nat,k≤s.size∧i=.int .i64 k∧n=.int .i64 v∧(l.take k).all digB=true∧v=min (decF 0 (l.take k)) 1125899906842625) (fun _ i=>s.size - (intOf i).toNat)
  case atStart=>exact ⟨0,0,Nat.zero_le _,rfl,rfl,by simp,by rw [List.take_zero];exact (Nat.zero_min _).symm⟩
  case round=>
   obtain ⟨k,v,hk,rfl,rfl,hall,hv⟩:=hrel
   have HL:=Lib.hid (And.intro hall hv)
   have hvb:v≤1125899906842625:=by rw [hv];exact Nat.min_le_right _ _
   clear hall hv
   by_cases hlt:k<s.size
   ·by_cases hdg:48≤s[k].toNat∧s[k].toNat≤57
    ·have HD:=Lib.hid (show digB s[k]=true from decide_eq_true hdg)
     have HDK:=Lib.hid (HDF.out k hlt)
     obtain ⟨hg1,hg2⟩:=hdg
     have e1:decide ((s[k].toNat:Int)<48)=false:=decide_eq_false (by omega)
     have e2:decide ((57:Int)<(s[k].toNat:Int))=false:=decide_eq_false (by omega)
     have hu8:=u8_dig hg1 hg2
     obtain ⟨d,hd⟩:∃ d,d=s[k].toNat - 48:=⟨_,rfl⟩
     rw [←hd] at hu8 HDK
     have hd9:d≤9:=by omega
     have hw0:IntKind.i64.wrap (d:Int)=(d:Int):=IntWalk.i64_in _ (by omega)
     have hw1:IntKind.i64.wrap (10*(v:Int))=10*(v:Int):=IntWalk.i64_in _ (by omega)
     have hw2:IntKind.i64.wrap (10*(v:Int)+(d:Int))=10*(v:Int)+(d:Int):=IntWalk.i64_in _ (by omega)
     clear hd
     go_wp2_with fail
     go_round
     case rel=>exact ⟨k+1,min (10*v+d) 1125899906842625,by omega,by go_num,by congr 1;omega,by rw [HT.out k hlt,HL.out.1,HD.out];rfl,by have:=HL.out.2;rw [HDK.out];omega⟩
     case measure=>simp [intOf];omega
    ·have HE:=Lib.hid (show decI l=(0,3) from decI_zero (Or.inr (Or.inr (HF.out k hlt (decide_eq_false hdg)))))
     by_cases hg1:s[k].toNat<48
     ·have e1:decide ((s[k].toNat:Int)<48)=true:=decide_eq_true (by omega)
      go_wp2_with fail
      go_ret2
      exact ⟨by rw [HE.out];rfl,rfl⟩
     ·have e1:decide ((s[k].toNat:Int)<48)=false:=decide_eq_false (by omega)
      have e2:decide ((57:Int)<(s[k].toNat:Int))=true:=decide_eq_true (by omega)
      go_wp2_with fail
      go_ret2
      exact ⟨by rw [HE.out];rfl,rfl⟩
   ·obtain rfl:k=s.size:=by omega
    have hall:=HL.out.1
    have hv:=HL.out.2
    rw [HA.out] at hall hv
    have hnz:=HN.out hall
    by_cases hvm:1125899906842624<decF 0 l
    ·have HE:=Lib.hid (show decI l=(0,9) from decI_big hnz hvm)
     have e3:decide ((1125899906842624:Int)<(v:Int))=true:=decide_eq_true (by omega)
     clear hnz hv hall hvm
     go_wp2_with fail
     go_ret2
     exact ⟨by rw [HE.out];rfl,rfl⟩
    ·have HE:=Lib.hid (show decI l=((v:Int),0) from by rw [show v=decF 0 l by omega];exact decI_ok hnz hvm)
     have e3:decide ((1125899906842624:Int)<(v:Int))=false:=decide_eq_false (by omega)
     clear hnz hv hall hvm
     go_wp2_with fail
     go_ret2
     exact ⟨by rw [HE.out];rfl,rfl⟩
theorem ext_take (s:ByteArray) (k:Nat):s.extract 0 k=bts (s.data.toList.take k):=by
 have h:=Lib.extract_from_zero s k
 rw [←h,btsB]
theorem ext_drop (s:ByteArray) (k:Nat):s.extract k s.size=bts (s.data.toList.drop k):=by
 have h:(s.extract k s.size).data.toList=s.data.toList.drop k:=Lib.extract_to_end s k
 rw [←h,btsB]
set_option maxHeartbeats 2000000 in
theorem rnext36_any (W : World) (s : ByteArray) (hs : s.size ≤ 1000000) :
    Calls Tryz.prog 40 #[.string s] W fun e w'=>e=.returned (.tuple #[.string (bts (Lib.cut s.data.toList [10]).1),.string (bts (Lib.cut s.data.toList [10]).2.1),.bool (Lib.cut s.data.toList [10]).2.2])∧Ext W w':=by
 obtain ⟨l,hl⟩:∃ l,l=s.data.toList:=⟨_,rfl⟩
 rw [←hl]
 have hw0:IntKind.i64.wrap ((s.size:Int)+1)=(s.size:Int)+1:=IntWalk.i64_in _ (by omega)
 have HT:=Lib.hid (show ∀ k (h:k<s.size),l.take (k+1)=l.take k++[s[k]] from fun k h=>by
  rw [hl,List.take_succ_eq_append_getElem (by simpa using h)];simp;rfl)
 have HD:=Lib.hid (show ∀ k (h:k<s.size),l=l.take k++s[k] :: l.drop (k+1) from fun k h=>by
  have hk:k<s.data.toList.length:=by simpa using h
  rw [hl]
  conv=>lhs;rw [←List.take_append_drop k s.data.toList,List.drop_eq_getElem_cons hk]
  simp;rfl)
 have HA:=Lib.hid (show l.take s.size=l from by rw [hl];exact take_wholeS s)
 have HB:=Lib.hid (show bts l=s from by rw [hl];exact btsB s)
 have HX:=Lib.hid (show ∀ k,s.extract 0 k=bts (l.take k)∧s.extract k s.size=bts (l.drop k) from fun k=>by rw [hl];exact ⟨ext_take s k,ext_drop s k⟩)
 clear hl
 go_enter Tryz.func40,Tryz.ntmps40
 go_wp2_with fail
 go_loop [5] (fun i=>∃ k:Nat,k≤s.size∧i=.int .i64 k∧(10:UInt8)∉l.take k) (fun i=>s.size - (intOf i).toNat)
 case atStart=>exact ⟨0,Nat.zero_le _,rfl,by simp⟩
 case round=>
  obtain ⟨k,hk,rfl,hno⟩:=hrel
  have HL:=Lib.hid hno
  clear hno
  by_cases hlt:k<s.size
  ·by_cases hc:s[k].toNat=10
   ·have e1:((s[k].toNat:Int) == 10)=true:=by rw [hc];rfl
    have HE:=Lib.hid (show Lib.cut l [10]=(l.take k,l.drop (k+1),true) from by
     have h:=HD.out k hlt
     rw [show s[k]=10 from UInt8.toNat_inj.1 hc] at h
     conv=>lhs;rw [h]
     exact cut_at _ HL.out)
    have hw1:IntKind.i64.wrap ((k:Int)+1)=(k:Int)+1:=IntWalk.i64_in _ (by omega)
    clear hc
    go_upto_region 5 with fail
    go_quiet (fail)
    go_wp2_with fail
    go_ret3
    refine ⟨?_,by first | exact Ext.refl _ | exact (Ext.refl W).drewN _⟩
    rw [HE.out,←(HX.out k).1,←(HX.out (k+1)).2]
    rfl
   ·have e1:((s[k].toNat:Int) == 10)=false:=by simpa using fun h2:((s[k].toNat:Nat):Int)=10=>hc (by omega)
    have HN:=Lib.hid (show (10:UInt8)∉l.take (k+1) from by
     rw [HT.out k hlt]
     simp only [List.mem_append,List.mem_singleton,not_or]
     exact ⟨HL.out,fun e=>hc (by rw [←e];rfl)⟩)
    clear hc
    go_wp2_with fail
    go_round
    case rel=>exact ⟨k+1,by omega,by go_num,HN.out⟩
    case measure=>simp [intOf];omega
  ·obtain rfl:k=s.size:=by omega
   have HE:=Lib.hid (show Lib.cut l [10]=(l,[],false) from cut_no (by have h:=HL.out;rw [HA.out] at h;exact h))
   go_wp2_with fail
   go_ret3
   refine ⟨?_,Ext.refl _⟩
   rw [HE.out,HB.out]
   rfl
end Go.Proofs.YtlfdfkbmollaaaaGreatDoor

namespace Go.Proofs.YtlfdfkbmollaaaaGreatDoor
open Go.RowKit Go.Shelf
attribute [local go_sem] Oper.semAt_some
def colsL:Int→List (List UInt8)→List Int
 | _,[] => []
 | c,w :: ws => c :: colsL (c+((w.length:Int)+1)) ws
theorem colsL_len:∀ (ws:List (List UInt8)) (c:Int),(colsL c ws).length=ws.length
 | [],_ => rfl
 | w :: ws,c => by rw [colsL,List.length_cons,List.length_cons,colsL_len ws]
structure Two (w:World) (base:Nat) (va vb:Value) (d:List (List UInt8)) (cd:List Int):Prop where
 a:Que w base 1 va d.length (strV d)
 b:Que w base 1 vb cd.length (intCells cd)
 n:∀ g,va.ownBlock=some g→vb.ownBlock=some g→False
 la:∀ g,va.ownBlock=some g→g<w.heap.size
 lb:∀ g,vb.ownBlock=some g→g<w.heap.size
theorem Two.ext {w w':World} {base:Nat} {va vb:Value} {d:List (List UInt8)} {cd:List Int} (h:Two w base va vb d cd) (x:Ext w w'):Two w' base va vb d cd:=
 ⟨h.a.ext x,h.b.ext x,h.n,fun g e=>Nat.lt_of_lt_of_le (h.la g e) x.le,fun g e=>Nat.lt_of_lt_of_le (h.lb g e) x.le⟩
theorem Two.nil (w:World) (base:Nat):Two w base (.slice none 0 0) (.slice none 0 0) [] []:=
 ⟨Que.nil _ _ _,Que.nil _ _ _,fun g e=>(by cases e),fun g e=>(by cases e),fun g e=>(by cases e)⟩
theorem Que.ownLt {w:World} {base size n:Nat} {v:Value} {xs:List Value} (h:Que w base size v n xs) (hn:0<n):∀ g,v.ownBlock=some g→g<w.heap.size:=by
 intro g e
 rcases h.val with ⟨_,_,h0,_⟩ | ⟨g',off,cap,rfl,_,h2,_⟩
 ·omega
 ·cases e;exact h2
theorem grown_keep {w w':World} {o:Obj} {row:Option Nat} (hg:(w.alloc o).grownBy w' row) {g:Nat} (hl:g<w.heap.size) (hne:some g≠row):w'.heap[g]?=w.heap[g]?:=
 (hg.block g (by rw [World.size_alloc];omega) hne).trans (Below.heap_alloc w _ g hl)
theorem Two.pushA {w w' : World} {base : Nat} {va vb va' : Value} {d : List (List UInt8)} {cd : List Int} {x : List UInt8} {o : Obj} (h : Two w base va vb d cd) (hq : Que w' base 1 va' (d.length + 1) (strV d ++ [.string (bts x)])) (hg : (w.alloc o).grownBy w' va.ownBlock)
    (ho:va'.ownBlock=va.ownBlock∨va'.ownBlock=some (w.alloc o).heap.size):Two w' base va' vb (d++[x]) cd:=by
 have hs:w.heap.size≤w'.heap.size:=Nat.le_trans (by rw [World.size_alloc];omega) hg.size
 refine ⟨by rw [List.length_append];unfold strV at hq ⊢;rw [List.map_append];exact hq,h.b.same' hs fun g e=>grown_keep hg (h.lb g e) fun k=>h.n g k.symm e,fun g e1 e2=>?_,hq.ownLt (by omega),fun g e=>Nat.lt_of_lt_of_le (h.lb g e) hs⟩
 rcases ho with k | k
 ·exact h.n g (k.symm.trans e1) e2
 ·rw [k] at e1;cases e1
  have:=h.lb _ e2
  rw [World.size_alloc] at this;omega
theorem Two.pushB {w w' : World} {base : Nat} {va vb vb' : Value} {d : List (List UInt8)} {cd : List Int} {x : Int} {o : Obj} (h : Two w base va vb d cd) (hq : Que w' base 1 vb' (cd.length + 1) (intCells cd ++ [.int .i64 x])) (hg : (w.alloc o).grownBy w' vb.ownBlock)
    (ho:vb'.ownBlock=vb.ownBlock∨vb'.ownBlock=some (w.alloc o).heap.size):Two w' base va vb' d (cd++[x]):=by
 have hs:w.heap.size≤w'.heap.size:=Nat.le_trans (by rw [World.size_alloc];omega) hg.size
 refine ⟨h.a.same' hs fun g e=>grown_keep hg (h.la g e) fun k=>h.n g e k.symm,by rw [List.length_append];unfold intCells at hq ⊢;rw [List.map_append];exact hq,fun g e1 e2=>?_,fun g e=>Nat.lt_of_lt_of_le (h.la g e) hs,hq.ownLt (by omega)⟩
 rcases ho with k | k
 ·exact h.n g e1 (k.symm.trans e2)
 ·rw [k] at e2;cases e2
  have:=h.la _ e1
  rw [World.size_alloc] at this;omega
theorem grown_ext {W w w':World} {o:Obj} {row:Option Nat} (x:Ext W w) (hg:(w.alloc o).grownBy w' row) (hb:∀ g,row=some g→W.heap.size≤g):Ext W w':=
 ((x.alloc' o).below).grown hg (by rw [World.size_alloc];have:=x.le;omega) hb
theorem ext_mid (s:ByteArray) (f k:Nat):s.extract f k=bts ((s.data.toList.drop f).take (k - f)):=by
 have e:(s.extract f k).data.toList=(s.data.toList.drop f).take (k - f):=Lib.extract_data s f k
 rw [←e,btsB]
def WordsPost (W:World) (ws:List (List UInt8)) (e:Ending) (w':World):Prop:=∃ va vb,e=.returned (.tuple #[va,vb])∧Two w' W.heap.size va vb ws (colsL 1 ws)∧Ext W w'
structure WdI (l:List UInt8) (n:Nat) (k f:Nat) (d:List (List UInt8)) (cd:List Int):Prop where
 go:k≤n→f≤k∧d++splitC 32 (l.drop f)=splitC 32 l∧cd++colsL ((f:Int)+1) (splitC 32 (l.drop f))=colsL 1 (splitC 32 l)∧(32:UInt8)∉(l.drop f).take (k - f)
 fin:¬k≤n→d=splitC 32 l∧cd=colsL 1 (splitC 32 l)
 dl:d.length≤k
 cl:cd.length=d.length
theorem WdI.start (l:List UInt8) (n:Nat):WdI l n 0 0 [] []:=⟨fun _=>⟨Nat.le_refl _,rfl,rfl,by simp⟩,fun h=>absurd (Nat.zero_le _) h,Nat.le_refl _,rfl⟩
theorem WdI.last {l:List UInt8} {n k f:Nat} {d:List (List UInt8)} {cd:List Int} (h:WdI l n k f d cd) (hk:k=n) (hl:l.length=n):WdI l n (k+1) (k+1) (d++[(l.drop f).take (k - f)]) (cd++[(f:Int)+1]):=by
 obtain ⟨h1,h2,h3,h4⟩:=h.go (by omega)
 have e:(l.drop f).take (k - f)=l.drop f:=List.take_of_length_le (by rw [List.length_drop];omega)
 rw [e] at h4 ⊢
 rw [splitC_no h4] at h2 h3
 exact ⟨fun k=>absurd k (by omega),fun _=>⟨h2,h3⟩,by rw [List.length_append];have:=h.dl;simp;omega,by rw [List.length_append,List.length_append,h.cl];rfl⟩
theorem WdI.cut {l:List UInt8} {n k f:Nat} {d:List (List UInt8)} {cd:List Int} (h:WdI l n k f d cd) (hk:k<n) (hl:l.length=n) (hc:l[k]'(by omega)=32):WdI l n (k+1) (k+1) (d++[(l.drop f).take (k - f)]) (cd++[(f:Int)+1]):=by
 obtain ⟨h1,h2,h3,h4⟩:=h.go (by omega)
 have e:l.drop f=(l.drop f).take (k - f)++32 :: l.drop (k+1):=by
  conv=>lhs;rw [←List.take_append_drop (k - f) (l.drop f)]
  rw [List.drop_drop,show f+(k - f)=k by omega,List.drop_eq_getElem_cons (by omega:k<l.length),hc]
 have hlen:((l.drop f).take (k - f)).length=k - f:=by rw [List.length_take,List.length_drop];omega
 generalize (l.drop f).take (k - f)=x at e h4 hlen ⊢
 rw [e,splitC_at _ h4] at h2 h3
 rw [colsL,hlen] at h3
 refine ⟨fun _=>⟨Nat.le_refl _,by rw [←h2];simp,?_,by simp⟩,fun k=>absurd k (by omega),by rw [List.length_append];have:=h.dl;simp;omega,by rw [List.length_append,List.length_append,h.cl];rfl⟩
 rw [←h3,List.append_assoc,List.singleton_append]
 congr 3
 push_cast
 omega
theorem WdI.skip {l:List UInt8} {n k f:Nat} {d:List (List UInt8)} {cd:List Int} (h:WdI l n k f d cd) (hk:k<n) (hl:l.length=n) (hc:l[k]'(by omega)≠32):WdI l n (k+1) f d cd:=by
 obtain ⟨h1,h2,h3,h4⟩:=h.go (by omega)
 refine ⟨fun _=>⟨by omega,h2,h3,?_⟩,fun k=>absurd k (by omega),by have:=h.dl;omega,h.cl⟩
 have e:(l.drop f).take (k+1 - f)=(l.drop f).take (k - f)++[l[k]'(by omega)]:=by
  rw [show k+1 - f=(k - f)+1 by omega,List.take_succ_eq_append_getElem (by rw [List.length_drop];omega)]
  congr 2
  rw [List.getElem_drop]
  congr 1
  omega
 rw [e]
 simp only [List.mem_append,List.mem_singleton,not_or]
 exact ⟨h4,fun e=>hc e.symm⟩
set_option maxHeartbeats 4000000 in
theorem rwords_any (W : World) (s : ByteArray) (hs : s.size ≤ 1000000) :
    Calls Tryz.prog 96 #[.string s] W (WordsPost W (splitC 32 s.data.toList)):=by
 obtain ⟨i0,hi0,hz0,hz1,hz2⟩:=info_parts infoStr
 obtain ⟨j0,hj0,hy0,hy1,hy2⟩:=info_parts infoInt
 unfold WordsPost
 obtain ⟨l,hl⟩:∃ l,l=s.data.toList:=⟨_,rfl⟩
 have HLL:=Lib.hid (show l.length=s.size from by rw [hl];simp)
 have HX:=Lib.hid (show ∀ f k,f≤k→s.extract f k=bts ((l.drop f).take (k - f)) from fun f k _=>by rw [hl];exact ext_mid s f k)
 have HC:=Lib.hid (show ∀ k (h:k<s.size),l[k]?=some s[k] from fun k h=>by rw [hl,List.getElem?_eq_getElem (by simpa using h)];simp;rfl)
 rw [←hl]
 clear hl
 go_enter Tryz.func96,Tryz.ntmps96
 go_wp2_with fail
 go_loopg [4,5,6,7] (s.size+1) (fun gg v4 v5 v6 v7 wr=>∃ (k f:Nat) (d:List (List UInt8)) (cd:List Int),k≤s.size+1∧gg=s.size+1 - k∧v7=.int .i64 k∧v6=.int .i64 f∧WdI l s.size k f d cd∧Two wr W.heap.size v4 v5 d cd∧Ext W wr)
 case atStart=>exact ⟨0,0,[],[],by omega,rfl,rfl,rfl,WdI.start _ _,Two.nil _ _,Ext.refl _⟩
 case round=>
  obtain ⟨k,f,d,cd,hk,rfl,rfl,rfl,hi,hq,hxr⟩:=hrel
  obtain ⟨a4,c4,rfl⟩:=hq.a.slice
  obtain ⟨a5,c5,rfl⟩:=hq.b.slice
  obtain ⟨dn,hdn⟩:∃ z,z=d.length:=⟨_,rfl⟩
  have HDN:=Lib.hid hdn
  have HCN:=Lib.hid (hi.cl.trans hdn.symm)
  have hdl:dn≤1000001:=by have:=hi.dl;omega
  have HI:=Lib.hid hi
  rw [HCN.out,←hdn] at hq
  have HQ:=Lib.hid hq
  rw [HCN.out,←hdn]
  clear hq hdn
  by_cases hlt:k≤s.size
  ·have hlt':(k:Int)≤(s.size:Int):=by omega
   have hfk:f≤k:=(hi.go hlt).1
   have hw1:IntKind.i64.wrap ((f:Int)+1)=(f:Int)+1:=IntWalk.i64_in _ (by omega)
   have hw2:IntKind.i64.wrap ((k:Int)+1)=(k:Int)+1:=IntWalk.i64_in _ (by omega)
   obtain ⟨x,hx⟩:∃ x,x=(l.drop f).take (k - f):=⟨_,rfl⟩
   have hex:s.extract f k=bts x:=by rw [hx];exact HX.out f k hfk
   by_cases hkn:k=s.size
   ·have d0:((k:Int) == (s.size:Int))=true:=by rw [hkn];simp
    have HN:=Lib.hid (show WdI l s.size (k+1) (k+1) (d++[x]) (cd++[(f:Int)+1]) from by rw [hx];exact HI.out.last hkn HLL.out)
    clear hx hkn hi
    go_upto_region 9 with (at_builtin;refine wpList_append_que _ rfl _ _ 154 154 rfl (base:=W.heap.size) (e:=9) (size:=1) i0 (.string ⟨#[]⟩) 16 Tryz.underlying154 hi0 hz0 hz1 hz2 rfl rfl (v:=.slice a4 dn c4) (n:=dn) (xs:=strV d) (by have h:=(HQ.out.ext (Ext.alloc wr (.cells #[.string (bts x)] 9))).a;rw [←HDN.out] at h;exact h) (by rw [World.size_alloc];have:=hxr.le;omega) (.slice (some ⟨wr.heap.size,0,none⟩) 1 1) 1 [.string (bts x)] rfl (by exact Src.ofSlice (size:=1) _ Tryz.underlying154 ⟨wr.heap.size,0,none⟩ 1 1 _ rfl (news_ok wr _ _) (one_str _)) (by unfold maxLen;omega) (by omega) ?_;rintro v8 w8 hq8 hg8 ho8;have H8:=Lib.hid (show Two w8 W.heap.size v8 (.slice a5 dn c5) (d++[x]) cd from HQ.out.pushA (by rw [←HDN.out];exact hq8) hg8 ho8);have hx8:Ext W w8:=grown_ext hxr hg8 (fun g e=>HQ.out.a.block g e);clear hq8 hg8 ho8)
    go_upto_region 10 with (at_builtin;go_loud (refine wpList_append_que _ rfl _ _ 27 27 rfl (base:=W.heap.size) (e:=3) (size:=1) j0 (.int .i64 0) 8 Tryz.underlying27 hj0 hy0 hy1 hy2 rfl rfl (v:=.slice a5 dn c5) (n:=dn) (xs:=intCells cd) (by have h:=(H8.out.ext (Ext.alloc w8 (.cells #[.int .i64 ((f:Int)+1)] 3))).b;rw [HCN.out] at h;exact h) (by rw [World.size_alloc];have:=hx8.le;omega) (.slice (some ⟨w8.heap.size,0,none⟩) 1 1) 1 [.int .i64 ((f:Int)+1)] rfl (by exact Src.ofSlice (size:=1) _ Tryz.underlying27 ⟨w8.heap.size,0,none⟩ 1 1 _ rfl (news_ok w8 _ _) (one_int _)) (by unfold maxLen;omega) (by omega) ?_;rintro v9 w9 hq9 hg9 ho9;have H9:=Lib.hid (show Two w9 W.heap.size v8 v9 (d++[x]) (cd++[(f:Int)+1]) from H8.out.pushB (by rw [HCN.out];exact hq9) hg9 ho9);have hx9:Ext W w9:=grown_ext hx8 hg9 (fun g e=>H8.out.b.block g e);clear hq9 hg9 ho9))
    go_wp2_with fail
    go_roundg (s.size+1 - (k+1))
    case rel=>exact ⟨k+1,k+1,_,_,by omega,rfl,by go_num,by go_num,HN.out,H9.out,hx9⟩
    case measure=>omega
   ·have d0:((k:Int) == (s.size:Int))=false:=by simpa using fun h:((k:Nat):Int)=(s.size:Int)=>hkn (by omega)
    have hks:k<s.size:=by omega
    have hgl:l[k]'(by rw [HLL.out];exact hks)=s[k]:=by
     have h:=HC.out k hks
     rw [List.getElem?_eq_getElem (by rw [HLL.out];exact hks)] at h
     exact Option.some.inj h
    by_cases hc:s[k].toNat=32
    ·have e1:((s[k].toNat:Int) == 32)=true:=by rw [hc];rfl
     have HN:=Lib.hid (show WdI l s.size (k+1) (k+1) (d++[x]) (cd++[(f:Int)+1]) from by rw [hx];exact HI.out.cut hks HLL.out (by rw [hgl];exact UInt8.toNat_inj.1 hc))
     clear hx hkn hi hc hgl
     go_upto_region 9 with (at_builtin;refine wpList_append_que _ rfl _ _ 154 154 rfl (base:=W.heap.size) (e:=9) (size:=1) i0 (.string ⟨#[]⟩) 16 Tryz.underlying154 hi0 hz0 hz1 hz2 rfl rfl (v:=.slice a4 dn c4) (n:=dn) (xs:=strV d) (by have h:=(HQ.out.ext (Ext.alloc wr (.cells #[.string (bts x)] 9))).a;rw [←HDN.out] at h;exact h) (by rw [World.size_alloc];have:=hxr.le;omega) (.slice (some ⟨wr.heap.size,0,none⟩) 1 1) 1 [.string (bts x)] rfl (by exact Src.ofSlice (size:=1) _ Tryz.underlying154 ⟨wr.heap.size,0,none⟩ 1 1 _ rfl (news_ok wr _ _) (one_str _)) (by unfold maxLen;omega) (by omega) ?_;rintro v8 w8 hq8 hg8 ho8;have H8:=Lib.hid (show Two w8 W.heap.size v8 (.slice a5 dn c5) (d++[x]) cd from HQ.out.pushA (by rw [←HDN.out];exact hq8) hg8 ho8);have hx8:Ext W w8:=grown_ext hxr hg8 (fun g e=>HQ.out.a.block g e);clear hq8 hg8 ho8)
     go_upto_region 10 with (at_builtin;go_loud (refine wpList_append_que _ rfl _ _ 27 27 rfl (base:=W.heap.size) (e:=3) (size:=1) j0 (.int .i64 0) 8 Tryz.underlying27 hj0 hy0 hy1 hy2 rfl rfl (v:=.slice a5 dn c5) (n:=dn) (xs:=intCells cd) (by have h:=(H8.out.ext (Ext.alloc w8 (.cells #[.int .i64 ((f:Int)+1)] 3))).b;rw [HCN.out] at h;exact h) (by rw [World.size_alloc];have:=hx8.le;omega) (.slice (some ⟨w8.heap.size,0,none⟩) 1 1) 1 [.int .i64 ((f:Int)+1)] rfl (by exact Src.ofSlice (size:=1) _ Tryz.underlying27 ⟨w8.heap.size,0,none⟩ 1 1 _ rfl (news_ok w8 _ _) (one_int _)) (by unfold maxLen;omega) (by omega) ?_;rintro v9 w9 hq9 hg9 ho9;have H9:=Lib.hid (show Two w9 W.heap.size v8 v9 (d++[x]) (cd++[(f:Int)+1]) from H8.out.pushB (by rw [HCN.out];exact hq9) hg9 ho9);have hx9:Ext W w9:=grown_ext hx8 hg9 (fun g e=>H8.out.b.block g e);clear hq9 hg9 ho9))
     go_wp2_with fail
     go_roundg (s.size+1 - (k+1))
     case rel=>exact ⟨k+1,k+1,_,_,by omega,rfl,by go_num,by go_num,HN.out,H9.out,hx9⟩
     case measure=>omega
    ·have e1:((s[k].toNat:Int) == 32)=false:=by simpa using fun h2:((s[k].toNat:Nat):Int)=32=>hc (by omega)
     have HN:=Lib.hid (show WdI l s.size (k+1) f d cd from HI.out.skip hks HLL.out (by rw [hgl];exact fun e=>hc (by rw [e];rfl)))
     clear hx hex hkn hi hc hgl
     go_wp2_with fail
     go_roundg (s.size+1 - (k+1))
     case rel=>exact ⟨k+1,f,d,cd,by omega,rfl,by go_num,rfl,HN.out,HQ.out,hxr⟩
     case measure=>omega
  ·have hlt':decide (k≤s.size)=false:=decide_eq_false hlt
   have HF:=Lib.hid (hi.fin hlt)
   clear hi hlt
   go_wp2_with fail
   go_ret2
   refine ⟨_,_,rfl,?_,hxr⟩
   show Two wr W.heap.size (.slice a4 dn c4) (.slice a5 dn c5) (splitC 32 l) (colsL 1 (splitC 32 l))
   rw [←HF.out.2,←HF.out.1]
   exact HQ.out
end Go.Proofs.YtlfdfkbmollaaaaGreatDoor

namespace Go.Proofs.YtlfdfkbmollaaaaGreatDoor
open Go.RowKit Go.Shelf
attribute [local go_sem] Oper.semAt_some
theorem nameB_of {s:ByteArray} (h:nameS s.data.toList=true):nameB s=true:=by
 have hl:s.data.toList.length=s.size:=by simp
 have hL:∀ d:UInt8,letB d=letterB d.toNat:=fun d=>by
  unfold letterB letB
  rw [Bool.eq_iff_iff]
  simp only [Bool.or_eq_true,Bool.and_eq_true,decide_eq_true_eq]
  omega
 have hD:∀ d:UInt8,digB d=digitB d.toNat:=fun d=>by
  unfold digitB digB
  rw [Bool.eq_iff_iff]
  simp only [Bool.and_eq_true,decide_eq_true_eq]
  omega
 unfold nameB
 rw [←hl]
 generalize s.data.toList=l at h ⊢
 cases l with
 | nil => cases h
 | cons c t =>
  simp only [nameS,Bool.and_eq_true,decide_eq_true_eq] at h
  obtain ⟨⟨h1,h2⟩,h3⟩:=h
  simp only [Bool.and_eq_true,decide_eq_true_eq,List.headD_cons,List.length_cons]
  refine ⟨⟨⟨by omega,h3⟩,by rw [←hL];exact h1⟩,?_⟩
  rw [List.all_cons,Bool.and_eq_true]
  refine ⟨by unfold nameC;rw [←hL,h1];rfl,List.all_eq_true.2 fun d hd=>?_⟩
  have:=List.all_eq_true.1 h2 d hd
  unfold nameC
  rw [←hL,←hD]
  simp only [Bool.or_eq_true,decide_eq_true_eq,beq_iff_eq] at this ⊢
  rcases this with (k | k) | k
  ·exact .inl (.inl k)
  ·exact .inr (by rw [k];rfl)
  ·exact .inl (.inr k)
theorem nameSB (s:ByteArray):nameS s.data.toList=nameB s:=by
 rw [Bool.eq_iff_iff];exact ⟨nameB_of,nameS_of⟩
set_option maxHeartbeats 2000000 in
theorem named_any (W : World) (T : TM) (hT : T.At W) (s : ByteArray) (hs : s.size ≤ 1000000) (p : Nat) (x : Int) (hp : p < T.n) (hN : (T.name p).size ≤ 1000) (h0 : 0 ≤ x) (h1 : x ≤ 1000) :
    Calls Tryz.prog 97 #[T.val,.string s,.agg #[.int .i64 (p:Int),.int .i64 x]] W fun e w'=>e=.returned (.int .i64 (titleE s.data.toList (evN T.toTr ((p:Int),x))))∧Ext W w':=by
 have HNM:=Lib.hid (fun w (x':Ext W w)=>rname20_any w T (hT.ext x') p x hp hN h0 h1)
 obtain ⟨nm,hnm⟩:∃ nm,nm=evN T.toTr ((p:Int),x):=⟨_,rfl⟩
 rw [←hnm] at HNM ⊢
 simp only [TM.val] at HNM ⊢
 obtain ⟨l,hl⟩:∃ l,l=s.data.toList:=⟨_,rfl⟩
 rw [←hl]
 have HT:=Lib.hid (show ∀ k (h:k<s.size),l.take (k+1)=l.take k++[s[k]] from fun k h=>by
  rw [hl,List.take_succ_eq_append_getElem (by simpa using h)];simp;rfl)
 have HD:=Lib.hid (show ∀ k (h:k<s.size),l=l.take k++s[k] :: l.drop (k+1) from fun k h=>by
  have hk:k<s.data.toList.length:=by simpa using h
  rw [hl]
  conv=>lhs;rw [←List.take_append_drop k s.data.toList,List.drop_eq_getElem_cons hk]
  simp;rfl)
 have HA:=Lib.hid (show l.take s.size=l from by rw [hl];exact take_wholeS s)
 have HLL:=Lib.hid (show l.length=s.size from by rw [hl];simp)
 have HX:=Lib.hid (show ∀ k,s.extract 0 k=bts (l.take k)∧s.extract k s.size=bts (l.drop k) from fun k=>by rw [hl];exact ⟨ext_take s k,ext_drop s k⟩)
 have HEQ:=Lib.hid (show (s.toList != (bts nm).toList)=decide (l≠nm) from by rw [←bts_bne,hl,btsB])
 clear hl hnm hT hN
 go_enter Tryz.func97,Tryz.ntmps97
 go_upto_region 1 with fail
 refine boxed2 (w:=W) (G:=fun x=>Code.wp _ _ _ _ x) ?_
 intro w1 hx1 hs1 ⟨l0,c0,_,_⟩ ⟨l1,c1,_,_⟩
 have hx11:Ext w1 w1:=Ext.refl _
 clear hs1
 go_wp2_with fail
 go_loop [7] (fun i=>∃ k:Nat,k≤s.size∧i=.int .i64 k∧(46:UInt8)∉l.take k) (fun i=>s.size - (intOf i).toNat)
 case atStart=>exact ⟨0,Nat.zero_le _,rfl,by simp⟩
 case round=>
  obtain ⟨k,hk,rfl,hno⟩:=hrel
  have HL:=Lib.hid hno
  clear hno
  by_cases hlt:k<s.size
  ·by_cases hc:s[k].toNat=46
   ·have e1:((s[k].toNat:Int) != 46)=false:=by rw [hc];rfl
    have e2:((k:Int) == (s.size:Int))=false:=by simpa using fun h:((k:Nat):Int)=(s.size:Int)=>by omega
    have hcut:Lib.cut l [46]=(l.take k,l.drop (k+1),true):=by
     have h:=HD.out k hlt
     rw [show s[k]=46 from UInt8.toNat_inj.1 hc] at h
     conv=>lhs;rw [h]
     exact cut_at _ HL.out
    have hw1:IntKind.i64.wrap ((k:Int)+1)=(k:Int)+1:=IntWalk.i64_in _ (by omega)
    have f1:=(HX.out k).1
    have f2:=(HX.out (k+1)).2
    have hz1:(bts (l.take k)).size≤1000000:=by rw [bts_size,List.length_take];omega
    have hz2:(bts (l.drop (k+1))).size≤1000000:=by rw [bts_size,List.length_drop];have:=HLL.out;omega
    have HRN:=Lib.hid (fun w=>rname_any (bts (l.take k)) w (by omega))
    have HNU:=Lib.hid (fun w=>number_any w (bts (l.drop (k+1))) hz2)
    rw [show (bts (l.drop (k+1))).data.toList=l.drop (k+1) from rfl] at HNU
    obtain ⟨de,hde⟩:∃ de,de=(decI (l.drop (k+1))).2:=⟨_,rfl⟩
    obtain ⟨dv,hdv⟩:∃ dv,dv=(decI (l.drop (k+1))).1:=⟨_,rfl⟩
    rw [←hde,←hdv] at HNU
    have HTI:=Lib.hid (show titleE l nm=if nameB (bts (l.take k))=false then 3 else if de≠0 then de else if l≠nm then 11 else 0 from by
     unfold titleE
     rw [hcut]
     dsimp only
     rw [←nameSB,show (bts (l.take k)).data.toList=l.take k from rfl,hde]
     simp)
    obtain ⟨nb,hnb⟩:∃ nb,nb=nameB (bts (l.take k)):=⟨_,rfl⟩
    rw [←hnb] at HTI HRN
    clear hc hcut hde hdv hnb
    cases nb with
    | false =>
     have HE:=Lib.hid (show titleE l nm=3 from by rw [HTI.out,if_pos rfl])
     go_wp2_with (first | (go_at_call 141;refine (HRN.out w1).mono ?_;rintro e w2 ⟨rfl,rfl⟩))
     go_ret
     exact ⟨by rw [HE.out] <;> rfl,hx1⟩
    | true =>
     have hti:titleE l nm=if de≠0 then de else if l≠nm then 11 else 0:=by rw [HTI.out,if_neg (by decide)]
     by_cases hd0:de=0
     case neg=>
      have e3:(de != 0)=true:=by simpa using hd0
      have HE:=Lib.hid (show titleE l nm=de from by rw [hti,if_pos hd0])
      clear hd0 hti
      go_wp2_with (first | (go_at_call 98;refine (HNU.out w1).mono ?_;rintro e w2 ⟨rfl,rfl⟩) | (go_at_call 141;refine (HRN.out w1).mono ?_;rintro e w2 ⟨rfl,rfl⟩))
      go_ret
      exact ⟨by rw [HE.out] <;> rfl,hx1⟩
     have e3:(de != 0)=false:=by simp [hd0]
     by_cases hln:l=nm
     ·have e4:(s.toList != (bts nm).toList)=false:=by rw [HEQ.out];simp [hln]
      have e5:(s.toList == (bts nm).toList)=true:=by simpa using e4
      have HE:=Lib.hid (show titleE l nm=0 from by rw [hti,if_neg (by simp [hd0]),if_neg (by simp [hln])])
      clear hd0 hti hln
      go_wp2_with (first | (go_at_call 74;refine (HNM.out w1 hx1).mono ?_;rintro e w3 ⟨rfl,hx3⟩) | (go_at_call 98;refine (HNU.out w1).mono ?_;rintro e w2 ⟨rfl,rfl⟩) | (go_at_call 141;refine (HRN.out w1).mono ?_;rintro e w2 ⟨rfl,rfl⟩))
      go_ret
      exact ⟨by rw [HE.out] <;> rfl,hx1.trans hx3⟩
     ·have e4:(s.toList != (bts nm).toList)=true:=by rw [HEQ.out];simp [hln]
      have e5:(s.toList == (bts nm).toList)=false:=by simpa using e4
      have HE:=Lib.hid (show titleE l nm=11 from by rw [hti,if_neg (by simp [hd0]),if_pos hln])
      clear hd0 hti hln
      go_wp2_with (first | (go_at_call 74;refine (HNM.out w1 hx1).mono ?_;rintro e w3 ⟨rfl,hx3⟩) | (go_at_call 98;refine (HNU.out w1).mono ?_;rintro e w2 ⟨rfl,rfl⟩) | (go_at_call 141;refine (HRN.out w1).mono ?_;rintro e w2 ⟨rfl,rfl⟩))
      go_ret
      exact ⟨by rw [HE.out] <;> rfl,hx1.trans hx3⟩
   ·have e1:((s[k].toNat:Int) != 46)=true:=by simpa using fun h2:((s[k].toNat:Nat):Int)=46=>hc (by omega)
    have HN:=Lib.hid (show (46:UInt8)∉l.take (k+1) from by
     rw [HT.out k hlt]
     simp only [List.mem_append,List.mem_singleton,not_or]
     exact ⟨HL.out,fun e=>hc (by rw [←e];rfl)⟩)
    clear hc
    go_wp2_with fail
    go_round
    case rel=>exact ⟨k+1,by omega,by go_num,HN.out⟩
    case measure=>simp [intOf];omega
  ·obtain rfl:k=s.size:=by omega
   have HE:=Lib.hid (show titleE l nm=3 from by
    unfold titleE
    rw [cut_no (by have h:=HL.out;rw [HA.out] at h;exact h)]
    exact if_pos (.inl rfl))
   go_wp2_with fail
   go_ret
   exact ⟨by rw [HE.out] <;> rfl,hx1⟩
end Go.Proofs.YtlfdfkbmollaaaaGreatDoor
