/- Contracts and laws in plain Lean for SPos: group Us. -/
import Derived.Test.YtnknkkmdbnaglaaGreatUq
import Derived.Test.YtnknkkmdbnaglaaGreatUm
import Derived.Deep.LoopGhost
import Derived.Laws.BitsLemmas
set_option maxRecDepth 100000
namespace Go.Proofs.YtnknkkmdbnaglaaGreat
open Go.RowKit Go.Shelf
theorem one_int (x:Int):∀ u∈[Value.int .i64 x],u.oneCell'=true:=by
 intro u hu
 simp at hu
 subst hu;rfl
theorem IntRow.congr {w:World} {g n:Nat} {f f':Nat→Int} (h:IntRow w g n f) (e:∀ k,k<n→f' k=f k):IntRow w g n f':=⟨fun k hk=>by rw [e k hk];exact h.c k hk,h.fr,h.lt⟩
theorem setw1 {w:World} {p:Addr} {v:Value} {G:World→Prop} (h:∀ w7,w7=w.setCell p v→G w7):G (w.setCell p v):=h _ rfl
def natInts (q:List Nat):List Int:=List.map Int.ofNat q
structure RchI (N:Netw) (s:Nat) (l:Nat→Int) (gB:Nat) (w:World) (by_:Nat→Int) (q:List Nat) (rk:Nat→Nat) (qv:Value) (wr:World):Prop where
 row:IntRow wr gB N.n by_
 que:Que wr (gB+1) 1 qv q.length (intCells (natInts q))
 bfs:N.Bfs s l by_ q rk
 hx:Ext w wr
theorem RchI.ext {N:Netw} {s:Nat} {l:Nat→Int} {gB:Nat} {w:World} {by_:Nat→Int} {q:List Nat} {rk:Nat→Nat} {qv:Value} {wr w':World} (h:RchI N s l gB w by_ q rk qv wr) (x:Ext wr w'):RchI N s l gB w by_ q rk qv w':=
 ⟨h.row.ext x,h.que.ext x,h.bfs,h.hx.trans x⟩
theorem natInts_snoc (q:List Nat) (v:Nat):intCells (natInts (q++[v]))=intCells (natInts q)++[.int .i64 (v:Int)]:=by simp [intCells,natInts]
theorem natInts_get {q:List Nat} {i v:Nat} (h:q[i]?=some v):(intCells (natInts q))[i]?=some (.int .i64 (v:Int)):=by simp [intCells,natInts,h]
theorem Que.cells1 {w : World} {base : Nat} {v : Value} {n : Nat} {xs : List Value} (h : Que w base 1 v n xs) :
    ∃ a g off cap,v=.slice a n cap∧n≤cap∧(0<n→a=some ⟨g,off,none⟩∧base≤g∧g<w.heap.size)∧∀ k,k<n→w.cell? ⟨g,off+k,none⟩=xs[k]?:=by
 rcases h.val with ⟨ao,hv,h0,ha⟩ | ⟨g,off,cap,hv,h1,h2,h3,h4,h5,h6⟩
 ·exact ⟨ao,0,0,0,by rw [hv,h0],by omega,fun h=>by omega,fun k hk=>by omega⟩
 ·exact ⟨_,g,off,cap,hv,h3,fun _=>⟨rfl,h1,h2⟩,fun k hk=>h5 k (by omega)⟩
theorem intCells_at {l:List Int} {i:Nat} {x:Int} (h:l[i]?=some x):(intCells l)[i]?=some (.int .i64 x):=by simp [intCells,h]
def ReachPost (N:Netw) (s:Nat) (l:Nat→Int) (w:World) (e:Ending) (w':World):Prop:=Ext w w'∧∃ (g:Nat) (by_:Nat→Int) (rk:Nat→Nat),e=.returned (.slice (some ⟨g,0,none⟩) N.n N.n)∧IntRow w' g N.n by_∧w.heap.size≤g∧N.Tree s l by_ rk∧∀ v,v<N.n→(by_ v≠-1↔N.Reach s (flowOf l) v)
set_option maxHeartbeats 4000000 in
theorem reach_any (w : World) (R : RsA) (base : Nat) (N : Netw) (l : Nat → Int) (hR : R.At base N l w) (hn : N.n ≤ 512) (hm : N.m ≤ 2000) (hOk : N.Ok) (hRes : N.Res l) (s : Nat) (hs : s < N.n) :
    Calls Tryz.prog 169 #[.pointer (some ⟨R.rb,0,none⟩),.int .i64 s] w (ReachPost N s l w):=by
 obtain ⟨j0,hj0,hy0,hy1,hy2⟩:=info_parts infoInt
 have HR:=Lib.hid (fun W (h:Ext w W)=>hR.ext h)
 have HOK:=Lib.hid hOk
 have HRS:=Lib.hid hRes
 obtain ⟨n,hnn⟩:∃ n,n=N.n:=⟨_,rfl⟩
 obtain ⟨m,hmm⟩:∃ m,m=N.m:=⟨_,rfl⟩
 have HN:=Lib.hid (And.intro hnn hmm)
 rw [←hnn] at hn hs
 rw [←hmm] at hm
 have hr:∀ w',Ext w w'→w'.cell? ⟨R.rb,0,none⟩=some (.slice R.aa (2*m) R.ac):=fun w' h=>by rw [hmm];exact hR.hr.box.cell w' h 0
 have hr1:∀ w',Ext w w'→w'.cell? ⟨R.rb,1,none⟩=some (.slice (some ⟨R.lb,0,none⟩) n n):=fun w' h=>by rw [hnn];exact hR.hr.box.cell w' h 1
 have hrl:∀ w',Ext w w'→R.rb<w'.heap.size:=fun w' h=>hR.hr.box.lt w' h
 have hlb:∀ w',Ext w w'→R.lb<w'.heap.size:=fun w' h=>Nat.lt_of_lt_of_le hR.lv.lt h.le
 have hww:Ext w w:=Ext.refl _
 unfold ReachPost
 rw [←hnn]
 clear hR hOk hRes hnn hmm
 go_enter Tryz.func169,Tryz.ntmps169
 go_upto_region 2 with (at_make;refine wpList_make_full _ rfl _ _ 28 rfl w.heap.size 3 j0 (.int .i64 0) 1 Tryz.underlying28 hj0 hy0 hy1 .i64 .i64 _ _ n rfl rfl rfl rfl (by rw [hy2];omega) (by unfold maxLen;omega) (Nat.le_refl _) ?_;intro w1 hown1 hg1)
 have hx1:Ext w w1:=(Below.refl _ _).grown hg1 (Nat.le_refl _) (by simp)
 have HI1:=Lib.hid (IntRow.made hown1)
 clear hown1 hg1
 obtain ⟨gB,hgB⟩:∃ g,g=w.heap.size:=⟨_,rfl⟩
 rw [←hgB] at HI1 ⊢
 have HGB:=Lib.hid hgB
 clear hgB
 go_wp2_with fail
 go_loopg [20] n (fun gg v wr=>∃ k:Nat,k≤n∧gg=n - k∧v=.int .i64 k∧IntRow wr gB n (fun j=>if j<k then -1 else 0)∧Ext w wr)
 case atStart=>exact ⟨0,by omega,rfl,rfl,HI1.out.congr fun k _=>if_neg (by omega),hx1⟩
 case round=>
  obtain ⟨k,hk,rfl,rfl,hI,hxr⟩:=hrel
  have HI:=Lib.hid hI
  by_cases hlt:k<n
  ·have hlt':(k:Int)<(n:Int):=by omega
   have c1:=hI.c k hlt
   have f1:=hI.fr k
   have l1:=hI.lt
   clear hI
   go_wp2_with fail
   go_roundg (n - (k+1))
   case rel=>exact ⟨k+1,by omega,rfl,by go_num,(HI.out.set k (-1)).congr fun j hj=>by
    by_cases e:j=k
    ·subst e;simp
    ·rw [if_neg e]
     by_cases e2:j<k
     ·rw [if_pos e2,if_pos (by omega)]
     ·rw [if_neg e2,if_neg (by omega)],hxr.setCell (by show w.heap.size≤gB;have:=HGB.out;omega) _⟩
   case measure=>omega
  ·have hke:k=n:=by omega
   subst hke
   have c1:=hI.c s hs
   have f1:=hI.fr s
   have l1:=hI.lt
   have hs':(s:Int)<(k:Int):=by omega
   clear hI
   go_upto_region 8 with fail
   refine setw1 (G:=fun x=>Code.wp _ _ _ _ x) ?_
   intro w2 hw2
   have hx2:Ext w w2:=by rw [hw2];exact hxr.setCell (by show w.heap.size≤gB;have:=HGB.out;omega) _
   have HI2:=Lib.hid (show IntRow w2 gB k (fun v=>if v=s then -2 else -1) from by
    rw [hw2];exact (HI.out.set s (-2)).congr fun j hj=>by
     by_cases e:j=s
     ·subst e;rw [if_pos rfl,if_pos rfl]
     ·rw [if_neg e,if_neg e,if_pos hj])
   clear hw2 c1 f1 l1
   go_upto_region 9 with (at_make;refine wpList_make_own _ rfl _ _ 28 rfl (gB+1) 3 j0 (.int .i64 0) 1 Tryz.underlying28 hj0 hy0 hy1 .i64 .i64 _ k rfl rfl rfl (by rw [hy2];omega) (by unfold maxLen;omega) (by have:=HI2.out.lt;omega) ?_;intro w3 hown3 hg3)
   have hx23:Ext w2 w3:=(Below.refl _ _).grown hg3 (Nat.le_refl _) (by simp)
   have hx3:=hx2.trans hx23
   have HQ3:=Lib.hid (Que.own hown3)
   have HI3:=Lib.hid (HI2.out.ext hx23)
   clear hown3 hg3
   generalize w2.heap.size=g2 at HQ3 ⊢
   go_upto_region 10 with (at_builtin;refine wpList_append_que _ rfl _ _ 28 28 rfl (base:=gB+1) (e:=3) (size:=1) j0 (.int .i64 0) 8 Tryz.underlying28 hj0 hy0 hy1 hy2 rfl rfl (v:=.slice (some ⟨g2,0,none⟩) 0 k) (n:=0) (xs:=[]) (by exact HQ3.out.ext (Ext.alloc _ _)) (by rw [World.size_alloc];have:=HI3.out.lt;omega) _ 1 [.int .i64 s] rfl (by exact Src.ofSlice _ Tryz.underlying28 ⟨w3.heap.size,0,none⟩ 1 1 _ rfl (news_ok w3 _ _) (by intro u hu;simp at hu;subst hu;rfl)) (by unfold maxLen;omega) (by omega) ?_;rintro v4 w4 hq4 hg4 -;obtain ⟨a4,cp4,rfl⟩:=hq4.slice)
   have hx4:Ext w w4:=(hx3.alloc' _).below.grown hg4 (by rw [World.size_alloc];have:=hx3.le;omega) (fun g e=>by have:=HQ3.out.block g e;have:=HGB.out;omega)
   have HJ:=Lib.hid (show RchI N s l gB w (fun v=>if v=s then -2 else -1) [s] (fun _=>0) (.slice a4 1 cp4) w4 from
    ⟨by rw [←HN.out.1];exact (HI3.out.ext (Ext.alloc _ _)).block (hg4.block gB (by rw [World.size_alloc];have:=HI3.out.lt;omega) (fun e=>by have:=HQ3.out.block gB e.symm;omega)) hg4.size,hq4,Netw.Bfs.start l (by rw [←HN.out.1];exact hs),hx4⟩)
   clear hq4 hg4
   go_wp2_with fail
   go_loopg [7,8] k (fun gg v7 v8 wr=>∃ (at_:Nat) (by_:Nat→Int) (q:List Nat) (rk:Nat→Nat),at_≤q.length∧gg=k - at_∧v8=.int .i64 at_∧RchI N s l gB w by_ q rk v7 wr∧N.Gone l R.rows q at_ 0)
   case atStart=>exact ⟨0,_,_,_,by simp,rfl,rfl,HJ.out,Netw.Gone.start N l R.rows [s]⟩
   case round=>
    obtain ⟨at_,by1,q,rk,hat,rfl,rfl,hJ1,hG1⟩:=hrel
    have hql:q.length≤k:=by have:=hJ1.bfs.len;have:=HN.out.1;omega
    have HJ1:=Lib.hid hJ1
    have HG1:=Lib.hid hG1
    obtain ⟨a7,g7,o7,c7,hv7,hc7,ha7,hq7⟩:=hJ1.que.cells1
    subst hv7
    have hx1r:=hJ1.hx
    clear hG1 HJ HI2 HI3 HQ3
    by_cases hlt:at_<q.length
    ·obtain ⟨v,hv⟩:∃ v,q[at_]?=some v:=⟨_,List.getElem?_eq_getElem hlt⟩
     obtain ⟨rfl,hg7,hg7'⟩:=ha7 (by omega)
     have hvn:v<k:=by have:=hJ1.bfs.lt v (List.mem_of_getElem? hv);have:=HN.out.1;omega
     clear hJ1
     have hcq:∀ w',Ext wr w'→w'.cell? ⟨g7,o7+at_,none⟩=some (.int .i64 (v:Int)):=fun w' x=>x.cell ((hq7 at_ hlt).trans (natInts_get hv))
     have hlq:∀ w',Ext wr w'→g7<w'.heap.size:=fun w' x=>Nat.lt_of_lt_of_le hg7' x.le
     have hat':(at_:Int)<(q.length:Int):=by omega
     have hvk:(v:Int)<(k:Int):=by omega
     clear hq7 hg7'
     obtain ⟨ra,rg,ro,rc,hrv,hrc,hra,hrq⟩:=(Que.own ((HR.out w hww).lv.own v (by have:=HN.out.1;omega))).cells1
     obtain ⟨len,hlen⟩:∃ n,n=(R.rows v).length:=⟨_,rfl⟩
     rw [←hlen] at hrv hrc hra hrq
     have HLEN:=Lib.hid hlen
     have hlen2:len≤1000000:=by rw [hlen];exact (HR.out w hww).lv.len v (by have:=HN.out.1;omega)
     have hlv:∀ w',Ext w w'→w'.cell? ⟨R.lb,v,none⟩=some (.slice ra len rc):=fun w' x=>by rw [←hrv];exact (HR.out w' x).lv.cell v (by have:=HN.out.1;omega)
     have HRQ:=Lib.hid (fun (r kk:Nat) (h:(R.rows v)[r]?=some (kk:Int)) (hl:r<len) w' (x:Ext w w')=>x.cell ((hrq r hl).trans (intCells_at h)))
     clear hrq hrv hlen
     have hrr:Ext wr wr:=Ext.refl _
     go_upto_region 13 with fail
     go_quiet (fail)
     go_wp2_with fail
     go_loopg [7,57] len (fun gg v7 v57 wr=>∃ (r:Nat) (by_:Nat→Int) (q2:List Nat) (rk2:Nat→Nat),r≤len∧gg=len - r∧v57=.int .i64 r∧RchI N s l gB w by_ q2 rk2 v7 wr∧N.Gone l R.rows q2 at_ r∧q2[at_]?=some v)
     case atStart=>exact ⟨0,by1,q,rk,by omega,rfl,rfl,HJ1.out.ext ((Ext.refl _).drewN _),HG1.out,hv⟩
     case round=>
      obtain ⟨r,by2,q2,rk2,hrl,rfl,rfl,hJ2,hG2,hv2⟩:=hrel
      have hql2:q2.length≤k:=by have:=hJ2.bfs.len;have:=HN.out.1;omega
      have hat2:at_<q2.length:=by
       refine Nat.lt_of_not_le fun hle=>?_
       rw [List.getElem?_eq_none hle] at hv2;cases hv2
      have HJ2:=Lib.hid hJ2
      have HG2:=Lib.hid hG2
      have HV2:=Lib.hid hv2
      have hxi:=hJ2.hx
      obtain ⟨a8,c8,hv8⟩:=hJ2.que.slice
      subst hv8
      clear hcq hlq HJ1 HG1 hG2 hv2 hv hrr hx1r hlt hat'
      by_cases hlt2:r<len
      ·obtain ⟨kk, hk1, hk2, hk3⟩ : ∃ kk : Nat, (R.rows v)[r]? = some (kk : Int) ∧ kk < 2 * N.m ∧ N.fr kk = v := by
         have hl3:r<(R.rows v).length:=by rw [←HLEN.out];exact hlt2
         obtain ⟨kk,e1,e2,e3⟩:=(HR.out w hww).rw_.arc v r hl3
         exact ⟨kk,by rw [List.getElem?_eq_getElem hl3,e1],e2,e3⟩
       obtain ⟨rfl,hrg,hrg'⟩:=hra (by omega)
       have hcr:=HRQ.out r kk hk1 hlt2
       have hlr:∀ w',Ext w w'→rg<w'.heap.size:=fun w' x=>Nat.lt_of_lt_of_le hrg' x.le
       have haa:=(HR.out w hww).aa (by omega)
       have hr':∀ w',Ext w w'→w'.cell? ⟨R.rb,0,none⟩=some (.slice (some ⟨R.ag,R.ao,none⟩) (2*m) R.ac):=fun w' x=>by rw [←haa];exact hr w' x
       have hag:∀ w',Ext w w'→R.ag<w'.heap.size:=fun w' x=>(HR.out w' x).ag (by omega)
       obtain ⟨t,ht⟩:∃ t,t=N.to kk:=⟨_,rfl⟩
       obtain ⟨lk,hlk⟩:∃ x,x=l kk:=⟨_,rfl⟩
       have htc:∀ w',Ext w w'→w'.cell? ⟨R.ag,R.ao+kk*2,none⟩=some (.int .i64 (t:Int)):=fun w' x=>by rw [ht];exact (HR.out w' x).tc kk hk2
       have hlf:∀ w',Ext w w'→w'.cell? ⟨R.ag,R.ao+kk*2+1,none⟩=some (.int .i64 lk):=fun w' x=>by rw [hlk];exact (HR.out w' x).lf kk hk2
       have htn:t<k:=by rw [ht];have:=HOK.out.to hk2;have:=HN.out.1;omega
       have HKK:=Lib.hid (And.intro hk1 (And.intro hk2 (And.intro hk3 (And.intro ht hlk))))
       have hk2':(kk:Int)<2*(m:Int):=by have:=HN.out.2;omega
       have hk4:kk<4000:=by have:=HN.out.2;omega
       have hrl':(r:Int)<(len:Int):=by omega
       have htk:(t:Int)<(k:Int):=by omega
       clear hr haa hk1 hk3 ht hlk hra hJ2 hk2
       have hii:Ext wr wr:=Ext.refl _
       go_upto_region 17 with fail
       refine boxed1 (w:=wr) (G:=fun x=>Code.wp _ _ _ _ x) ?_
       intro w5 hx5 hs5 ⟨l5,c5,f5,k5⟩
       have hx55:Ext w5 w5:=Ext.refl _
       have HB5:=Lib.hid (show gB<wr.heap.size from HJ2.out.row.lt)
       have HI5:=Lib.hid (HJ2.out.ext hx5)
       obtain ⟨bt,hbt⟩:∃ x,x=by2 t:=⟨_,rfl⟩
       have cb:∀ w',Ext w5 w'→w'.cell? ⟨gB,t,none⟩=some (.int .i64 bt):=fun w' x=>by rw [hbt];exact x.cell (HI5.out.row.c t (by rw [←HN.out.1] at *;exact htn))
       have lb5:∀ w',Ext w5 w'→gB<w'.heap.size:=fun w' x=>Nat.lt_of_lt_of_le HI5.out.row.lt x.le
       have cf:∀ w',Ext w5 w'→w'.frozen? ⟨gB,t,none⟩=false:=fun w' x=>(x.frozen (p:=⟨gB,t,none⟩) HI5.out.row.lt).trans (HI5.out.row.fr t)
       have HBT:=Lib.hid hbt
       clear hbt
       by_cases hpos:0<lk
       ·have d1:decide (0<lk)=true:=decide_eq_true hpos
        by_cases hn:bt=-1
        ·have d2:(bt == -1)=true:=by simpa using hn
         go_upto_region 19 with fail
         refine setw1 (G:=fun x=>Code.wp _ _ _ _ x) ?_
         intro w6 hw6
         have hgx:w.heap.size≤gB:=by have:=HGB.out;omega
         have hx6:Ext w w6:=by rw [hw6];exact HI5.out.hx.setCell hgx _
         have HI6:=Lib.hid (show IntRow w6 gB N.n (fun j=>if j=t then (kk:Int) else by2 j) from by rw [hw6];exact HI5.out.row.set t kk)
         have HQ6:=Lib.hid (show Que w6 (gB+1) 1 (.slice a8 q2.length c8) q2.length (intCells (natInts q2)) from by
          rw [hw6];exact HI5.out.que.same (by rw [World.size_setCell];exact Nat.le_refl _) fun g hg _=>Below.heap_setCell _ _ _ _ (by show g≠gB;omega))
         have hk6:Hold w6 wr.heap.size #[.int .i64 (t:Int),.int .i64 lk]:=by
          rw [hw6];exact Hold.other k5 _ _ (by show wr.heap.size≠gB;have:=HB5.out;have:=HGB.out;omega)
         clear hw6 l5 c5 f5 k5 cb cf lb5 hx55
         obtain ⟨l6,c6,f6,_⟩:=hk6.box
         have hx66:Ext w6 w6:=Ext.refl _
         go_upto_region 20 with (at_builtin;refine wpList_append_que _ rfl _ _ 28 28 rfl (base:=gB+1) (e:=3) (size:=1) j0 (.int .i64 0) 8 Tryz.underlying28 hj0 hy0 hy1 hy2 rfl rfl (v:=.slice a8 q2.length c8) (n:=q2.length) (xs:=intCells (natInts q2)) (by exact HQ6.out.ext (Ext.alloc _ _)) (by rw [World.size_alloc];have:=HI6.out.lt;omega) (.slice (some ⟨w6.heap.size,0,none⟩) 1 1) 1 [.int .i64 (t:Int)] rfl (by exact Src.ofSlice (size:=1) _ Tryz.underlying28 ⟨w6.heap.size,0,none⟩ 1 1 _ rfl (news_ok w6 _ _) (one_int _)) (by unfold maxLen;omega) (by omega) ?_;rintro v7 w7 hq7 hg7 -;obtain ⟨a9,c9,rfl⟩:=hq7.slice)
         have hx7:Ext w w7:=(hx6.alloc' _).below.grown hg7 (by rw [World.size_alloc];have:=hx6.le;omega) (fun g e=>by have:=HQ6.out.block g e;omega)
         have hfq:N.fr kk∈q2:=by rw [HKK.out.2.2.1];exact List.mem_of_getElem? HV2.out
         have HJ7:=Lib.hid (show RchI N s l gB w (fun j=>if j=N.to kk then (kk:Int) else by2 j) (q2++[N.to kk]) (fun j=>if j=N.to kk then q2.length else rk2 j) (.slice a9 (q2.length+1) c9) w7 from
          ⟨by rw [←HKK.out.2.2.2.1];exact (HI6.out.ext (Ext.alloc _ _)).block (hg7.block gB (by rw [World.size_alloc];have:=HI6.out.lt;omega) (fun e=>by have:=HQ6.out.block gB e.symm;omega)) hg7.size,
           by rw [natInts_snoc,List.length_append,←HKK.out.2.2.2.1];exact hq7,
           HI5.out.bfs.step HKK.out.2.1 (by rw [←HKK.out.2.2.2.2];exact hpos) hfq (by rw [←HKK.out.2.2.2.1,←HN.out.1];exact htn) (by rw [←HKK.out.2.2.2.1,←HBT.out];exact hn),hx7⟩)
         have HG7:=Lib.hid (show N.Gone l R.rows (q2++[N.to kk]) at_ (r+1) from (HG2.out.grow hat2 _).step (by rw [List.getElem?_append_left hat2];exact HV2.out) fun hi _=>by
          have e:((R.rows v)[r]).toNat=kk:=by have:=HKK.out.1;rw [List.getElem?_eq_getElem hi] at this;simp at this;rw [this];rfl
          rw [e];exact List.mem_append.2 (.inr (by simp)))
         clear hq7 hg7 l6 c6 f6 hx66
         go_wp2_with fail
         go_roundg (len - (r+1))
         case rel=>exact ⟨r+1,_,q2++[N.to kk],_,by omega,rfl,by go_num,HJ7.out,HG7.out,by rw [List.getElem?_append_left hat2];exact HV2.out⟩
         case measure=>omega
        ·have d2:(bt == -1)=false:=by simpa using hn
         go_wp2_with fail
         go_roundg (len - (r+1))
         case rel=>exact ⟨r+1,by2,q2,rk2,by omega,rfl,by go_num,HI5.out,HG2.out.step HV2.out fun hi _=>by
          have e:((R.rows v)[r]).toNat=kk:=by have:=HKK.out.1;rw [List.getElem?_eq_getElem hi] at this;simp at this;rw [this];rfl
          rw [e]
          refine (HI5.out.bfs.mem (by rw [←HKK.out.2.2.2.1,←HN.out.1];exact htn)).2 ?_
          rw [←HKK.out.2.2.2.1,←HBT.out];exact hn,HV2.out⟩
         case measure=>omega
       ·have d1:decide (0<lk)=false:=decide_eq_false hpos
        go_wp2_with fail
        go_roundg (len - (r+1))
        case rel=>exact ⟨r+1,by2,q2,rk2,by omega,rfl,by go_num,HI5.out,HG2.out.step HV2.out fun hi hl=>by
         have e:((R.rows v)[r]).toNat=kk:=by have:=HKK.out.1;rw [List.getElem?_eq_getElem hi] at this;simp at this;rw [this];rfl
         rw [e,←HKK.out.2.2.2.2] at hl
         exact absurd hl (by omega),HV2.out⟩
        case measure=>omega
      ·have hre:r=len:=by omega
       subst hre
       have HG3:=Lib.hid (show N.Gone l R.rows q2 (at_+1) 0 from Netw.Gone.next (by rw [←HLEN.out];exact HG2.out) HV2.out)
       go_wp2_with fail
       go_roundg (k - (at_+1))
       case rel=>exact ⟨at_+1,by2,q2,rk2,by omega,rfl,by go_num,HJ2.out,HG3.out⟩
       case measure=>omega
    ·have hae:at_=q.length:=by omega
     have HP:=Lib.hid (show ReachPost N s l w (.returned (.slice (some ⟨gB,0,none⟩) k k)) wr from by
      have hall:=HJ1.out.bfs.all HRS.out (HR.out w hww).rw_ (hae▸HG1.out)
      refine ⟨HJ1.out.hx,gB,by1,rk,by rw [HN.out.1],HJ1.out.row,by rw [←HGB.out];exact Nat.le_refl _,HJ1.out.bfs.tree,fun v hv=>?_⟩
      rw [←HJ1.out.bfs.mem hv];exact hall v)
     go_wp2_with fail
     go_ret
     have hp:=HP.out
     unfold ReachPost at hp
     rw [←HN.out.1] at hp
     exact hp
theorem xor_one_nat (k:Nat):k ^^^ 1=arcP k:=by
 have h1:(k ^^^ 1) / 2=k / 2:=by rw [Nat.xor_div_two];simp
 have h2:=Nat.xor_mod_two_eq_one (a:=k) (b:=1)
 have h4:(k ^^^ 1) % 2=1↔¬(k % 2=1):=by rw [h2];simp
 unfold arcP
 split <;> omega
theorem bits_arcP (k:Nat) (hk:k<1000000):bits .xor .i64 (k:Int) 1=((arcP k:Nat):Int):=by
 show IntKind.i64.wrap ((BitVec.ofInt 64 (k:Int) ^^^ BitVec.ofInt 64 1).toNat:Int)=_
 have h1:(BitVec.ofInt 64 1).toNat=1:=by decide
 have h2:(BitVec.ofInt 64 (k:Int)).toNat=k:=by
  rw [BitVec.ofInt_natCast,BitVec.toNat_ofNat];exact Nat.mod_eq_of_lt (by omega)
 rw [BitVec.toNat_xor,h1,h2,xor_one_nat,IntKind.wrap_i64]
 have:arcP k<1000002:=by unfold arcP;split <;> omega
 omega
theorem Netw.Res.le {N:Netw} {l:Nat→Int} (h:N.Res l) (hc:∀ i,i<N.m→N.cap i≤1125899906842624) {k:Nat} (hk:k<2*N.m):0≤l k∧l k≤1125899906842624:=by
 refine ⟨h.pos k hk,?_⟩
 rcases even_odd k with ⟨i,rfl⟩ | ⟨i,rfl⟩
 ·have h1:=h.sum i (by omega)
  have h2:=h.pos (2*i+1) (by omega)
  have h3:=hc i (by omega)
  omega
 ·have h1:=h.sum i (by omega)
  have h2:=h.pos (2*i) (by omega)
  have h3:=hc i (by omega)
  omega
theorem sndA_two (l:Nat→Int) (k:Nat) (d:Int):(fun j=>if j=arcP k then l (arcP k)+d else if j=k then l k - d else l j)=sndA l k d:=by
 funext j
 unfold sndA
 have hne:=arcP_ne k
 by_cases e:j=k
 ·subst e;rw [if_neg (fun e=>hne e.symm),if_pos rfl,if_pos rfl]
 ·rw [if_neg e,if_neg e]
  by_cases e2:j=arcP k
  ·rw [if_pos e2,if_pos e2,e2]
  ·rw [if_neg e2,if_neg e2]
theorem setdw {w:World} {p:Addr} {v:Value} {G:World→Prop} (h:∀ w7,w7=(w.setCell p v).drew→G w7):G (w.setCell p v).drew:=h _ rfl
def PushPost (R:RsA) (base:Nat) (N:Netw) (s t:Nat) (val:Int) (w:World) (e:Ending) (w':World):Prop:=
 ∃ (d:Int) (l':Nat→Int),e=.returned (.int .i64 d)∧1≤d∧R.At base N l' w'∧N.ResF s t l' (val+d)∧Below base w w'
set_option maxHeartbeats 4000000 in
theorem push_any (w : World) (R : RsA) (base : Nat) (N : Netw) (l : Nat → Int) (hR : R.At base N l w) (hm : N.m ≤ 2000) (hcap : ∀ i, i < N.m → N.cap i ≤ 1125899906842624) (s t : Nat) (ht : t < N.n) (hst : s ≠ t)
    (val:Int) (hF:N.ResF s t l val) (gB:Nat) (by_:Nat→Int) (rk:Nat→Nat) (hI:IntRow w gB N.n by_) (hgB:0<N.m→gB≠R.ag) (hT:N.Tree s l by_ rk) (hb:by_ t≠-1) :
    Calls Tryz.prog 170 #[.pointer (some ⟨R.rb,0,none⟩),.slice (some ⟨gB,0,none⟩) N.n N.n,.int .i64 t] w (PushPost R base N s t val w):=by
 have HR:=Lib.hid hR
 have HI:=Lib.hid hI
 have HF:=Lib.hid hF
 have HT:=Lib.hid hT
 have HB:=Lib.hid hb
 have HC:=Lib.hid hcap
 have HG:=Lib.hid hgB
 obtain ⟨k0,hk0,hkm,_⟩:=hT.arc t ht (fun e=>hst e.symm) hb
 have h0m:0<N.m:=by omega
 have haa:=hR.aa h0m
 obtain ⟨n,hnn⟩:∃ n,n=N.n:=⟨_,rfl⟩
 obtain ⟨m,hmm⟩:∃ m,m=N.m:=⟨_,rfl⟩
 have HN:=Lib.hid (And.intro hnn hmm)
 have HK0:=Lib.hid (And.intro hk0 hst)
 have hr0:∀ w',Ext w w'→w'.cell? ⟨R.rb,0,none⟩=some (.slice (some ⟨R.ag,R.ao,none⟩) (2*m) R.ac):=fun w' h=>by rw [hmm,←haa];exact hR.hr.box.cell w' h 0
 have hrl:∀ w',Ext w w'→R.rb<w'.heap.size:=fun w' h=>hR.hr.box.lt w' h
 have hag:∀ w',Ext w w'→R.ag<w'.heap.size:=fun w' h=>Nat.lt_of_lt_of_le (hR.ag h0m) h.le
 have hgl:∀ w',Ext w w'→gB<w'.heap.size:=fun w' h=>Nat.lt_of_lt_of_le hI.lt h.le
 have hww:Ext w w:=Ext.refl _
 have HBS:=Lib.hid (show base≤w.heap.size from by have:=hR.b1;have:=hR.hr.lt;omega)
 unfold PushPost
 rw [←hnn] at ht ⊢
 rw [←hmm] at hm h0m
 have HT0:=Lib.hid ht
 have HH0:=Lib.hid h0m
 clear hR hI hF hT hb hcap hgB hk0 hkm hst hnn hmm haa
 go_enter Tryz.func170,Tryz.ntmps170
 go_wp2_with fail
 go_loopg [7,8,9] (rk t+1) (fun gg v7 v8 v9 wr=>∃ (i x:Nat) (mo:Int),N.Steps by_ t i∧x=N.pt by_ t i∧gg=rk t+1 - i∧v8=.int .i64 x∧v7=.int .i64 mo∧Ext w wr∧((i=0∧mo=-1)∨(0<i∧1≤mo∧∀ j,j<i→mo≤l (by_ (N.pt by_ t j)).toNat)))
 case atStart=>exact ⟨0,t,-1,fun j hj=>by omega,rfl,by omega,rfl,rfl,Ext.refl _,.inl ⟨rfl,rfl⟩⟩
 case round=>
  obtain ⟨i,x,mo,hS,hx,rfl,rfl,rfl,hxr,hmo⟩:=hrel
  obtain ⟨hxn,hxb,hxk⟩:=HT.out.pt_ok (by have:=HT0.out;have:=HN.out.1;omega) HB.out i hS
  rw [←hx] at hxn hxb hxk
  have hxn':(x:Int)<(n:Int):=by have:=HN.out.1;omega
  have HS:=Lib.hid hS
  have HX:=Lib.hid hx
  have HMO:=Lib.hid hmo
  by_cases h0:0≤by_ x
  ·obtain ⟨kk,e1,e2,e3,e4,e5,e6,e7⟩:=HT.out.pt_arc (by have:=HT0.out;have:=HN.out.1;omega) HB.out hS (by rw [←hx];exact h0)
   rw [←hx] at e1 e3
   have hcb:∀ w',Ext w w'→w'.cell? ⟨gB,x,none⟩=some (.int .i64 (kk:Int)):=fun w' h=>by rw [←e1];exact h.cell (HI.out.c x hxn)
   obtain ⟨lk,hlk⟩:∃ z,z=l kk:=⟨_,rfl⟩
   have hcl:∀ w',Ext w w'→w'.cell? ⟨R.ag,R.ao+kk*2+1,none⟩=some (.int .i64 lk):=fun w' h=>by rw [hlk];exact h.cell (HR.out.lf kk e2)
   obtain ⟨f,hf⟩:∃ z,z=N.fr kk:=⟨_,rfl⟩
   obtain ⟨kp,hkp⟩:∃ z,z=arcP kk:=⟨_,rfl⟩
   have hkpl:kp<2*N.m:=by rw [hkp];exact arcP_lt e2
   have hct:∀ w',Ext w w'→w'.cell? ⟨R.ag,R.ao+kp*2,none⟩=some (.int .i64 (f:Int)):=fun w' h=>by rw [hf,hkp];exact h.cell (HR.out.tc _ (arcP_lt e2))
   have hx1:bits .xor .i64 (kk:Int) 1=(kp:Int):=by rw [hkp];exact bits_arcP kk (by have:=HN.out.2;omega)
   have hk1:(kk:Int)<2*(m:Int):=by have:=HN.out.2;omega
   have hk2:(kp:Int)<2*(m:Int):=by have:=HN.out.2;omega
   have hk3:kk<4000:=by have:=HN.out.2;omega
   have hk4:kp<4000:=by have:=HN.out.2;omega
   have hrr:Ext wr wr:=Ext.refl _
   have hl1:1≤lk:=by rw [hlk];omega
   have HST:=Lib.hid (show N.Steps by_ t (i+1) from hS.succ (by rw [←hx];exact h0))
   have HFX:=Lib.hid (show f=N.pt by_ t (i+1) from by rw [e6];exact hf)
   have HRK:=Lib.hid (show i+1≤rk t from by have:=(HT.out.pt_ok (by have:=HT0.out;have:=HN.out.1;omega) HB.out (i+1) HST.out).2.2;omega)
   have HLK:=Lib.hid (show lk=l (by_ (N.pt by_ t i)).toNat from by rw [←HX.out,e1];exact hlk)
   clear hx hS e1 e2 e3 e4 e5 e6 e7 hlk hf hkp hkpl h0 hxb hxk hxn hmo
   by_cases hi0:i=0
   ·have hm1 : mo = -1 := by
      rcases HMO.out with ⟨_,h⟩ | ⟨h,_⟩
      ·exact h
      ·omega
    subst hm1
    have HM:=Lib.hid (show 1≤lk∧∀ j,j<i+1→lk≤l (by_ (N.pt by_ t j)).toNat from ⟨hl1,fun j hj=>by
     obtain rfl:j=i:=by omega
     rw [HLK.out];exact Int.le_refl _⟩)
    go_upto_region 5 with fail
    go_quiet (fail)
    go_upto_region 4 with fail
    go_quiet (fail)
    go_wp2_with fail
    go_roundg (rk t+1 - (i+1))
    case rel=>exact ⟨i+1,f,lk,HST.out,HFX.out,rfl,rfl,rfl,hxr.trans (by first | exact ((Ext.refl _).drewN _).drewN _ | exact (Ext.refl _).drewN _),.inr ⟨by omega,HM.out⟩⟩
    case measure=>have:=HRK.out;omega
   ·have hm1 : 1 ≤ mo := by
      rcases HMO.out with ⟨h,_⟩ | ⟨_,h,_⟩
      ·omega
      ·exact h
    have d1:decide (mo<0)=false:=decide_eq_false (by omega)
    by_cases hlt:lk<mo
    ·have d2:decide (lk<mo)=true:=decide_eq_true hlt
     have HM:=Lib.hid (show 1≤lk∧∀ j,j<i+1→lk≤l (by_ (N.pt by_ t j)).toNat from ⟨hl1,fun j hj=>by
      by_cases e:j=i
      ·subst e;rw [HLK.out];exact Int.le_refl _
      ·rcases HMO.out with ⟨h,_⟩ | ⟨_,_,h⟩
       ·omega
       ·have:=h j (by omega);omega⟩)
     go_upto_region 5 with fail
     go_quiet (fail)
     go_upto_region 4 with fail
     go_quiet (fail)
     go_wp2_with fail
     go_roundg (rk t+1 - (i+1))
     case rel=>exact ⟨i+1,f,lk,HST.out,HFX.out,rfl,rfl,rfl,hxr.trans (by first | exact ((Ext.refl _).drewN _).drewN _ | exact (Ext.refl _).drewN _),.inr ⟨by omega,HM.out⟩⟩
     case measure=>have:=HRK.out;omega
    ·have d2:decide (lk<mo)=false:=decide_eq_false hlt
     have HM:=Lib.hid (show 1≤mo∧∀ j,j<i+1→mo≤l (by_ (N.pt by_ t j)).toNat from ⟨hm1,fun j hj=>by
      by_cases e:j=i
      ·subst e;rw [←HLK.out];omega
      ·rcases HMO.out with ⟨h,_⟩ | ⟨_,_,h⟩
       ·omega
       ·exact h j (by omega)⟩)
     go_upto_region 5 with fail
     go_quiet (fail)
     go_upto_region 4 with fail
     go_quiet (fail)
     go_wp2_with fail
     go_roundg (rk t+1 - (i+1))
     case rel=>exact ⟨i+1,f,mo,HST.out,HFX.out,rfl,rfl,rfl,hxr.trans (by first | exact ((Ext.refl _).drewN _).drewN _ | exact (Ext.refl _).drewN _),.inr ⟨by omega,HM.out⟩⟩
     case measure=>have:=HRK.out;omega
  ·obtain ⟨bx,hbx⟩:∃ z,z=by_ x:=⟨_,rfl⟩
   have hcb:∀ w',Ext w w'→w'.cell? ⟨gB,x,none⟩=some (.int .i64 bx):=fun w' h=>by rw [hbx];exact h.cell (HI.out.c x hxn)
   have d0:decide (0≤bx)=false:=decide_eq_false (by rw [hbx];exact h0)
   have HEND:=Lib.hid (show by_ (N.pt by_ t i)<0 from by rw [←hx];omega)
   -- the path has an arc
   have HI0:=Lib.hid (show 0<i from by
    refine Nat.pos_of_ne_zero fun e=>?_
    subst e
    have h1:=HK0.out.1
    have h2:=HEND.out
    have h3:N.pt by_ t 0=t:=rfl
    rw [h3,h1] at h2;omega)
   have HM:=Lib.hid (show 1≤mo∧∀ j,j<i→mo≤l (by_ (N.pt by_ t j)).toNat from by
    rcases HMO.out with ⟨h,_⟩ | ⟨_,h⟩
    ·have:=HI0.out;omega
    ·exact h)
   have HR1:=Lib.hid (HR.out.ext hxr)
   have HI1:=Lib.hid (HI.out.ext hxr)
   have HXR:=Lib.hid hxr
   obtain ⟨nI,hnI⟩:∃ z,z=i:=⟨_,rfl⟩
   rw [←hnI] at HEND HI0 HM
   have hmb:1≤mo∧mo≤1125899906842624:=⟨HM.out.1,by
    have h1:=HM.out.2 0 HI0.out
    have h2:N.pt by_ t 0=t:=rfl
    rw [h2,HK0.out.1] at h1
    obtain ⟨k1,a1,a2,_⟩:=HT.out.arc t (by have:=HT0.out;have:=HN.out.1;omega) (fun e=>HK0.out.2 e.symm) HB.out
    have a3:k1=k0:=by have:=HK0.out.1;omega
    have h3:=(HF.out.res.le HC.out (k:=k0) (by omega)).2
    have h4:((k0:Int)).toNat=k0:=rfl
    rw [h4] at h1;omega⟩
   clear hmo hS hx hbx h0 hxb hxk hxn hnI HMO HS HX HR HI
   go_upto_region 8 with fail
   go_wp2_with fail
   go_loopg [10] (rk t+1) (fun gg v10 wr=>∃ (i x:Nat) (l2:Nat→Int),N.Steps by_ t i∧x=N.pt by_ t i∧gg=rk t+1 - i∧v10=.int .i64 x∧R.At base N l2 wr∧IntRow wr gB N.n by_∧N.Push s t l by_ rk mo x l2∧Below base w wr)
   case atStart=>exact ⟨0,t,l,fun j hj=>by omega,rfl,by omega,rfl,HR1.out,HI1.out,Netw.Push.start HF.out.res by_ rk mo,Below.mono HXR.out HBS.out⟩
   case round=>
    obtain ⟨i,x,l2,hS,hx,rfl,rfl,hR2,hI2,hP2,hx2⟩:=hrel
    obtain ⟨hxn,hxb,hxk⟩:=HT.out.pt_ok (by have:=HT0.out;have:=HN.out.1;omega) HB.out i hS
    rw [←hx] at hxn hxb hxk
    have hxn':(x:Int)<(n:Int):=by have:=HN.out.1;omega
    have HS:=Lib.hid hS
    have HX:=Lib.hid hx
    have HR2:=Lib.hid hR2
    have HI2:=Lib.hid hI2
    have HP2:=Lib.hid hP2
    have HX2:=Lib.hid hx2
    have hii:Ext wr wr:=Ext.refl _
    have hr2:∀ w',Ext wr w'→w'.cell? ⟨R.rb,0,none⟩=some (.slice (some ⟨R.ag,R.ao,none⟩) (2*m) R.ac):=fun w' h=>by rw [HN.out.2,←HR2.out.aa (by have:=HH0.out;have:=HN.out.2;omega)];exact HR2.out.hr.box.cell w' h 0
    have hrl2:∀ w',Ext wr w'→R.rb<w'.heap.size:=fun w' h=>HR2.out.hr.box.lt w' h
    have hag2:∀ w',Ext wr w'→R.ag<w'.heap.size:=fun w' h=>Nat.lt_of_lt_of_le (HR2.out.ag (by have:=HH0.out;have:=HN.out.2;omega)) h.le
    have hgl2:∀ w',Ext wr w'→gB<w'.heap.size:=fun w' h=>Nat.lt_of_lt_of_le HI2.out.lt h.le
    clear hr0 hrl hag hgl hR2 hI2 hx2 hww
    by_cases h0:0≤by_ x
    ·obtain ⟨kk,e1,e2,e3,e4,e5,e6,e7⟩:=HT.out.pt_arc (by have:=HT0.out;have:=HN.out.1;omega) HB.out hS (by rw [←hx];exact h0)
     rw [←hx] at e1 e3 e7
     have hcb:∀ w',Ext wr w'→w'.cell? ⟨gB,x,none⟩=some (.int .i64 (kk:Int)):=fun w' h=>by rw [←e1];exact h.cell (HI2.out.c x hxn)
     obtain ⟨lk,hlk⟩:∃ z,z=l2 kk:=⟨_,rfl⟩
     have hcl:∀ w',Ext wr w'→w'.cell? ⟨R.ag,R.ao+kk*2+1,none⟩=some (.int .i64 lk):=fun w' h=>by rw [hlk];exact h.cell (HR2.out.lf kk e2)
     have hfz:∀ w',Ext wr w'→w'.frozen? ⟨R.ag,R.ao+kk*2+1,none⟩=false:=fun w' h=>(h.frozen (p:=⟨R.ag,R.ao+kk*2+1,none⟩) (HR2.out.ag (by omega))).trans (HR2.out.fr kk e2)
     obtain ⟨f,hf⟩:∃ z,z=N.fr kk:=⟨_,rfl⟩
     obtain ⟨kp,hkp⟩:∃ z,z=arcP kk:=⟨_,rfl⟩
     have hkpl:kp<2*N.m:=by rw [hkp];exact arcP_lt e2
     have hx1:bits .xor .i64 (kk:Int) 1=(kp:Int):=by rw [hkp];exact bits_arcP kk (by have:=HN.out.2;omega)
     have hk1:(kk:Int)<2*(m:Int):=by have:=HN.out.2;omega
     have hk2:(kp:Int)<2*(m:Int):=by have:=HN.out.2;omega
     have hk3:kk<4000:=by have:=HN.out.2;omega
     have hk4:kp<4000:=by have:=HN.out.2;omega
     have hST:N.Steps by_ t (i+1):=hS.succ (by rw [←hx];exact h0)
     have hin:i<nI:=by
      refine Nat.lt_of_not_le fun hle=>?_
      have h1:=hST nI (by omega)
      have h2:=HEND.out
      omega
     have hdk:mo≤l kk:=by
      have h1:=HM.out.2 i hin
      rw [←hx,e1] at h1;exact h1
     have hb1:=hP2.res.le HC.out e2
     have hb2:=hP2.res.le HC.out hkpl
     have hb3:=hP2.more x kk hxn (Nat.le_refl _) e1
     rw [←hlk] at hb1 hb3
     have hw1:IntKind.i64.wrap (lk - mo)=lk - mo:=IntWalk.i64_in _ (by omega)
     obtain ⟨lp,hlp⟩:∃ z,z=l2 kp:=⟨_,rfl⟩
     rw [←hlp] at hb2
     have hw2:IntKind.i64.wrap (lp+mo)=lp+mo:=IntWalk.i64_in _ (by omega)
     have HP3:=Lib.hid (show N.Push s t l by_ rk mo f (sndA l2 kk mo) from by rw [hf];exact Netw.Push.step HT.out hP2 hxn e1 (by omega) hdk e2 e3 e7)
     have HSA:=Lib.hid (show (fun j=>if j=kp then lp+mo else if j=kk then lk - mo else l2 j)=sndA l2 kk mo from by rw [hlk,hlp,hkp];exact sndA_two l2 kk mo)
     have HST:=Lib.hid hST
     have HFX:=Lib.hid (show f=N.pt by_ t (i+1) from by rw [e6];exact hf)
     have HRK:=Lib.hid (show i+1≤rk t from by have:=(HT.out.pt_ok (by have:=HT0.out;have:=HN.out.1;omega) HB.out (i+1) hST).2.2;omega)
     have HK:=Lib.hid (And.intro e2 (And.intro hkpl (And.intro (show kp≠kk from by rw [hkp];exact arcP_ne kk) (And.intro hf (And.intro hkp (And.intro hlp (And.intro e1 hxn)))))))
     have HGA:=Lib.hid (HG.out (by omega))
     clear hP2 hS hx e1 e2 e3 e4 e5 e6 e7 hlk hf hkp hkpl h0 hxb hxk hxn hST hdk hb3 hlp HM hin
     go_upto_region 11 with fail
     refine wp_region_reads 15 (by kernel_rfl) (by kernel_rfl) ?_
     simp only [List.take_succ_cons,List.take_zero]
     repeat still_step
     refine wpStill_nil ?_
     refine wpAny_ready (rs:=[15]) (by kernel_rfl) (by simp) ?_
     refine AllReady.cons rfl (fun K hK=>?_) AllReady.nil
     go_simp
     refine hK _ _ ?_;clear hK K
     refine wpAny_done (by kernel_rfl) ?_ _
     go_upto_region 12 with fail
     refine setdw (w:=wr) (G:=fun x=>Code.wp _ _ _ _ x) ?_
     intro w5 hw5
     have hx5:Ext w5 w5:=Ext.refl _
     have HR5:=Lib.hid (show R.At base N (fun j=>if j=kk then lk - mo else l2 j) w5 from by rw [hw5];exact (HR2.out.set HK.out.1 _).ext (Ext.refl _).drew)
     have HI5:=Lib.hid (show IntRow w5 gB N.n by_ from by rw [hw5];exact (HI2.out.other _ _ HGA.out).ext (Ext.refl _).drew)
     have HX5:=Lib.hid (show Below base w w5 from by
      rw [hw5];exact (HX2.out.setCell (HR2.out.b2 (by have:=HK.out.1;omega)) _).drew)
     clear hw5 hr2 hrl2 hag2 hgl2 hcb hcl hfz
     have hr2:∀ w',Ext w5 w'→w'.cell? ⟨R.rb,0,none⟩=some (.slice (some ⟨R.ag,R.ao,none⟩) (2*m) R.ac):=fun w' h=>by rw [HN.out.2,←HR5.out.aa (by have:=HH0.out;have:=HN.out.2;omega)];exact HR5.out.hr.box.cell w' h 0
     have hrl2:∀ w',Ext w5 w'→R.rb<w'.heap.size:=fun w' h=>HR5.out.hr.box.lt w' h
     have hag2:∀ w',Ext w5 w'→R.ag<w'.heap.size:=fun w' h=>Nat.lt_of_lt_of_le (HR5.out.ag (by have:=HH0.out;have:=HN.out.2;omega)) h.le
     have hgl2:∀ w',Ext w5 w'→gB<w'.heap.size:=fun w' h=>Nat.lt_of_lt_of_le HI5.out.lt h.le
     have hcb:∀ w',Ext w5 w'→w'.cell? ⟨gB,x,none⟩=some (.int .i64 (kk:Int)):=fun w' h=>by rw [←HK.out.2.2.2.2.2.2.1];exact h.cell (HI5.out.c x HK.out.2.2.2.2.2.2.2)
     have hcl:∀ w',Ext w5 w'→w'.cell? ⟨R.ag,R.ao+kp*2+1,none⟩=some (.int .i64 lp):=fun w' h=>by
      have h1:=h.cell (HR5.out.lf kp HK.out.2.1)
      rw [if_neg HK.out.2.2.1,←HK.out.2.2.2.2.2.1] at h1;exact h1
     have hfz:∀ w',Ext w5 w'→w'.frozen? ⟨R.ag,R.ao+kp*2+1,none⟩=false:=fun w' h=>(h.frozen (p:=⟨R.ag,R.ao+kp*2+1,none⟩) (HR5.out.ag (by have:=HK.out.1;omega))).trans (HR5.out.fr kp HK.out.2.1)
     refine wp_region_reads 16 (by kernel_rfl) (by kernel_rfl) ?_
     simp only [List.take_succ_cons,List.take_zero]
     repeat still_step
     refine wpStill_nil ?_
     refine wpAny_ready (rs:=[16]) (by kernel_rfl) (by simp) ?_
     refine AllReady.cons rfl (fun K hK=>?_) AllReady.nil
     go_simp
     refine hK _ _ ?_;clear hK K
     refine wpAny_done (by kernel_rfl) ?_ _
     go_upto_region 10 with fail
     refine setdw (w:=w5) (G:=fun x=>Code.wp _ _ _ _ x) ?_
     intro w6 hw6
     have hx6:Ext w6 w6:=Ext.refl _
     have HR6:=Lib.hid (show R.At base N (sndA l2 kk mo) w6 from by rw [hw6,←HSA.out];exact (HR5.out.set HK.out.2.1 _).ext (Ext.refl _).drew)
     have HI6:=Lib.hid (show IntRow w6 gB N.n by_ from by rw [hw6];exact (HI5.out.other _ _ HGA.out).ext (Ext.refl _).drew)
     have HX6:=Lib.hid (show Below base w w6 from by
      rw [hw6];exact (HX5.out.setCell (HR2.out.b2 (by have:=HK.out.1;omega)) _).drew)
     clear hw6 hr2 hrl2 hag2 hgl2 hcb hcl hfz hx5
     have hr2:∀ w',Ext w6 w'→w'.cell? ⟨R.rb,0,none⟩=some (.slice (some ⟨R.ag,R.ao,none⟩) (2*m) R.ac):=fun w' h=>by rw [HN.out.2,←HR6.out.aa (by have:=HH0.out;have:=HN.out.2;omega)];exact HR6.out.hr.box.cell w' h 0
     have hrl2:∀ w',Ext w6 w'→R.rb<w'.heap.size:=fun w' h=>HR6.out.hr.box.lt w' h
     have hag2:∀ w',Ext w6 w'→R.ag<w'.heap.size:=fun w' h=>Nat.lt_of_lt_of_le (HR6.out.ag (by have:=HH0.out;have:=HN.out.2;omega)) h.le
     have hgl2:∀ w',Ext w6 w'→gB<w'.heap.size:=fun w' h=>Nat.lt_of_lt_of_le HI6.out.lt h.le
     have hcb:∀ w',Ext w6 w'→w'.cell? ⟨gB,x,none⟩=some (.int .i64 (kk:Int)):=fun w' h=>by rw [←HK.out.2.2.2.2.2.2.1];exact h.cell (HI6.out.c x HK.out.2.2.2.2.2.2.2)
     have hct:∀ w',Ext w6 w'→w'.cell? ⟨R.ag,R.ao+kp*2,none⟩=some (.int .i64 (f:Int)):=fun w' h=>by
      rw [HK.out.2.2.2.1]
      have h1:=h.cell (HR6.out.tc kp HK.out.2.1)
      rw [HK.out.2.2.2.2.1] at h1 ⊢;exact h1
     go_quiet (fail)
     go_wp2_with fail
     go_roundg (rk t+1 - (i+1))
     case rel=>exact ⟨i+1,f,sndA l2 kk mo,HST.out,HFX.out,rfl,rfl,HR6.out.ext ((Ext.refl _).drewN _),HI6.out.ext ((Ext.refl _).drewN _),HP3.out,HX6.out.trans (Below.mono ((Ext.refl w6).drewN _) (by have:=HR6.out.b1;have:=HR6.out.hr.lt;omega))⟩
     case measure=>have:=HRK.out;omega
    ·obtain ⟨bx,hbx⟩:∃ z,z=by_ x:=⟨_,rfl⟩
     have hcb:∀ w',Ext wr w'→w'.cell? ⟨gB,x,none⟩=some (.int .i64 bx):=fun w' h=>by rw [hbx];exact h.cell (HI2.out.c x hxn)
     have d0:decide (0≤bx)=false:=decide_eq_false (by rw [hbx];exact h0)
     have hxs:x=s:=by rw [hx];exact HT.out.pt_end (by have:=HT0.out;have:=HN.out.1;omega) HB.out hS (by rw [←hx];omega)
     have HD:=Lib.hid (show N.ResF s t l2 (val+mo) from by rw [hxs] at hP2;exact Netw.Push.done HF.out HK0.out.2 hP2)
     clear hP2 hS hx hbx h0 hxs
     go_wp2_with fail
     go_ret
     exact ⟨mo,l2,rfl,HM.out.1,HR2.out,HD.out,HX2.out⟩
def FillPost (R:RsA) (base:Nat) (N:Netw) (s t:Nat) (w:World) (e:Ending) (w':World):Prop:=
 ∃ (val:Int) (l':Nat→Int) (g:Nat) (by_:Nat→Int),e=.returned (.tuple #[.int .i64 val,.slice (some ⟨g,0,none⟩) N.n N.n])∧R.At base N l' w'∧N.ResF s t l' val∧IntRow w' g N.n by_∧base≤g∧Below base w w'∧(∀ v,v<N.n→(by_ v≠-1↔N.Reach s (flowOf l') v))∧by_ t=-1
set_option maxHeartbeats 4000000 in
theorem fill_any (w : World) (R : RsA) (base : Nat) (N : Netw) (l : Nat → Int) (hR : R.At base N l w) (hn : N.n ≤ 512) (hm : N.m ≤ 2000) (hOk : N.Ok) (hcap : ∀ i, i < N.m → N.cap i ≤ 1125899906842624) (s t : Nat) (hs : s < N.n) (ht : t < N.n) (hst : s ≠ t) (hF : N.ResF s t l 0) :
    Calls Tryz.prog 97 #[.pointer (some ⟨R.rb,0,none⟩),.int .i64 s,.int .i64 t] w (FillPost R base N s t w):=by
 have HRe:=Lib.hid (fun W l2 (h:R.At base N l2 W) (hr:N.Res l2)=>reach_any W R base N l2 h hn hm hOk hr s hs)
 have HPu:=Lib.hid (fun W l2 (h:R.At base N l2 W) val (hF:N.ResF s t l2 val) gB by_ rk hI hg hT hb=>push_any W R base N l2 h hm hcap s t ht hst val hF gB by_ rk hI hg hT hb)
 have HLE:=Lib.hid (fun l2 val (h:N.ResF s t l2 val)=>(show val≤2251799813685248000 from by
  have h1:=h.le hOk hs hst
  have h2:=Netw.cut_le hOk (fun v=>decide (v=s)) hcap
  have h3:(N.m:Int)*1125899906842624≤2000*1125899906842624:=Int.mul_le_mul_of_nonneg_right (by omega) (by decide)
  omega))
 have HR:=Lib.hid hR
 have HF:=Lib.hid hF
 have HT:=Lib.hid ht
 have HBS:=Lib.hid (show base≤w.heap.size from by have:=hR.b1;have:=hR.hr.lt;omega)
 obtain ⟨n,hnn⟩:∃ n,n=N.n:=⟨_,rfl⟩
 have HN:=Lib.hid hnn
 rw [←hnn] at hn ht
 clear hR hm hOk hcap hs hF hnn
 unfold FillPost
 rw [←HN.out]
 go_enter Tryz.func97,Tryz.ntmps97
 go_wp2_with fail
 go_loopg [8,9] 2251799813685248001 (fun gg v8 v9 wr=>∃ (val:Int) (l2:Nat→Int),v8=.int .i64 val∧0≤val∧gg=(2251799813685248001 - val).toNat∧R.At base N l2 wr∧N.ResF s t l2 val∧Below base w wr)
 case atStart=>exact ⟨0,l,rfl,Int.le_refl _,rfl,HR.out,HF.out,Below.refl _ _⟩
 case round=>
  obtain ⟨val,l2,rfl,hv0,rfl,hR2,hF2,hx2⟩:=hrel
  have HR2:=Lib.hid hR2
  have HF2:=Lib.hid hF2
  have HX2:=Lib.hid hx2
  have hvle:=HLE.out l2 val hF2
  have hc:=HRe.out wr l2 hR2 hF2.res
  clear hR2 hF2 hx2
  go_wp2_with fail
  go_at_call 169
  refine hc.mono ?_
  rintro e w4 ⟨hx4,g,by_,rk,rfl,hI4,hg4,hT4,hRe4⟩
  have hx44:Ext w4 w4:=Ext.refl _
  rw [←HN.out]
  have HI4:=Lib.hid hI4
  obtain ⟨bt,hbt⟩:∃ z,z=by_ t:=⟨_,rfl⟩
  have hcb:∀ w',Ext w4 w'→w'.cell? ⟨g,t,none⟩=some (.int .i64 bt):=fun w' h=>by rw [hbt];exact h.cell (HI4.out.c t (by rw [←HN.out];exact ht))
  have hgl:∀ w',Ext w4 w'→g<w'.heap.size:=fun w' h=>Nat.lt_of_lt_of_le HI4.out.lt h.le
  have htn:(t:Int)<(n:Int):=by omega
  have HR4:=Lib.hid (HR2.out.ext hx4)
  have HX4:=Lib.hid (show Below base w w4 from HX2.out.trans (Below.mono hx4 (by have:=HR2.out.b1;have:=HR2.out.hr.lt;omega)))
  have HG4:=Lib.hid (show base≤g from by have:=HR2.out.b1;have:=HR2.out.hr.lt;omega)
  have HBT:=Lib.hid hbt
  have HRE4:=Lib.hid hRe4
  by_cases h1:bt=-1
  ·have d1:(bt == -1)=true:=by simpa using h1
   have HQ:=Lib.hid (show by_ t=-1 from by rw [←hbt];exact h1)
   clear hI4 hT4 hRe4 hc hbt
   go_wp2_with fail
   go_ret2
   exact ⟨val,l2,g,by_,rfl,HR4.out,HF2.out,(by rw [HN.out];exact HI4.out),HG4.out,HX4.out,fun v hv=>HRE4.out v (by rw [←HN.out];exact hv),HQ.out⟩
  ·have d1:(bt == -1)=false:=by simpa using h1
   have hp:=HPu.out w4 l2 HR4.out val HF2.out g by_ rk hI4 (fun h0 e=>by have:=HR2.out.ag h0;omega) hT4 (by rw [←hbt];exact h1)
   rw [←HN.out] at hp
   clear hI4 hT4 hRe4 hc hbt
   go_wp2_with fail
   go_at_call 170
   refine hp.mono ?_
   rintro e w5 ⟨d,l5,rfl,hd,hR5,hF5,hx5⟩
   have hd2:=HLE.out l5 (val+d) hF5
   have HR5:=Lib.hid hR5
   have HF5:=Lib.hid hF5
   have HX5:=Lib.hid (HX4.out.trans hx5)
   have hw1:IntKind.i64.wrap (val+d)=val+d:=IntWalk.i64_in _ (by omega)
   clear hR5 hF5 hx5 hp hcb hgl hx44
   go_wp2_with fail
   go_roundg ((2251799813685248001 - (val+d)).toNat)
   case rel=>exact ⟨val+d,l5,rfl,by omega,rfl,HR5.out,HF5.out,HX5.out⟩
   case measure=>omega
def memL (by_:Nat→Int):Nat→List Nat
 | 0 => []
 | k+1 => memL by_ k++(if by_ k=-1 then [] else [k])
theorem mem_memL {by_:Nat→Int} {v:Nat}:∀ {k:Nat},v∈memL by_ k↔v<k∧by_ v≠-1
 | 0 => by simp [memL]
 | k+1 => by
  unfold memL
  rw [List.mem_append,mem_memL]
  constructor
  ·rintro (⟨h1,h2⟩ | h)
   ·exact ⟨by omega,h2⟩
   ·split at h
    ·simp at h
    ·next h0=>simp at h;subst h;exact ⟨by omega,h0⟩
  ·rintro ⟨h1,h2⟩
   by_cases e:v=k
   ·subst e;right;rw [if_neg h2];simp
   ·exact .inl ⟨by omega,h2⟩
theorem memL_len (by_:Nat→Int):∀ k,(memL by_ k).length≤k
 | 0 => Nat.le_refl _
 | k+1 => by
  have:=memL_len by_ k
  unfold memL
  rw [List.length_append]
  split <;> simp <;> omega
def MemPost (l:List Nat) (w:World) (e:Ending) (w':World):Prop:=Ext w w'∧∃ v,e=.returned v∧Que w' w.heap.size 1 v l.length (intCells (natInts l))
set_option maxHeartbeats 4000000 in
theorem members_any (w : World) (g n : Nat) (by_ : Nat → Int) (hI : IntRow w g n by_) (hn : n ≤ 512) (h0 : 0 < n) :
    Calls Tryz.prog 211 #[.slice (some ⟨g,0,none⟩) n n,.int .i64 n] w (MemPost (memL by_ n) w):=by
 obtain ⟨j0,hj0,hy0,hy1,hy2⟩:=info_parts infoInt
 have HI:=Lib.hid hI
 have hgl:∀ w',Ext w w'→g<w'.heap.size:=fun w' h=>Nat.lt_of_lt_of_le hI.lt h.le
 have hww:Ext w w:=Ext.refl _
 clear hI
 unfold MemPost
 go_enter Tryz.func211,Tryz.ntmps211
 go_wp2_with fail
 go_loopg [5,6,7,12] n (fun gg v5 v6 v7 v12 wr=>∃ k:Nat,k≤n∧gg=n - k∧v12=.int .i64 k∧Que wr w.heap.size 1 v5 (memL by_ k).length (intCells (natInts (memL by_ k)))∧Ext w wr)
 case atStart=>exact ⟨0,by omega,rfl,rfl,Que.nil _ _ _,Ext.refl _⟩
 case round=>
  obtain ⟨k,hk,rfl,rfl,hq,hxr⟩:=hrel
  obtain ⟨a5,c5,rfl⟩:=hq.slice
  have HQ:=Lib.hid hq
  have hml:=memL_len by_ k
  clear hq
  by_cases hlt:k<n
  ·have hlt':(k:Int)<(n:Int):=by omega
   obtain ⟨bt,hbt⟩:∃ z,z=by_ k:=⟨_,rfl⟩
   have hcb:∀ w',Ext w w'→w'.cell? ⟨g,k,none⟩=some (.int .i64 bt):=fun w' h=>by rw [hbt];exact h.cell (HI.out.c k hlt)
   have HBT:=Lib.hid hbt
   clear hbt
   by_cases h1:bt=-1
   ·have d1:(bt != -1)=false:=by simpa using h1
    have HM:=Lib.hid (show memL by_ (k+1)=memL by_ k from by show memL by_ k++_=_;rw [if_pos (by rw [←HBT.out];exact h1),List.append_nil])
    go_wp2_with fail
    go_roundg (n - (k+1))
    case rel=>exact ⟨k+1,by omega,rfl,by go_num,by rw [HM.out];exact HQ.out,hxr⟩
    case measure=>omega
   ·have d1:(bt != -1)=true:=by simpa using h1
    have HM:=Lib.hid (show memL by_ (k+1)=memL by_ k++[k] from by show memL by_ k++_=_;rw [if_neg (by rw [←HBT.out];exact h1)])
    go_upto_region 7 with (at_builtin;refine wpList_append_que _ rfl _ _ 28 28 rfl (base:=w.heap.size) (e:=3) (size:=1) j0 (.int .i64 0) 8 Tryz.underlying28 hj0 hy0 hy1 hy2 rfl rfl (v:=.slice a5 (memL by_ k).length c5) (n:=(memL by_ k).length) (xs:=intCells (natInts (memL by_ k))) (by exact HQ.out.ext (Ext.alloc _ _)) (by rw [World.size_alloc];have:=hxr.le;omega) (.slice (some ⟨wr.heap.size,0,none⟩) 1 1) 1 [.int .i64 (k:Int)] rfl (by exact Src.ofSlice (size:=1) _ Tryz.underlying28 ⟨wr.heap.size,0,none⟩ 1 1 _ rfl (news_ok wr _ _) (one_int _)) (by unfold maxLen;omega) (by omega) ?_;rintro v7 w7 hq7 hg7 -;obtain ⟨a9,c9,rfl⟩:=hq7.slice)
    have hx7:Ext w w7:=(hxr.alloc' _).below.grown hg7 (by rw [World.size_alloc];have:=hxr.le;omega) (fun g e=>by have:=HQ.out.block g e;omega)
    have HQ7:=Lib.hid (show Que w7 w.heap.size 1 (.slice a9 ((memL by_ k).length+1) c9) (memL by_ (k+1)).length (intCells (natInts (memL by_ (k+1)))) from by rw [HM.out,natInts_snoc,List.length_append];exact hq7)
    clear hq7 hg7
    go_wp2_with fail
    go_roundg (n - (k+1))
    case rel=>exact ⟨k+1,by omega,rfl,by go_num,HQ7.out,hx7⟩
    case measure=>omega
  ·obtain rfl:k=n:=by omega
   go_wp2_with fail
   go_ret
   exact ⟨hxr,_,rfl,HQ.out⟩
end Go.Proofs.YtnknkkmdbnaglaaGreat
