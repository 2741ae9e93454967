/- Contracts and laws in plain Lean for RApp: group W54. -/
import Derived.Test.YtkhgpockmaghjaaGreatW51
import Derived.Test.YtkhgpockmaghjaaGreatW48
import Derived.Test.YtkhgpockmaghjaaGreatW06
set_option maxRecDepth 100000
namespace Go.Proofs.YtkhgpockmaghjaaGreat
open Go.RowKit Go.Shelf
set_option maxHeartbeats 1000000 in
theorem index_ev (w : World) (a : Option Addr) (b off n cap : Nat) (x : Nat → Int × Int) (v : Int × Int) (hn : n ≤ 140737488355328) (ha : 0 < n → a = some ⟨b, off, none⟩) (hb : 0 < n → b < w.heap.size)
    (l0:∀ i,i<n→w.cell? ⟨b,off+i*2,none⟩=some (.int .i64 (x i).1)) (l1:∀ i,i<n→w.cell? ⟨b,off+i*2+1,none⟩=some (.int .i64 (x i).2)) :
    Calls Tryz.prog 123 #[.slice a n cap,.agg #[.int .i64 v.1,.int .i64 v.2]] w fun e w'=>e=.returned (.int .i64 (idxI (fun i=>decide (x i=v)) n))∧Ext w w':=by
 obtain ⟨v1,v2⟩:=v
 dsimp only
 have H0:=Lib.hid (And.intro l0 l1)
 clear l0 l1
 go_enter Tryz.func123,Tryz.ntmps123
 go_upto_region 1 with fail
 refine boxed1 (w:=w) (G:=fun x=>Code.wp _ _ _ _ x) ?_
 intro w1 hx1 hs1 ⟨lb,cb,_,_⟩
 have hx11:Ext w1 w1:=Ext.refl _
 clear hs1
 go_wp2_with fail
 go_loopg [8] n (fun gg v8 wr=>∃ k:Nat,k≤n∧gg=n - k∧v8=.int .i64 k∧Ext w1 wr∧NoneB (fun i=>decide (x i=(v1,v2))) k)
 case atStart=>exact ⟨0,by omega,rfl,rfl,hx11,NoneB.zero _⟩
 case round=>
  obtain ⟨k,hk,rfl,rfl,hxr,hN⟩:=hrel
  have HN:=Lib.hid hN
  have hxw:=hx1.trans hxr
  clear hN
  by_cases hlt:k<n
  ·have hlt':(k:Int)<(n:Int):=by omega
   obtain rfl:=ha (by omega)
   have pb:∀ w',Ext w w'→b<w'.heap.size:=fun w' y=>Nat.lt_of_lt_of_le (hb (by omega)) y.le
   have hg0:∀ d os,Ext w (Sort.grow (redrawn wr d) os):=fun d os=>hxw.trans (below_regrown wr d os)
   have hg1:∀ d os,Ext w1 (Sort.grow (redrawn wr d) os):=fun d os=>hxr.trans (below_regrown wr d os)
   obtain ⟨x1,x2,hx⟩:∃ x1 x2,x k=(x1,x2):=⟨_,_,rfl⟩
   have p0:∀ w',Ext w w'→w'.cell? ⟨b,off+k*2,none⟩=some (.int .i64 x1):=fun w' y=>by rw [y.cell (H0.out.1 k hlt),hx]
   have p1:∀ w',Ext w w'→w'.cell? ⟨b,off+k*2+1,none⟩=some (.int .i64 x2):=fun w' y=>by rw [y.cell (H0.out.2 k hlt),hx]
   have HX:=Lib.hid hx
   clear hx
   by_cases e0:v1=x1
   case neg=>
    have d0:(v1 == x1)=false:=by simpa using e0
    have HNN:=Lib.hid (HN.out.succ (show (fun i=>decide (x i=(v1,v2))) k=false from decide_eq_false (by rw [HX.out];simp;omega)))
    go_upto_region 4 with fail
    refine wp_region_quiet_below (by kernel_rfl) (by kernel_rfl) ?_
    repeat (go_big_quiet_step (fail))
    refine wpQuiet_nil ?_
    intro _ hw'
    obtain ⟨⟨dq,osq⟩,hw''⟩:=hw'
    subst hw''
    have hx2:=hg1 dq osq
    have hxw2:=hg0 dq osq
    clear hg0 hg1
    generalize Sort.grow (redrawn wr dq) osq=w2 at hx2 hxw2 ⊢
    go_wp2_with fail
    go_roundg (n - (k+1))
    case rel=>exact ⟨k+1,by omega,rfl,by go_num,hx2,HNN.out⟩
    case measure=>omega
   subst e0
   by_cases e1:v2=x2
   case neg=>
    have d1:(v2 == x2)=false:=by simpa using e1
    have HNN:=Lib.hid (HN.out.succ (show (fun i=>decide (x i=(v1,v2))) k=false from decide_eq_false (by rw [HX.out];simp;omega)))
    go_upto_region 4 with fail
    refine wp_region_quiet_below (by kernel_rfl) (by kernel_rfl) ?_
    repeat (go_big_quiet_step (fail))
    refine wpQuiet_nil ?_
    intro _ hw'
    obtain ⟨⟨dq,osq⟩,hw''⟩:=hw'
    subst hw''
    have hx2:=hg1 dq osq
    have hxw2:=hg0 dq osq
    clear hg0 hg1
    generalize Sort.grow (redrawn wr dq) osq=w2 at hx2 hxw2 ⊢
    go_wp2_with fail
    go_roundg (n - (k+1))
    case rel=>exact ⟨k+1,by omega,rfl,by go_num,hx2,HNN.out⟩
    case measure=>omega
   subst e1
   have HH:=Lib.hid (show idxI (fun i=>decide (x i=(v1,v2))) n=k from idxI_hit hlt (decide_eq_true HX.out) HN.out)
   go_upto_region 4 with fail
   refine wp_region_quiet_below (by kernel_rfl) (by kernel_rfl) ?_
   repeat (go_big_quiet_step (fail))
   refine wpQuiet_nil ?_
   intro _ hw'
   obtain ⟨⟨dq,osq⟩,hw''⟩:=hw'
   subst hw''
   have hx2:=hg1 dq osq
   have hxw2:=hg0 dq osq
   clear hg0 hg1
   generalize Sort.grow (redrawn wr dq) osq=w2 at hx2 hxw2 ⊢
   go_wp2_with fail
   go_ret
   exact ⟨ret_int HH.out.symm,hxw2⟩
  ·have HN':=Lib.hid (show NoneB (fun i=>decide (x i=(v1,v2))) n from fun i hi=>HN.out i (by omega))
   go_wp2_with fail
   go_ret
   exact ⟨ret_int (idxI_none HN'.out).symm,hxw⟩
set_option maxHeartbeats 1000000 in
theorem contains_ev (w : World) (a : Option Addr) (b off n cap : Nat) (x : Nat → Int × Int) (v : Int × Int) (hn : n ≤ 140737488355328) (ha : 0 < n → a = some ⟨b, off, none⟩) (hb : 0 < n → b < w.heap.size)
    (l0:∀ i,i<n→w.cell? ⟨b,off+i*2,none⟩=some (.int .i64 (x i).1)) (l1:∀ i,i<n→w.cell? ⟨b,off+i*2+1,none⟩=some (.int .i64 (x i).2)) :
    Calls Tryz.prog 89 #[.slice a n cap,.agg #[.int .i64 v.1,.int .i64 v.2]] w (BoolPost (∃ i,i<n∧x i=v) w):=by
 have HC:=Lib.hid (fun W (y:Ext w W)=>index_ev W a b off n cap x v hn ha (fun h=>Nat.lt_of_lt_of_le (hb h) y.le) (fun i hi=>y.cell (l0 i hi)) (fun i hi=>y.cell (l1 i hi)))
 have HI:=Lib.hid (idxI_anyB (fun i=>decide (x i=v)) n)
 obtain ⟨b0,hb0⟩:∃ z,z=anyB (fun i=>decide (x i=v)) n:=⟨_,rfl⟩
 have HB:=Lib.hid (show b0=true↔∃ i,i<n∧x i=v from by rw [hb0,anyB_iff];simp)
 have HB0:=Lib.hid hb0
 generalize idxI (fun i=>decide (x i=v)) n=r at HC HI
 obtain ⟨v1,v2⟩:=v
 dsimp only at HC ⊢
 clear hb0 ha hb l0 l1
 go_enter Tryz.func89,Tryz.ntmps89
 go_upto_region 1 with fail
 refine boxed1 (w:=w) (G:=fun x=>Code.wp _ _ _ _ x) ?_
 intro w1 hx1 hs1 ⟨lb,cb,_,_⟩
 have hx11:Ext w1 w1:=Ext.refl _
 clear hs1
 go_wp2_with (go_at_call 123;refine (HC.out w1 hx1).mono ?_;rintro e w2 ⟨rfl,hx2⟩)
 go_ret
 exact ⟨b0,ret_bool (by rw [HI.out,HB0.out]),HB.out,hx1.trans hx2⟩
set_option maxHeartbeats 1000000 in
theorem index_sy (w : World) (a : Option Addr) (b off n cap : Nat) (x : Nat → Syn) (v : Syn) (hn : n ≤ 140737488355328) (ha : 0 < n → a = some ⟨b, off, none⟩) (hb : 0 < n → b < w.heap.size)
    (l0:∀ i,i<n→w.cell? ⟨b,off+i*4,none⟩=some (.int .i64 (x i).1.1)) (l1:∀ i,i<n→w.cell? ⟨b,off+i*4+1,none⟩=some (.int .i64 (x i).1.2)) (l2:∀ i,i<n→w.cell? ⟨b,off+i*4+2,none⟩=some (.int .i64 (x i).2.1)) (l3:∀ i,i<n→w.cell? ⟨b,off+i*4+3,none⟩=some (.int .i64 (x i).2.2)) :
    Calls Tryz.prog 125 #[.slice a n cap,.agg #[.int .i64 v.1.1,.int .i64 v.1.2,.int .i64 v.2.1,.int .i64 v.2.2]] w fun e w'=>e=.returned (.int .i64 (idxI (fun i=>decide (x i=v)) n))∧Ext w w':=by
 obtain ⟨⟨v1,v2⟩,v3,v4⟩:=v
 dsimp only
 have H0:=Lib.hid (And.intro l0 (And.intro l1 (And.intro l2 l3)))
 clear l0 l1 l2 l3
 go_enter Tryz.func125,Tryz.ntmps125
 go_upto_region 1 with fail
 refine boxed1 (w:=w) (G:=fun x=>Code.wp _ _ _ _ x) ?_
 intro w1 hx1 hs1 ⟨lb,cb,_,_⟩
 have hx11:Ext w1 w1:=Ext.refl _
 clear hs1
 go_wp2_with fail
 go_loopg [8] n (fun gg v8 wr=>∃ k:Nat,k≤n∧gg=n - k∧v8=.int .i64 k∧Ext w1 wr∧NoneB (fun i=>decide (x i=((v1,v2),(v3,v4)))) k)
 case atStart=>exact ⟨0,by omega,rfl,rfl,hx11,NoneB.zero _⟩
 case round=>
  obtain ⟨k,hk,rfl,rfl,hxr,hN⟩:=hrel
  have HN:=Lib.hid hN
  have hxw:=hx1.trans hxr
  clear hN
  by_cases hlt:k<n
  ·have hlt':(k:Int)<(n:Int):=by omega
   obtain rfl:=ha (by omega)
   have pb:∀ w',Ext w w'→b<w'.heap.size:=fun w' y=>Nat.lt_of_lt_of_le (hb (by omega)) y.le
   have hg0:∀ d os,Ext w (Sort.grow (redrawn wr d) os):=fun d os=>hxw.trans (below_regrown wr d os)
   have hg1:∀ d os,Ext w1 (Sort.grow (redrawn wr d) os):=fun d os=>hxr.trans (below_regrown wr d os)
   obtain ⟨x1,x2,x3,x4,hx⟩:∃ x1 x2 x3 x4,x k=((x1,x2),(x3,x4)):=⟨_,_,_,_,rfl⟩
   have p0:∀ w',Ext w w'→w'.cell? ⟨b,off+k*4,none⟩=some (.int .i64 x1):=fun w' y=>by rw [y.cell (H0.out.1 k hlt),hx]
   have p1:∀ w',Ext w w'→w'.cell? ⟨b,off+k*4+1,none⟩=some (.int .i64 x2):=fun w' y=>by rw [y.cell (H0.out.2.1 k hlt),hx]
   have p2:∀ w',Ext w w'→w'.cell? ⟨b,off+k*4+2,none⟩=some (.int .i64 x3):=fun w' y=>by rw [y.cell (H0.out.2.2.1 k hlt),hx]
   have p3:∀ w',Ext w w'→w'.cell? ⟨b,off+k*4+3,none⟩=some (.int .i64 x4):=fun w' y=>by rw [y.cell (H0.out.2.2.2 k hlt),hx]
   have HX:=Lib.hid hx
   clear hx
   by_cases e0:v1=x1
   case neg=>
    have d0:(v1 == x1)=false:=by simpa using e0
    have HNN:=Lib.hid (HN.out.succ (show (fun i=>decide (x i=((v1,v2),(v3,v4)))) k=false from decide_eq_false (by rw [HX.out];simp;omega)))
    go_upto_region 4 with fail
    refine wp_region_quiet_below (by kernel_rfl) (by kernel_rfl) ?_
    repeat (go_big_quiet_step (fail))
    refine wpQuiet_nil ?_
    intro _ hw'
    obtain ⟨⟨dq,osq⟩,hw''⟩:=hw'
    subst hw''
    have hx2:=hg1 dq osq
    have hxw2:=hg0 dq osq
    clear hg0 hg1
    generalize Sort.grow (redrawn wr dq) osq=w2 at hx2 hxw2 ⊢
    go_wp2_with fail
    go_roundg (n - (k+1))
    case rel=>exact ⟨k+1,by omega,rfl,by go_num,hx2,HNN.out⟩
    case measure=>omega
   subst e0
   by_cases e1:v2=x2
   case neg=>
    have d1:(v2 == x2)=false:=by simpa using e1
    have HNN:=Lib.hid (HN.out.succ (show (fun i=>decide (x i=((v1,v2),(v3,v4)))) k=false from decide_eq_false (by rw [HX.out];simp;omega)))
    go_upto_region 4 with fail
    refine wp_region_quiet_below (by kernel_rfl) (by kernel_rfl) ?_
    repeat (go_big_quiet_step (fail))
    refine wpQuiet_nil ?_
    intro _ hw'
    obtain ⟨⟨dq,osq⟩,hw''⟩:=hw'
    subst hw''
    have hx2:=hg1 dq osq
    have hxw2:=hg0 dq osq
    clear hg0 hg1
    generalize Sort.grow (redrawn wr dq) osq=w2 at hx2 hxw2 ⊢
    go_wp2_with fail
    go_roundg (n - (k+1))
    case rel=>exact ⟨k+1,by omega,rfl,by go_num,hx2,HNN.out⟩
    case measure=>omega
   subst e1
   by_cases e2:v3=x3
   case neg=>
    have d2:(v3 == x3)=false:=by simpa using e2
    have HNN:=Lib.hid (HN.out.succ (show (fun i=>decide (x i=((v1,v2),(v3,v4)))) k=false from decide_eq_false (by rw [HX.out];simp;omega)))
    go_upto_region 4 with fail
    refine wp_region_quiet_below (by kernel_rfl) (by kernel_rfl) ?_
    repeat (go_big_quiet_step (fail))
    refine wpQuiet_nil ?_
    intro _ hw'
    obtain ⟨⟨dq,osq⟩,hw''⟩:=hw'
    subst hw''
    have hx2:=hg1 dq osq
    have hxw2:=hg0 dq osq
    clear hg0 hg1
    generalize Sort.grow (redrawn wr dq) osq=w2 at hx2 hxw2 ⊢
    go_wp2_with fail
    go_roundg (n - (k+1))
    case rel=>exact ⟨k+1,by omega,rfl,by go_num,hx2,HNN.out⟩
    case measure=>omega
   subst e2
   by_cases e3:v4=x4
   case neg=>
    have d3:(v4 == x4)=false:=by simpa using e3
    have HNN:=Lib.hid (HN.out.succ (show (fun i=>decide (x i=((v1,v2),(v3,v4)))) k=false from decide_eq_false (by rw [HX.out];simp;omega)))
    go_upto_region 4 with fail
    refine wp_region_quiet_below (by kernel_rfl) (by kernel_rfl) ?_
    repeat (go_big_quiet_step (fail))
    refine wpQuiet_nil ?_
    intro _ hw'
    obtain ⟨⟨dq,osq⟩,hw''⟩:=hw'
    subst hw''
    have hx2:=hg1 dq osq
    have hxw2:=hg0 dq osq
    clear hg0 hg1
    generalize Sort.grow (redrawn wr dq) osq=w2 at hx2 hxw2 ⊢
    go_wp2_with fail
    go_roundg (n - (k+1))
    case rel=>exact ⟨k+1,by omega,rfl,by go_num,hx2,HNN.out⟩
    case measure=>omega
   subst e3
   have HH:=Lib.hid (show idxI (fun i=>decide (x i=((v1,v2),(v3,v4)))) n=k from idxI_hit hlt (decide_eq_true HX.out) HN.out)
   go_upto_region 4 with fail
   refine wp_region_quiet_below (by kernel_rfl) (by kernel_rfl) ?_
   repeat (go_big_quiet_step (fail))
   refine wpQuiet_nil ?_
   intro _ hw'
   obtain ⟨⟨dq,osq⟩,hw''⟩:=hw'
   subst hw''
   have hx2:=hg1 dq osq
   have hxw2:=hg0 dq osq
   clear hg0 hg1
   generalize Sort.grow (redrawn wr dq) osq=w2 at hx2 hxw2 ⊢
   go_wp2_with fail
   go_ret
   exact ⟨ret_int HH.out.symm,hxw2⟩
  ·have HN':=Lib.hid (show NoneB (fun i=>decide (x i=((v1,v2),(v3,v4)))) n from fun i hi=>HN.out i (by omega))
   go_wp2_with fail
   go_ret
   exact ⟨ret_int (idxI_none HN'.out).symm,hxw⟩
set_option maxHeartbeats 1000000 in
theorem contains_sy (w : World) (a : Option Addr) (b off n cap : Nat) (x : Nat → Syn) (v : Syn) (hn : n ≤ 140737488355328) (ha : 0 < n → a = some ⟨b, off, none⟩) (hb : 0 < n → b < w.heap.size)
    (l0:∀ i,i<n→w.cell? ⟨b,off+i*4,none⟩=some (.int .i64 (x i).1.1)) (l1:∀ i,i<n→w.cell? ⟨b,off+i*4+1,none⟩=some (.int .i64 (x i).1.2)) (l2:∀ i,i<n→w.cell? ⟨b,off+i*4+2,none⟩=some (.int .i64 (x i).2.1)) (l3:∀ i,i<n→w.cell? ⟨b,off+i*4+3,none⟩=some (.int .i64 (x i).2.2)) :
    Calls Tryz.prog 93 #[.slice a n cap,.agg #[.int .i64 v.1.1,.int .i64 v.1.2,.int .i64 v.2.1,.int .i64 v.2.2]] w (BoolPost (∃ i,i<n∧x i=v) w):=by
 have HC:=Lib.hid (fun W (y:Ext w W)=>index_sy W a b off n cap x v hn ha (fun h=>Nat.lt_of_lt_of_le (hb h) y.le) (fun i hi=>y.cell (l0 i hi)) (fun i hi=>y.cell (l1 i hi)) (fun i hi=>y.cell (l2 i hi)) (fun i hi=>y.cell (l3 i hi)))
 have HI:=Lib.hid (idxI_anyB (fun i=>decide (x i=v)) n)
 obtain ⟨b0,hb0⟩:∃ z,z=anyB (fun i=>decide (x i=v)) n:=⟨_,rfl⟩
 have HB:=Lib.hid (show b0=true↔∃ i,i<n∧x i=v from by rw [hb0,anyB_iff];simp)
 have HB0:=Lib.hid hb0
 generalize idxI (fun i=>decide (x i=v)) n=r at HC HI
 obtain ⟨⟨v1,v2⟩,v3,v4⟩:=v
 dsimp only at HC ⊢
 clear hb0 ha hb l0 l1 l2 l3
 go_enter Tryz.func93,Tryz.ntmps93
 go_upto_region 1 with fail
 refine boxed1 (w:=w) (G:=fun x=>Code.wp _ _ _ _ x) ?_
 intro w1 hx1 hs1 ⟨lb,cb,_,_⟩
 have hx11:Ext w1 w1:=Ext.refl _
 clear hs1
 go_wp2_with (go_at_call 125;refine (HC.out w1 hx1).mono ?_;rintro e w2 ⟨rfl,hx2⟩)
 go_ret
 exact ⟨b0,ret_bool (by rw [HI.out,HB0.out]),HB.out,hx1.trans hx2⟩
attribute [local go_sem] Oper.semAt_some
def Tr.Ndd (T:Tr) (L:List Syn) (k:Nat):Prop:=∃ s,L[k]?=some s∧nnOf s.2∉T.fw (nnOf s.1)∧¬Rch (T.gr L) ((T.gr L (nnOf s.1)).filter fun z=>!decide (z=nnOf s.2)) (nnOf s.2)∧s∉L.take k
open Classical in
noncomputable def Tr.ndL (T:Tr) (L:List Syn):Nat→List Syn
 | 0 => []
 | k+1 => T.ndL L k++if T.Ndd L k then (L[k]?).toList else []
theorem ndL_yes {T:Tr} {L:List Syn} {k:Nat} {s:Syn} (h:T.Ndd L k) (hs:L[k]?=some s):T.ndL L (k+1)=T.ndL L k++[s]:=by
 simp [Tr.ndL,h,hs]
theorem ndL_no {T:Tr} {L:List Syn} {k:Nat} (h:¬T.Ndd L k):T.ndL L (k+1)=T.ndL L k:=by
 simp [Tr.ndL,h]
theorem ndL_len (T:Tr) (L:List Syn):∀ k,(T.ndL L k).length≤k
 | 0 => Nat.le_refl _
 | k+1 => by
  have h:=ndL_len T L k
  by_cases hn:T.Ndd L k
  ·obtain ⟨s,hs,_⟩:=id hn
   rw [ndL_yes hn hs,List.length_append];simp;omega
  ·rw [ndL_no hn];omega
theorem mem_ndL {T:Tr} {L:List Syn} {s:Syn}:∀ {k:Nat},s∈T.ndL L k↔∃ j,j<k∧T.Ndd L j∧L[j]?=some s
 | 0 => ⟨fun h => (by cases h),fun ⟨_,h,_⟩ => absurd h (Nat.not_lt_zero _)⟩
 | k+1 => by
  constructor
  ·intro h
   by_cases hn:T.Ndd L k
   ·obtain ⟨s',hs,h9⟩:=id hn
    rw [ndL_yes hn hs,List.mem_append,mem_ndL (k:=k)] at h
    rcases h with ⟨j,h1,h2⟩ | h
    ·exact ⟨j,by omega,h2⟩
    ·obtain rfl:=List.mem_singleton.1 h;exact ⟨k,by omega,hn,hs⟩
   ·rw [ndL_no hn,mem_ndL (k:=k)] at h
    obtain ⟨j,h1,h2⟩:=h;exact ⟨j,by omega,h2⟩
  ·rintro ⟨j,h1,h2,h3⟩
   show s∈_++_
   by_cases e:j=k
   ·subst e
    rw [if_pos h2,h3];simp
   ·exact List.mem_append_left _ (mem_ndL.2 ⟨j,by omega,h2,h3⟩)
theorem ndL_sub {T:Tr} {L:List Syn} {k:Nat} {s:Syn} (h:s∈T.ndL L k):s∈L:=by
 obtain ⟨j,_,_,h2⟩:=mem_ndL.1 h
 exact List.mem_of_getElem? h2
def synCells (l:List Syn):List Value:=l.flatMap fun s=>[.int .i64 s.1.1,.int .i64 s.1.2,.int .i64 s.2.1,.int .i64 s.2.2]
theorem synCells_snoc (l:List Syn) (s:Syn):synCells (l++[s])=synCells l++[.int .i64 s.1.1,.int .i64 s.1.2,.int .i64 s.2.1,.int .i64 s.2.2]:=by simp [synCells]
theorem infoSyn:(Tryz.prog.info? 81).map (fun i=>(i.zero,i.size,i.bytes))=some (some (.agg #[.int .i64 0,.int .i64 0,.int .i64 0,.int .i64 0]),4,32):=by kernel_rfl
set_option maxHeartbeats 1000000 in
theorem needed1_any (w : World) (b : Nat) (z y : NN) (c2 : ∀ w', Ext w w' → w'.cell? ⟨b, 2, none⟩ = some (.int .i64 (y.1 : Int))) (c3 : ∀ w', Ext w w' → w'.cell? ⟨b, 3, none⟩ = some (.int .i64 ((y.2 : Int) + 1))) (_lb : ∀ w', Ext w w' → b < w'.heap.size) :
    Calls Tryz.prog 92 #[.agg #[.int .i64 (z.1:Int),.int .i64 ((z.2:Int)+1)],.pointer (some ⟨b,0,none⟩)] w fun e w'=>e=.returned (.bool (decide (z=y)))∧Ext w w':=by
 obtain ⟨z1,z2⟩:=z
 obtain ⟨y1,y2⟩:=y
 dsimp only at c2 c3 ⊢
 obtain ⟨r,hr⟩:∃ r,r=decide ((z1,z2)=(y1,y2)):=⟨_,rfl⟩
 have HR:=Lib.hid hr
 rw [←hr]
 clear hr
 go_enter Tryz.func92,Tryz.ntmps92
 go_upto_region 1 with fail
 refine boxed1 (w:=w) (G:=fun x=>Code.wp _ _ _ _ x) ?_
 intro w1 hx1 hs1 ⟨l0,c0,_,_⟩
 have hx11:Ext w1 w1:=Ext.refl _
 clear hs1
 by_cases e1:z1=y1
 ·subst e1
  by_cases e2:z2=y2
  ·subst e2
   have HH:=Lib.hid (show r=true from by rw [HR.out];simp)
   go_wp2_with fail
   go_ret
   exact ⟨ret_bool HH.out.symm,hx1⟩
  ·have e3:¬(z2:Int)=(y2:Int):=by omega
   have HH:=Lib.hid (show r=false from by rw [HR.out];simp;exact e2)
   go_wp2_with fail
   go_ret
   exact ⟨ret_bool HH.out.symm,hx1⟩
 ·have e3:¬(z1:Int)=(y1:Int):=by omega
  have HH:=Lib.hid (show r=false from by rw [HR.out];simp;exact fun h=>absurd h e1)
  go_wp2_with fail
  go_ret
  exact ⟨ret_bool HH.out.symm,hx1⟩
theorem fw_len (T:Tr) (x:NN):(T.fw x).length≤2:=by
 have h:=gr_len T [] x
 have e:T.gr [] x=T.fw x:=by simp [Tr.gr,toL]
 rw [e] at h;simpa using h
theorem ndd_iff {T:Tr} {L:List Syn} {k:Nat} {x y:NN} (h:L[k]?=some (evI x,evI y)):T.Ndd L k↔y∉T.fw x∧¬Rch (T.gr L) ((T.gr L x).filter fun z=>!decide (z=y)) y∧(evI x,evI y)∉L.take k:=by
 constructor
 ·rintro ⟨s,h1,h2⟩
  rw [h] at h1
  obtain rfl:=Option.some.inj h1
  simpa [nnOf_evI] using h2
 ·intro h2
  exact ⟨_,h,by simpa [nnOf_evI] using h2⟩
theorem evI_iff {x y:NN}:evI x=evI y↔x=y:=⟨evI_inj,fun h=>by rw [h]⟩
theorem hasev_any (w : World) (base : Nat) (v : Value) (l : List NN) (h : EvOwn w base v (l.map evI)) (hl : l.length ≤ 100000) (y : NN) :
    Calls Tryz.prog 89 #[v,.agg #[.int .i64 (y.1:Int),.int .i64 ((y.2:Int)+1)]] w (BoolPost (y∈l) w):=by
 obtain ⟨a,cap,b,rfl,_,ha,hb,h0,h1⟩:=h.read
 rw [List.length_map] at ha hb ⊢
 have hlen:(l.map evI).length=l.length:=List.length_map _
 refine (contains_ev w a b 0 l.length cap (fun i=>evI (l.getD i (0,0))) (evI y) (by omega) ha (fun h=>hb h w (Ext.refl _)) (fun i hi=>?_) (fun i hi=>?_)).mono fun e w' ⟨r,he,hr,hx⟩=>⟨r,he,hr.trans ⟨fun ⟨i,hi,e⟩=>?_,fun hm=>?_⟩,hx⟩
 ·rw [Nat.zero_add,h0 w (Ext.refl _) i (by rw [hlen];exact hi),List.getElem_map,List.getD_eq_getElem?_getD,List.getElem?_eq_getElem hi];rfl
 ·rw [Nat.zero_add,h1 w (Ext.refl _) i (by rw [hlen];exact hi),List.getElem_map,List.getD_eq_getElem?_getD,List.getElem?_eq_getElem hi];rfl
 ·rw [←evI_inj e,List.getD_eq_getElem?_getD,List.getElem?_eq_getElem hi];exact List.getElem_mem hi
 ·obtain ⟨i,hi,e⟩:=List.getElem_of_mem hm
  exact ⟨i,hi,by rw [List.getD_eq_getElem?_getD,List.getElem?_eq_getElem hi];show evI l[i]=_;rw [e]⟩
structure NdI (T:Tr) (L:List Syn) (wL:World) (k:Nat) (v:Value) (wr:World):Prop where
 x:Ext wL wr
 q:Que wr wL.heap.size 4 v (T.ndL L k).length (synCells (T.ndL L k))
theorem NdI.ext {T:Tr} {L:List Syn} {wL:World} {k:Nat} {v:Value} {wr w':World} (h:NdI T L wL k v wr) (x:Ext wr w'):NdI T L wL k v w':=⟨h.x.trans x,h.q.ext x⟩
theorem NdI.skip {T:Tr} {L:List Syn} {wL:World} {k:Nat} {v:Value} {wr:World} (h:NdI T L wL k v wr) (hn:¬T.Ndd L k):NdI T L wL (k+1) v wr:=⟨h.x,by rw [ndL_no hn];exact h.q⟩
set_option maxHeartbeats 4000000 in
theorem needed_any (w : World) (T : TM) (hT : T.At w) (hV : T.toTr.Valid) (D : SyD) (hD : D.At w) (hL : SynOk T.toTr D.l) (hDn : D.s.n ≤ 1000) :
    Calls Tryz.prog 50 #[T.val,.slice D.s.a D.s.n D.s.c] w fun e w'=>Ext w w'∧∃ v,e=.returned v∧Que w' w.heap.size 4 v (T.toTr.ndL D.l D.s.n).length (synCells (T.toTr.ndL D.l D.s.n)):=by
 obtain ⟨j0,hj0,hy0,hy1,hy2⟩:=info_parts infoSyn
 have hl1000:D.l.length≤1000:=by rw [D.len];exact hDn
 have HMD:=Lib.hid (fun W (h:Ext w W)=>made_any W T (hT.ext h) hV D (hD.ext h) hL hDn)
 have HAF:=Lib.hid (fun W (h:Ext w W) p i hp hi=>pafter_any W T (hT.ext h) hV p i hp hi)
 have HCS:=Lib.hid (fun W (h:Ext w W) k (hk:k≤D.s.n) cap (s:Syn)=>(show Calls Tryz.prog 93 #[.slice D.s.a k cap,.agg #[.int .i64 s.1.1,.int .i64 s.1.2,.int .i64 s.2.1,.int .i64 s.2.2]] W (BoolPost (s∈D.l.take k) W) from
  (contains_sy W D.s.a D.s.b D.s.o k cap D.at s (by have:=hD.hn;omega) (fun h0=>hD.ha (by omega)) (fun h0=>(hD.ext h).hb (by omega)) (fun i hi=>(hD.ext h).c0 i (by omega)) (fun i hi=>(hD.ext h).c1 i (by omega)) (fun i hi=>(hD.ext h).c2 i (by omega)) (fun i hi=>(hD.ext h).c3 i (by omega))).mono fun e w' ⟨b,he,hb,hx⟩=>⟨b,he,by
   rw [hb,SyD.take hk,List.mem_map]
   exact ⟨fun ⟨i,hi,e⟩=>⟨i,List.mem_range.2 hi,e⟩,fun ⟨i,hi,e⟩=>⟨i,List.mem_range.1 hi,e⟩⟩,hx⟩))
 have HV:=Lib.hid hV
 have HD:=Lib.hid hD
 have HL:=Lib.hid hL
 have hdc:=hD.hc
 obtain ⟨ta,hta⟩:∃ z,z=T.a:=⟨_,rfl⟩
 obtain ⟨da,hda⟩:∃ z,z=D.s.a:=⟨_,rfl⟩
 obtain ⟨dn,hdn⟩:∃ z,z=D.s.n:=⟨_,rfl⟩
 obtain ⟨dc,hdc2⟩:∃ z,z=D.s.c:=⟨_,rfl⟩
 simp only [TM.val,←hta] at HMD HAF ⊢
 rw [←hda,←hdn,←hdc2] at HMD
 rw [←hda,←hdn] at HCS
 rw [←hda,←hdn,←hdc2]
 rw [←hdn] at hDn hdc
 rw [←hdc2] at hdc
 have HDA:=Lib.hid (And.intro hda (And.intro hdn hdc2))
 clear hT hV hD hL hta hda hdn hdc2
 go_enter Tryz.func50,Tryz.ntmps50
 go_upto_region 1 with fail
 refine boxed1 (w:=w) (G:=fun x=>Code.wp _ _ _ _ x) ?_
 intro w1 hx1 hs1 ⟨l0,c0,_,_⟩
 have hx11:Ext w1 w1:=Ext.refl _
 clear hs1
 go_wp2_with fail
 go_at_call 71
 refine (HMD.out w1 hx1).mono ?_
 rintro e w2 ⟨hx2,bm,NV,rfl,hM⟩
 have hxw2:=hx1.trans hx2
 have HM:=Lib.hid hM
 have HI0:=Lib.hid (show NdI T.toTr D.l w2 0 (.slice none 0 0) w2 from ⟨Ext.refl _,Que.nil _ _ _⟩)
 clear hM
 go_wp2_with fail
 go_loopg [6,16] dn (fun gg v6 v16 wr=>∃ k:Nat,k≤dn∧gg=dn - k∧v16=.int .i64 k∧NdI T.toTr D.l w2 k v6 wr)
 case atStart=>exact ⟨0,by omega,rfl,rfl,HI0.out⟩
 case round=>
  obtain ⟨k,hk,rfl,rfl,hI⟩:=hrel
  have hx2r:=hI.x
  have hx1r:=hx2.trans hx2r
  have hxwr:=hx1.trans hx1r
  obtain ⟨a6,c6,rfl⟩:=hI.q.slice
  obtain ⟨ln,hln⟩:∃ z,z=(T.toTr.ndL D.l k).length:=⟨_,rfl⟩
  have hlk:ln≤1000:=by rw [hln];have:=ndL_len T.toTr D.l k;omega
  have HLN:=Lib.hid hln
  rw [←hln] at hI ⊢
  have HI:=Lib.hid hI
  clear hI hln HI0
  by_cases hlt:k<dn
  case neg=>
   obtain rfl:k=dn:=by omega
   go_wp2_with fail
   go_ret
   exact ⟨hxwr,_,rfl,HI.out.q.mono hxw2.le⟩
  have hlt':(k:Int)<(dn:Int):=by omega
  have hltD:k<D.s.n:=by rw [←HDA.out.2.1];exact hlt
  obtain rfl:da=some ⟨D.s.b,D.s.o,none⟩:=by rw [HDA.out.1];exact HD.out.ha (by omega)
  have pb:∀ w',Ext w w'→D.s.b<w'.heap.size:=fun w' y=>Nat.lt_of_lt_of_le (HD.out.hb (by omega)) y.le
  have hgk:=D.get hltD
  obtain ⟨x,y,hxV,hyV,hxy⟩:=HL.out.nn (List.mem_of_getElem? hgk)
  have hDX:D.x k=evI x∧D.y k=evI y:=by
   have h1:(D.x k,D.y k)=(evI x,evI y):=hxy
   exact Prod.mk.inj h1
  obtain ⟨xp,xi⟩:=x
  obtain ⟨yp,yi⟩:=y
  have s0:∀ w',Ext w w'→w'.cell? ⟨D.s.b,D.s.o+k*4,none⟩=some (.int .i64 (xp:Int)):=fun w' h=>by rw [h.cell (HD.out.c0 k hltD),hDX.1]
  have s1:∀ w',Ext w w'→w'.cell? ⟨D.s.b,D.s.o+k*4+1,none⟩=some (.int .i64 ((xi:Int)+1)):=fun w' h=>by rw [h.cell (HD.out.c1 k hltD),hDX.1]
  have s2:∀ w',Ext w w'→w'.cell? ⟨D.s.b,D.s.o+k*4+2,none⟩=some (.int .i64 (yp:Int)):=fun w' h=>by rw [h.cell (HD.out.c2 k hltD),hDX.2]
  have s3:∀ w',Ext w w'→w'.cell? ⟨D.s.b,D.s.o+k*4+3,none⟩=some (.int .i64 ((yi:Int)+1)):=fun w' h=>by rw [h.cell (HD.out.c3 k hltD),hDX.2]
  have HG:=Lib.hid (show D.l[k]?=some (evI (xp,xi),evI (yp,yi)) from by rw [hgk];exact congrArg some hxy)
  have HXV:=Lib.hid (And.intro hxV hyV)
  clear hgk hDX hxy hxV hyV
  go_upto_region 6 with fail
  refine boxed1 (w:=wr) (G:=fun x=>Code.wp _ _ _ _ x) ?_
  intro w5 hx5 hs5 ⟨l5,c5,_,_⟩
  have hx15:=hx1r.trans hx5
  have hx25:=hx2r.trans hx5
  have hxw5:=hx1.trans hx15
  have hx55:Ext w5 w5:=Ext.refl _
  have haf:=HAF.out w5.drew hxw5.drew xp xi HXV.out.1.1 HXV.out.1.2
  clear hs5 s0 s1 s2 s3
  refine wp_region_held_drew (S:=fun w'=>Ext w5 w') (by kernel_rfl) (Ext.refl _).drew (fun hHeld=>?_)
  refine hQ 0 (v:=?_) rfl (y:=.inl ⟨by rfl,?_⟩) (h:=?_)
  rotate_left
  ·(intro w' hSw;(try dsimp only at hSw);have hS1:=hx15.trans hSw;have hSS:=Ext.refl w';go_simp;try with_reducible rfl)
  try simp only [Act.put,zA,zB,zC]
  refine hQ 1 (v:=?_) rfl (y:=.inl ⟨by rfl,?_⟩) (h:=?_)
  rotate_left
  ·(intro w' hSw;(try dsimp only at hSw);have hS1:=hx15.trans hSw;have hSS:=Ext.refl w';go_simp;try with_reducible rfl)
  try simp only [Act.put,zA,zB,zC]
  refine hQ 2 (v:=?_) rfl (y:=.inl ⟨by rfl,?_⟩) (h:=?_)
  rotate_left
  ·(intro w' hSw;(try dsimp only at hSw);have hS1:=hx15.trans hSw;have hSS:=Ext.refl w';go_simp;try with_reducible rfl)
  try simp only [Act.put,zA,zB,zC]
  refine hQ 4 (v:=?_) rfl (y:=.inl ⟨by rfl,?_⟩) (h:=?_)
  rotate_left
  ·(intro w' hSw;(try dsimp only at hSw);have hS1:=hx15.trans hSw;have hSS:=Ext.refl w';go_simp;try with_reducible rfl)
  try simp only [Act.put,zA,zB,zC]
  refine hQ 5 (v:=?_) rfl (y:=.inl ⟨by rfl,?_⟩) (h:=?_)
  rotate_left
  ·(intro w' hSw;(try dsimp only at hSw);have hS1:=hx15.trans hSw;have hSS:=Ext.refl w';go_simp;try with_reducible rfl)
  try simp only [Act.put,zA,zB,zC]
  refine wpAnyH_ready (rs:=[3]) (by kernel_rfl) (by simp) ?_
  refine AllReadyH.cons rfl (fun K hK=>?_) AllReadyH.nil
  go_simp
  go_at_call 90
  refine haf.mono ?_
  rintro e w6 ⟨va,rfl,hva,hx6⟩
  have hx56:Ext w5 w6:=(Ext.refl w5).drew.trans hx6
  refine hK.out _ _ ?_ (fun hHeld2=>?_)
  ·exact hx56
  clear hK K
  try simp only [Act.put,zA,zB,zC]
  have hcon:=hasev_any w6 _ va _ hva (by have:=fw_len T.toTr (xp,xi);omega) (yp,yi)
  refine wpAnyH_ready (rs:=[6]) (by kernel_rfl) (by simp) ?_
  refine AllReadyH.cons rfl (fun K hK=>?_) AllReadyH.nil
  go_simp
  go_at_call 89
  refine hcon.mono ?_
  rintro e w7 ⟨bd,rfl,hbd,hx7⟩
  have hx57:=hx56.trans hx7
  refine hK.out _ _ ?_ (fun hHeld3=>?_)
  ·exact hx57
  clear hK K
  try simp only [Act.put,zA,zB,zC]
  have HBD:=Lib.hid hbd
  clear hbd hcon haf hva
  refine hQ 7 (v:=?_) rfl (y:=.inl ⟨by rfl,?_⟩) (h:=?_)
  rotate_left
  ·(intro w' hSw;(try dsimp only at hSw);have hS1:=hx15.trans hSw;have hSS:=Ext.refl w';go_simp;try with_reducible rfl)
  try simp only [Act.put,zA,zB,zC]
  refine wpAnyH_done (by kernel_rfl) ?_ _
  clear hHeld hHeld2 hHeld3 hx6 hx7 hx56
  have hx17:=hx15.trans hx57
  have hx27:=hx25.trans hx57
  have HI7:=Lib.hid (HI.out.ext (hx5.trans hx57))
  have hrc:=reaches_any w7 (HM.out.ext hx27) (V:=T.toTr.V) (fun z hz=>(V_iff z).1 hz) (fun _ hz _ hy=>gr_V HV.out HL.out hz hy) (fun z _=>by have:=gr_len T.toTr D.l z;omega) (fun S hn hv=>Nat.le_trans (evs_count hn hv) (evs_small HV.out)) (xp,xi) (yp,yi) HXV.out.1 92 #[.pointer (some ⟨wr.heap.size,0,none⟩)] (fun z=>decide (z=(yp,yi))) (enters_of Tryz.func92 (by kernel_rfl) rfl)
   (fun z _ w' hx'=>needed1_any w' wr.heap.size z (yp,yi) (fun w'' h=>c5 w'' (hx57.trans (hx'.trans h)) 2) (fun w'' h=>c5 w'' (hx57.trans (hx'.trans h)) 3) (fun w'' h=>l5 w'' (hx57.trans (hx'.trans h))))
  dsimp only at hrc
  go_upto_region 8 with (go_at_call 91;refine hrc.mono ?_;rintro e w8 ⟨br,rfl,hbr,hx8⟩)
  have HBR:=Lib.hid hbr
  have hx58:=hx57.trans hx8
  have hg5:∀ d os,Ext w5 (Sort.grow (redrawn w8 d) os):=fun d os=>hx58.trans (below_regrown w8 d os)
  have hg1:∀ d os,Ext w1 (Sort.grow (redrawn w8 d) os):=fun d os=>hx15.trans (hg5 d os)
  clear hbr hrc
  have hg8:∀ d os,Ext w8 (Sort.grow (redrawn w8 d) os):=fun d os=>below_regrown w8 d os
  have hkc:k≤dc:=by omega
  have HI8:=Lib.hid (HI7.out.ext hx8)
  cases bd with
  | true =>
   have HNN:=Lib.hid (show ¬T.toTr.Ndd D.l k from fun h=>((ndd_iff HG.out).1 h).1 (HBD.out.1 (by trivial)))
   refine wp_region_quiet_below (by kernel_rfl) (by kernel_rfl) ?_
   repeat (go_big_quiet_step (fail))
   refine wpQuiet_nil ?_
   intro _ hw'
   obtain ⟨⟨dq,osq⟩,hw''⟩:=hw'
   subst hw''
   have hx59:=hg5 dq osq
   have hx89:=hg8 dq osq
   clear hg5 hg1 hg8
   generalize Sort.grow (redrawn w8 dq) osq=w9 at hx59 hx89 ⊢
   have HSK:=Lib.hid ((HI8.out.ext hx89).skip HNN.out)
   go_wp2_with fail
   go_roundg (dn - (k+1))
   case rel=>exact ⟨k+1,by omega,rfl,by go_num,HSK.out⟩
   case measure=>omega
  | false =>
  cases br with
  | true =>
   have HNN:=Lib.hid (show ¬T.toTr.Ndd D.l k from fun h=>((ndd_iff HG.out).1 h).2.1 (HBR.out.1 (by trivial)))
   refine wp_region_quiet_below (by kernel_rfl) (by kernel_rfl) ?_
   repeat (go_big_quiet_step (fail))
   refine wpQuiet_nil ?_
   intro _ hw'
   obtain ⟨⟨dq,osq⟩,hw''⟩:=hw'
   subst hw''
   have hx59:=hg5 dq osq
   have hx89:=hg8 dq osq
   clear hg5 hg1 hg8
   generalize Sort.grow (redrawn w8 dq) osq=w9 at hx59 hx89 ⊢
   have HSK:=Lib.hid ((HI8.out.ext hx89).skip HNN.out)
   go_wp2_with fail
   go_roundg (dn - (k+1))
   case rel=>exact ⟨k+1,by omega,rfl,by go_num,HSK.out⟩
   case measure=>omega
  | false =>
  obtain ⟨bo,hbo⟩:=exists_bool ((evI (xp,xi),evI (yp,yi))∈D.l.take k)
  have HBO:=Lib.hid hbo
  have HEK:=Lib.hid (fun W (h:Ext w8 W)=>(show Calls Tryz.prog 93 #[.slice (some ⟨D.s.b,D.s.o,none⟩) k dc,.agg #[.int .i64 (xp:Int),.int .i64 ((xi:Int)+1),.int .i64 (yp:Int),.int .i64 ((yi:Int)+1)]] W (fun e w'=>e=.returned (.bool bo)∧Ext W w') from
   (HCS.out W ((hxw5.trans hx58).trans h) k (by omega) dc (evI (xp,xi),evI (yp,yi))).mono fun e w' ⟨b,he,hb,hx⟩=>⟨by
    have:b=bo:=by
     have h1:=HBO.out
     cases b <;> cases bo <;> simp_all
    rw [he,this],hx⟩))
  clear hbo
  cases bo with
  | true =>
   have HNN:=Lib.hid (show ¬T.toTr.Ndd D.l k from fun h=>((ndd_iff HG.out).1 h).2.2 (HBO.out.1 (by trivial)))
   refine wp_region_quiet_below (by kernel_rfl) (by kernel_rfl) ?_
   repeat (go_big_quiet_step ((exact Calls.regrown_of (HEK.out _ (hg8 _ _)))))
   refine wpQuiet_nil ?_
   intro _ hw'
   obtain ⟨⟨dq,osq⟩,hw''⟩:=hw'
   subst hw''
   have hx59:=hg5 dq osq
   have hx89:=hg8 dq osq
   clear hg5 hg1 hg8
   generalize Sort.grow (redrawn w8 dq) osq=w9 at hx59 hx89 ⊢
   have HSK:=Lib.hid ((HI8.out.ext hx89).skip HNN.out)
   go_wp2_with fail
   go_roundg (dn - (k+1))
   case rel=>exact ⟨k+1,by omega,rfl,by go_num,HSK.out⟩
   case measure=>omega
  | false =>
   have HNY:=Lib.hid (show T.toTr.Ndd D.l k from (ndd_iff HG.out).2 ⟨fun h=>absurd (HBD.out.2 h) (by decide),fun h=>absurd (HBR.out.2 h) (by decide),fun h=>absurd (HBO.out.2 h) (by decide)⟩)
   have HST:=Lib.hid (ndL_yes HNY.out HG.out)
   refine wp_region_quiet_below (by kernel_rfl) (by kernel_rfl) ?_
   repeat (go_big_quiet_step ((exact Calls.regrown_of (HEK.out _ (hg8 _ _)))))
   refine wpQuiet_nil ?_
   intro _ hw'
   obtain ⟨⟨dq,osq⟩,hw''⟩:=hw'
   subst hw''
   have hx59:=hg5 dq osq
   have hx89:=hg8 dq osq
   clear hg5 hg1 hg8
   generalize Sort.grow (redrawn w8 dq) osq=w9 at hx59 hx89 ⊢
   have HI9:=Lib.hid (HI8.out.ext hx89)
   have hx99:Ext w9 w9:=Ext.refl _
   go_upto_region 10 with (at_builtin;refine wpList_append_que _ rfl _ _ 25 25 rfl (base:=w2.heap.size) (e:=81) (size:=4) j0 (.agg #[.int .i64 0,.int .i64 0,.int .i64 0,.int .i64 0]) 32 Tryz.underlying25 hj0 hy0 hy1 hy2 rfl rfl (v:=.slice a6 ln c6) (n:=ln) (xs:=synCells (T.toTr.ndL D.l k)) (by have h1:=(HI9.out.ext (Ext.alloc w9 (.cells #[.int .i64 (xp:Int),.int .i64 ((xi:Int)+1),.int .i64 (yp:Int),.int .i64 ((yi:Int)+1)] 81))).q;rw [←HLN.out] at h1;exact h1) (by rw [World.size_alloc];have:=HI9.out.x.le;omega) (.slice (some ⟨w9.heap.size,0,none⟩) 1 1) 1 [.int .i64 (xp:Int),.int .i64 ((xi:Int)+1),.int .i64 (yp:Int),.int .i64 ((yi:Int)+1)] rfl (by exact Src.ofSlice _ Tryz.underlying25 ⟨w9.heap.size,0,none⟩ 1 1 _ rfl (news_ok w9 _ _) (by intro u hu;simp at hu;rcases hu with rfl | rfl | rfl | rfl <;> rfl)) (by unfold maxLen;omega) (by omega) ?_;rintro v10 w10 hq10 hg10 -;have H10:=Lib.hid (show NdI T.toTr D.l w2 (k+1) v10 w10 from ⟨Below.grown ((HI9.out.x).trans (Ext.alloc w9 (.cells #[.int .i64 (xp:Int),.int .i64 ((xi:Int)+1),.int .i64 (yp:Int),.int .i64 ((yi:Int)+1)] 81))) hg10 (by rw [World.size_alloc];have:=HI9.out.x.le;omega) (fun g e=>by have h1:=HI9.out.q.block g e;omega),by rw [HST.out,synCells_snoc,List.length_append,←HLN.out];exact hq10⟩);clear hq10 hg10)
   go_wp2_with fail
   go_roundg (dn - (k+1))
   case rel=>exact ⟨k+1,by omega,rfl,by go_num,H10.out⟩
   case measure=>omega
end Go.Proofs.YtkhgpockmaghjaaGreat

namespace Go.Proofs.YtkhgpockmaghjaaGreat
open Go.RowKit Go.Shelf
attribute [local go_sem] Oper.semAt_some
def PNeedPost (T:Tr) (L:List Syn) (n:Nat) (w:World) (e:Ending) (w':World):Prop:=Ext w w'∧((∃ r:Int,PFault T L True False r∧r≠0∧e=.returned (.tuple #[.slice none 0 0,.int .i64 r]))∨
 (PFault T L True False 0∧∃ v,e=.returned (.tuple #[v,.int .i64 0])∧Que w' w.heap.size 4 v (T.ndL L n).length (synCells (T.ndL L n))))
set_option maxHeartbeats 1000000 in
theorem pneeded_any (w : World) (T : TM) (hT : T.At w) (hn : T.n ≤ 1000) (D : SyD) (hD : D.At w) :
    Calls Tryz.prog 11 #[T.val,.slice D.s.a D.s.n D.s.c] w (PNeedPost T.toTr D.l D.s.n w):=by
 have HIN:=Lib.hid (fun W=>initial_any W T hn)
 have HCK:=Lib.hid (fun W (h:Ext w W) g (hr:IntRow W g T.n (fun _=>0))=>(show Calls Tryz.prog 48 #[T.val,.slice D.s.a D.s.n D.s.c,.slice (some ⟨g,0,none⟩) T.n T.n] W (fun e w'=>Ext W w'∧∃ r:Int,e=.returned (.int .i64 r)∧PFault T.toTr D.l True False r) from
  (check_any W T (hT.ext h) D (hD.ext h) (some ⟨g,0,none⟩) g 0 T.n T.n (fun _=>0) (hr.num (by omega))).mono fun e w' ⟨hx,r,he,hf⟩=>⟨hx,r,he,hf.zero⟩))
 have HND:=Lib.hid (fun W (h:Ext w W) (hV:T.toTr.Valid) (hL:SynOk T.toTr D.l) (hl:D.l.length≤1000)=>needed_any W T (hT.ext h) hV D (hD.ext h) hL (by rw [D.len] at hl;exact hl))
 unfold PNeedPost
 obtain ⟨ta,hta⟩:∃ z,z=T.a:=⟨_,rfl⟩
 obtain ⟨da,hda⟩:∃ z,z=D.s.a:=⟨_,rfl⟩
 obtain ⟨dn,hdn⟩:∃ z,z=D.s.n:=⟨_,rfl⟩
 simp only [TM.val,←hta] at HIN HCK HND ⊢
 rw [←hda,←hdn] at HCK HND
 rw [←hda,←hdn]
 clear hT hD hta hda hdn
 go_enter Tryz.func11,Tryz.ntmps11
 go_upto_region 1 with fail
 refine boxed1 (w:=w) (G:=fun x=>Code.wp _ _ _ _ x) ?_
 intro w1 hx1 hs1 ⟨l0,c0,_,_⟩
 clear hs1
 refine wp_region_held_drew (S:=fun w'=>Ext w1 w') (by kernel_rfl) (Ext.refl _).drew (fun hHeld=>?_)
 refine hQ 0 (v:=?_) rfl (y:=.inl ⟨by rfl,?_⟩) (h:=?_)
 rotate_left
 ·(intro w' hSw;(try dsimp only at hSw);have hSS:=Ext.refl w';go_simp;try with_reducible rfl)
 try simp only [Act.put,zA,zB,zC]
 refine hQ 1 (v:=?_) rfl (y:=.inl ⟨by rfl,?_⟩) (h:=?_)
 rotate_left
 ·(intro w' hSw;(try dsimp only at hSw);have hSS:=Ext.refl w';go_simp;try with_reducible rfl)
 try simp only [Act.put,zA,zB,zC]
 refine hQ 2 (v:=?_) rfl (y:=.inl ⟨by rfl,?_⟩) (h:=?_)
 rotate_left
 ·(intro w' hSw;(try dsimp only at hSw);have hSS:=Ext.refl w';go_simp;try with_reducible rfl)
 try simp only [Act.put,zA,zB,zC]
 refine wpAnyH_ready (rs:=[3]) (by kernel_rfl) (by simp) ?_
 refine AllReadyH.cons rfl (fun K hK=>?_) AllReadyH.nil
 go_simp
 go_at_call 49
 refine (HIN.out w1.drew).mono ?_
 rintro e w2 ⟨hx2,g,rfl,hr,-⟩
 have hx12:Ext w1 w2:=(Ext.refl w1).drew.trans hx2
 refine hK.out _ _ ?_ (fun hHeld2=>?_)
 ·exact hx12
 clear hK K
 try simp only [Act.put,zA,zB,zC]
 have hck:=HCK.out w2 (hx1.trans hx12) g hr
 refine wpAnyH_ready (rs:=[4]) (by kernel_rfl) (by simp) ?_
 refine AllReadyH.cons rfl (fun K hK=>?_) AllReadyH.nil
 go_simp
 go_at_call 48
 refine hck.mono ?_
 rintro e w3 ⟨hx3,r,rfl,hf⟩
 have hx13:=hx12.trans hx3
 refine hK.out _ _ ?_ (fun hHeld3=>?_)
 ·exact hx13
 clear hK K
 try simp only [Act.put,zA,zB,zC]
 have HF:=Lib.hid hf
 clear hf hck hr
 refine hQ 5 (v:=?_) rfl (y:=.inl ⟨by rfl,?_⟩) (h:=?_)
 rotate_left
 ·(intro w' hSw;(try dsimp only at hSw);have hSS:=Ext.refl w';go_simp;try with_reducible rfl)
 try simp only [Act.put,zA,zB,zC]
 refine wpAnyH_done (by kernel_rfl) ?_ _
 clear hHeld hHeld2 hHeld3 hx2 hx3 hx12
 have hxw3:=hx1.trans hx13
 by_cases h0:r=0
 case neg=>
  have d0:(r == 0)=false:=by simpa using h0
  have H0:=Lib.hid h0
  clear h0
  go_wp2_with fail
  go_ret2
  exact ⟨hxw3,.inl ⟨r,HF.out,H0.out,rfl⟩⟩
 subst h0
 obtain ⟨⟨hV,_⟩,hl,hL,_,hA⟩:=HF.out.ok
 have hnd:=HND.out w3 hxw3 hV hL hl
 clear hV hL hA hl
 go_wp2_with fail
 go_at_call 50
 refine hnd.mono ?_
 rintro e w4 ⟨hx4,v,rfl,hq⟩
 obtain ⟨qa,qc,rfl⟩:=hq.slice
 have HQ:=Lib.hid (hq.mono hxw3.le)
 have hxw4:=hxw3.trans hx4
 clear hq hnd
 go_wp2_with fail
 go_ret2
 exact ⟨hxw4,.inr ⟨HF.out,_,rfl,HQ.out⟩⟩
end Go.Proofs.YtkhgpockmaghjaaGreat
