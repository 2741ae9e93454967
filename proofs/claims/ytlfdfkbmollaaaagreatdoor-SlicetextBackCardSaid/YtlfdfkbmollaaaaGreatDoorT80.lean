/- Contracts and laws in plain Lean for RApp: group T80. -/
import Derived.Test.YtlfdfkbmollaaaaGreatDoorT79
import Derived.Test.YtlfdfkbmollaaaaGreatDoorT36
import Derived.Test.YtlfdfkbmollaaaaGreatDoorT77
import Derived.Test.YtlfdfkbmollaaaaGreatDoorT75
import Derived.Test.YtlfdfkbmollaaaaGreatDoorT71
import Derived.Test.YtlfdfkbmollaaaaGreatDoorT07
import Derived.Test.YtlfdfkbmollaaaaGreatDoorT02
import Derived.Test.YtlfdfkbmollaaaaGreatDoorT18
import Derived.Deep.LoopGhost
set_option maxRecDepth 100000
namespace Go.Proofs.YtlfdfkbmollaaaaGreatDoor
open Go.RowKit Go.Shelf
attribute [local go_sem] Oper.semAt_some
theorem words_eq {n : Nat} {s s' : SetM} (h : s.Good n) (h' : s'.Good n) (u : ∀ k, k < s.m → s.wd k < 18446744073709551616) (u' : ∀ k, k < s'.m → s'.wd k < 18446744073709551616)
    (hb:∀ i,i<n→((s.wd (i / 64)).testBit (i % 64)=true↔(s'.wd (i / 64)).testBit (i % 64)=true)):s.N=s'.N∧s.m=s'.m∧∀ q,q<s.m→s.wd q=s'.wd q:=by
 have hm:s.m=s'.m:=h.hm.trans h'.hm.symm
 refine ⟨h.hN.trans h'.hN.symm,hm,fun q hq=>Nat.eq_of_testBit_eq fun i=>?_⟩
 by_cases h64:i<64
 ·by_cases hn:64*q+i<n
  ·have e:=hb (64*q+i) hn
   rw [show (64*q+i) / 64=q by omega,show (64*q+i) % 64=i by omega] at e
   exact Bool.eq_iff_iff.2 e
  ·have h1:=h.hm
   have h2:q=s.m - 1:=by omega
   have h3:n % 64≠0:=by omega
   have h4:n % 64≤i:=by omega
   have t1:=h.top h3
   have t2:=h'.top h3
   rw [←h2] at t1
   rw [←hm,←h2] at t2
   have hp:2 ^ (n % 64)≤2 ^ i:=Nat.pow_le_pow_right (by omega) h4
   rw [Nat.testBit_lt_two_pow (Nat.lt_of_lt_of_le t1 hp),Nat.testBit_lt_two_pow (Nat.lt_of_lt_of_le t2 hp)]
 ·have hp:18446744073709551616≤2 ^ i:=(show 2 ^ 64≤2 ^ i from Nat.pow_le_pow_right (by omega) (by omega))
  rw [Nat.testBit_lt_two_pow (Nat.lt_of_lt_of_le (u q hq) hp),Nat.testBit_lt_two_pow (Nat.lt_of_lt_of_le (u' q (by omega)) hp)]
set_option maxHeartbeats 4000000 in
theorem samerel_any (w : World) (a1 a2 : Option Addr) (g1 g2 N c1 c2 : Nat) (S1 S2 : Nat → SetM) (bit : Nat → Nat → Prop) (h1 : RelAt a1 g1 N c1 S1 bit w) (h2 : RelAt a2 g2 N c2 S2 bit w) (hN : N ≤ 39) :
    Calls Tryz.prog 24 #[.agg #[.slice a1 N c1],.agg #[.slice a2 N c2]] w fun e w'=>e=.returned (.bool true)∧Ext w w':=by
 have H1:=Lib.hid h1
 have H2:=Lib.hid h2
 have HEQ:=Lib.hid (show ∀ k,k<N→(S1 k).N=(S2 k).N∧(S1 k).m=(S2 k).m∧∀ q,q<(S1 k).m→(S1 k).wd q=(S2 k).wd q from fun k hk=>
  words_eq (h1.set k hk).2 (h2.set k hk).2 (h1.set k hk).1.u (h2.set k hk).1.u fun i hi=>(h1.bit k i hk hi).trans (h2.bit k i hk hi).symm)
 have d0:((N:Int) != (N:Int))=false:=by simp
 clear h1 h2
 go_enter Tryz.func24,Tryz.ntmps24
 go_upto_region 1 with fail
 refine boxed2 (w:=w) (G:=fun x=>Code.wp _ _ _ _ x) ?_
 intro w1 hx1 hs1 ⟨l0,c0,_,_⟩ ⟨l1,c1',_,_⟩
 have hx11:Ext w1 w1:=Ext.refl _
 clear hs1
 go_wp2_with fail
 go_loopg [5] N (fun gg v5 wo=>∃ k:Nat,k≤N∧gg=N - k∧v5=.int .i64 k∧Ext w1 wo)
 case atStart=>exact ⟨0,by omega,by omega,rfl,Ext.refl _⟩
 case round=>
  obtain ⟨k,hk,rfl,rfl,hx1r⟩:=hrel
  have hrr:Ext wr wr:=Ext.refl _
  by_cases hlt:k<N
  ·have hlt':(k:Int)<(N:Int):=by omega
   obtain rfl:=H1.out.pa (by omega)
   obtain rfl:=H2.out.pa (by omega)
   obtain ⟨s,hs⟩:∃ s,s=S1 k:=⟨_,rfl⟩
   obtain ⟨s',hs'⟩:∃ s,s=S2 k:=⟨_,rfl⟩
   have heq:=HEQ.out k hlt
   have hA1:=(H1.out.set k hlt).1
   have hA2:=(H2.out.set k hlt).1
   have HS0:=Lib.hid hs
   rw [←hs] at heq hA1
   rw [←hs'] at heq hA2
   obtain ⟨e1,e2,e3⟩:=heq
   have hxw:=hx1.trans hx1r
   have HZ0:=Lib.hid (fun w' (x:Ext wr w')=>show w'.cell? ⟨g1,k*2,none⟩=some (.int .i64 s.N) from by rw [hs];exact H1.out.c0 w' (hxw.trans x) k hlt)
   have HZ1:=Lib.hid (fun w' (x:Ext wr w')=>show w'.cell? ⟨g1,k*2+1,none⟩=some (.slice s.a s.m s.cap) from by rw [hs];exact H1.out.c1 w' (hxw.trans x) k hlt)
   have HZ2:=Lib.hid (fun w' (x:Ext wr w')=>show w'.cell? ⟨g2,k*2,none⟩=some (.int .i64 s'.N) from by rw [hs'];exact H2.out.c0 w' (hxw.trans x) k hlt)
   have HZ3:=Lib.hid (fun w' (x:Ext wr w')=>show w'.cell? ⟨g2,k*2+1,none⟩=some (.slice s'.a s'.m s'.cap) from by rw [hs'];exact H2.out.c1 w' (hxw.trans x) k hlt)
   have HZ4:=Lib.hid (fun w' (x:Ext wr w')=>H1.out.pb (by omega) w' (hxw.trans x))
   have HZ5:=Lib.hid (fun w' (x:Ext wr w')=>H2.out.pb (by omega) w' (hxw.trans x))
   have HE:=Lib.hid (And.intro e1 (And.intro e2 e3))
   have HA1:=Lib.hid hA1
   have HA2:=Lib.hid hA2
   clear hs hs' e1 e2 e3 hA1 hA2
   go_upto_region 6 with fail
   go_cut [6,7] (fun s6 s7 wx=>∃ b6 b7:Nat,s6=.pointer (some ⟨b6,0,none⟩)∧s7=.pointer (some ⟨b7,0,none⟩)∧Hold wx b6 #[.int .i64 s.N,.slice s.a s.m s.cap]∧Hold wx b7 #[.int .i64 s'.N,.slice s'.a s'.m s'.cap]∧Ext wr wx)
   case first=>
    refine wp_region_T (t:=12) (S:=fun w'=>Ext wr w') (R:=fun _=>True) (by kernel_rfl) (Ext.refl wr).drew trivial (fun hHeld=>?_)
    generalize wr.drew=v0 at hHeld ⊢
    refine takeS 0 (v:=?_) rfl (by kernel_rfl) (by kernel_rfl) (by kernel_rfl) (fun _ _ _ h=>h) (by decide) (Or.inl ⟨by rfl,?_⟩) hHeld.1 hHeld.2 ?_
    rotate_left
    ·intro w' hSw
     have z0:=HZ0.out _ hSw
     have z1:=HZ1.out _ hSw
     have z2:=HZ2.out _ hSw
     have z3:=HZ3.out _ hSw
     have z4:=HZ4.out _ hSw
     have z5:=HZ5.out _ hSw
     have hSX:=hx1r.trans hSw
     have hSS:=Ext.refl w'
     go_simp
     try with_reducible rfl
    try simp only [Act.put,zA,zB,zC]
    refine takeS 1 (v:=?_) rfl (by kernel_rfl) (by kernel_rfl) (by kernel_rfl) (fun _ _ _ h=>h) (by decide) (Or.inl ⟨by rfl,?_⟩) hHeld.1 hHeld.2 ?_
    rotate_left
    ·intro w' hSw
     have z0:=HZ0.out _ hSw
     have z1:=HZ1.out _ hSw
     have z2:=HZ2.out _ hSw
     have z3:=HZ3.out _ hSw
     have z4:=HZ4.out _ hSw
     have z5:=HZ5.out _ hSw
     have hSX:=hx1r.trans hSw
     have hSS:=Ext.refl w'
     go_simp
     try with_reducible rfl
    try simp only [Act.put,zA,zB,zC]
    refine takeS 2 (v:=?_) rfl (by kernel_rfl) (by kernel_rfl) (by kernel_rfl) (fun _ _ _ h=>h) (by decide) (Or.inl ⟨by rfl,?_⟩) hHeld.1 hHeld.2 ?_
    rotate_left
    ·intro w' hSw
     have z0:=HZ0.out _ hSw
     have z1:=HZ1.out _ hSw
     have z2:=HZ2.out _ hSw
     have z3:=HZ3.out _ hSw
     have z4:=HZ4.out _ hSw
     have z5:=HZ5.out _ hSw
     have hSX:=hx1r.trans hSw
     have hSS:=Ext.refl w'
     go_simp
     try with_reducible rfl
    try simp only [Act.put,zA,zB,zC]
    refine takeS 3 (v:=?_) rfl (by kernel_rfl) (by kernel_rfl) (by kernel_rfl) (fun _ _ _ h=>h) (by decide) (Or.inl ⟨by rfl,?_⟩) hHeld.1 hHeld.2 ?_
    rotate_left
    ·intro w' hSw
     have z0:=HZ0.out _ hSw
     have z1:=HZ1.out _ hSw
     have z2:=HZ2.out _ hSw
     have z3:=HZ3.out _ hSw
     have z4:=HZ4.out _ hSw
     have z5:=HZ5.out _ hSw
     have hSX:=hx1r.trans hSw
     have hSS:=Ext.refl w'
     go_simp
     try with_reducible rfl
    try simp only [Act.put,zA,zB,zC]
    refine takeS 4 (v:=?_) rfl (by kernel_rfl) (by kernel_rfl) (by kernel_rfl) (fun _ _ _ h=>h) (by decide) (Or.inl ⟨by rfl,?_⟩) hHeld.1 hHeld.2 ?_
    rotate_left
    ·intro w' hSw
     have z0:=HZ0.out _ hSw
     have z1:=HZ1.out _ hSw
     have z2:=HZ2.out _ hSw
     have z3:=HZ3.out _ hSw
     have z4:=HZ4.out _ hSw
     have z5:=HZ5.out _ hSw
     have hSX:=hx1r.trans hSw
     have hSS:=Ext.refl w'
     go_simp
     try with_reducible rfl
    try simp only [Act.put,zA,zB,zC]
    refine takeS 5 (v:=?_) rfl (by kernel_rfl) (by kernel_rfl) (by kernel_rfl) (fun _ _ _ h=>h) (by decide) (Or.inl ⟨by rfl,?_⟩) hHeld.1 hHeld.2 ?_
    rotate_left
    ·intro w' hSw
     have z0:=HZ0.out _ hSw
     have z1:=HZ1.out _ hSw
     have z2:=HZ2.out _ hSw
     have z3:=HZ3.out _ hSw
     have z4:=HZ4.out _ hSw
     have z5:=HZ5.out _ hSw
     have hSX:=hx1r.trans hSw
     have hSS:=Ext.refl w'
     go_simp
     try with_reducible rfl
    try simp only [Act.put,zA,zB,zC]
    refine takeS 6 (v:=?_) rfl (by kernel_rfl) (by kernel_rfl) (by kernel_rfl) (fun _ _ _ h=>h) (by decide) (Or.inl ⟨by rfl,?_⟩) hHeld.1 hHeld.2 ?_
    rotate_left
    ·intro w' hSw
     have z0:=HZ0.out _ hSw
     have z1:=HZ1.out _ hSw
     have z2:=HZ2.out _ hSw
     have z3:=HZ3.out _ hSw
     have z4:=HZ4.out _ hSw
     have z5:=HZ5.out _ hSw
     have hSX:=hx1r.trans hSw
     have hSS:=Ext.refl w'
     go_simp
     try with_reducible rfl
    try simp only [Act.put,zA,zB,zC]
    refine takeS 7 (v:=?_) rfl (by kernel_rfl) (by kernel_rfl) (by kernel_rfl) (fun _ _ _ h=>h) (by decide) (Or.inl ⟨by rfl,?_⟩) hHeld.1 hHeld.2 ?_
    rotate_left
    ·intro w' hSw
     have z0:=HZ0.out _ hSw
     have z1:=HZ1.out _ hSw
     have z2:=HZ2.out _ hSw
     have z3:=HZ3.out _ hSw
     have z4:=HZ4.out _ hSw
     have z5:=HZ5.out _ hSw
     have hSX:=hx1r.trans hSw
     have hSS:=Ext.refl w'
     go_simp
     try with_reducible rfl
    try simp only [Act.put,zA,zB,zC]
    refine takeS 8 (v:=?_) rfl (by kernel_rfl) (by kernel_rfl) (by kernel_rfl) (fun _ _ _ h=>h) (by decide) (Or.inl ⟨by rfl,?_⟩) hHeld.1 hHeld.2 ?_
    rotate_left
    ·intro w' hSw
     have z0:=HZ0.out _ hSw
     have z1:=HZ1.out _ hSw
     have z2:=HZ2.out _ hSw
     have z3:=HZ3.out _ hSw
     have z4:=HZ4.out _ hSw
     have z5:=HZ5.out _ hSw
     have hSX:=hx1r.trans hSw
     have hSS:=Ext.refl w'
     go_simp
     try with_reducible rfl
    try simp only [Act.put,zA,zB,zC]
    refine takeS 9 (v:=?_) rfl (by kernel_rfl) (by kernel_rfl) (by kernel_rfl) (fun _ _ _ h=>h) (by decide) (Or.inl ⟨by rfl,?_⟩) hHeld.1 hHeld.2 ?_
    rotate_left
    ·intro w' hSw
     have z0:=HZ0.out _ hSw
     have z1:=HZ1.out _ hSw
     have z2:=HZ2.out _ hSw
     have z3:=HZ3.out _ hSw
     have z4:=HZ4.out _ hSw
     have z5:=HZ5.out _ hSw
     have hSX:=hx1r.trans hSw
     have hSS:=Ext.refl w'
     go_simp
     try with_reducible rfl
    try simp only [Act.put,zA,zB,zC]
    refine wpAnyT_ready (rs:=[10,11]) (by kernel_rfl) (by simp) ?_
    refine AllReadyT.cons rfl (fun K hK=>?_) (AllReadyT.cons rfl (fun K hK=>?_) AllReadyT.nil)
    ·have hway:=0
     clear hway
     go_simp
     refine hK.out _ _ ⟨hHeld.1.alloc' _,trivial⟩ (fun hH2=>?_)
     clear hK K
     try simp only [Act.put,zA,zB,zC]
     have HN1:=Lib.hid (Hold.new v0 #[.int .i64 0,.slice none 0 0] 124)
     have hv0:=hHeld.1.le
     clear hHeld
     obtain ⟨b6,hba⟩:∃ z,z=v0.heap.size:=⟨_,rfl⟩
     rw [←hba] at HN1 ⊢
     have HBA:=Lib.hid hba
     clear hba
     have hx01:Ext v0 (v0.alloc (.cells #[.int .i64 0,.slice none 0 0] 124)):=Ext.alloc _ _
     generalize v0.alloc (.cells #[.int .i64 0,.slice none 0 0] 124)=v1 at HN1 hH2 hx01 ⊢
     refine wpAnyT_ready (rs:=[11]) (by kernel_rfl) (by simp) ?_
     refine AllReadyT.cons rfl (fun K hK=>?_) AllReadyT.nil
     go_simp
     refine hK.out _ _ ⟨hH2.1.alloc' _,trivial⟩ (fun hH3=>?_)
     clear hK K
     try simp only [Act.put,zA,zB,zC]
     have HN2:=Lib.hid (Hold.new v1 #[.int .i64 0,.slice none 0 0] 124)
     have hx12v:Ext v1 (v1.alloc (.cells #[.int .i64 0,.slice none 0 0] 124)):=Ext.alloc _ _
     have hab:v1.heap.size≠b6:=by have:=HN1.out.lt;omega
     have hv1:=hH2.1.le
     clear hH2
     obtain ⟨b7,hbb⟩:∃ z,z=v1.heap.size:=⟨_,rfl⟩
     rw [←hbb] at HN2 hab ⊢
     generalize v1.alloc (.cells #[.int .i64 0,.slice none 0 0] 124)=v2 at HN2 hH3 hx12v ⊢
     have HA:=Lib.hid (HN1.out.ext hx12v)
     have hS2:=hH3.1
     have hba:=HBA.out
     have h6:wr.heap.size≤b6:=by omega
     have h7:wr.heap.size≤b7:=by omega
     have h67:b7≠b6:=by omega
     clear HN1 hH3 hba hbb hx01 hx12v hab hv0 hv1
     obtain ⟨m6,k6,f6,_⟩:=HA.out.box
     have h22:Ext v2 v2:=Ext.refl _
     refine wpAnyT_ready (rs:=[12]) (by kernel_rfl) (by simp) ?_
     refine AllReadyT.late rfl (by decide) (fun K hK=>?_) AllReadyT.nil
     go_simp
     refine hK.out _ _ ((hS2.setCell (p:=⟨b6,0,none⟩) h6 _).setCell (p:=⟨b6,1,none⟩) h6 _) (fun hH4=>?_)
     clear hK K
     try simp only [Act.put,zA,zB,zC]
     have HP6:=Lib.hid (show Hold ((v2.setCell ⟨b6,0,none⟩ (.int .i64 s.N)).setCell ⟨b6,1,none⟩ (.slice s.a s.m s.cap)) b6 #[.int .i64 s.N,.slice s.a s.m s.cap] from (HA.out.set 0 _).set 1 _)
     have HP7:=Lib.hid (show Hold ((v2.setCell ⟨b6,0,none⟩ (.int .i64 s.N)).setCell ⟨b6,1,none⟩ (.slice s.a s.m s.cap)) b7 _ from (HN2.out.other _ _ (by show b7≠b6;exact h67)).other _ _ (by show b7≠b6;exact h67))
     clear m6 k6 f6 h22
     generalize (v2.setCell ⟨b6,0,none⟩ (.int .i64 s.N)).setCell ⟨b6,1,none⟩ (.slice s.a s.m s.cap)=v3 at HP6 HP7 hH4 ⊢
     obtain ⟨m7,k7,f7,_⟩:=HP7.out.box
     have h33:Ext v3 v3:=Ext.refl _
     refine wpAnyT_ready (rs:=[13]) (by kernel_rfl) (by simp) ?_
     refine AllReadyT.late rfl (by decide) (fun K hK=>?_) AllReadyT.nil
     go_simp
     refine hK.out _ _ ((hH4.setCell (p:=⟨b7,0,none⟩) h7 _).setCell (p:=⟨b7,1,none⟩) h7 _) (fun hH5=>?_)
     clear hK K
     try simp only [Act.put,zA,zB,zC]
     refine wpAnyT_done (by kernel_rfl) ?_ _
     go_wp2_with fail
     go_meet
     case rel=>exact ⟨b6,b7,rfl,rfl,(HP6.out.other _ _ (by show b6≠b7;exact fun e=>h67 e.symm)).other _ _ (by show b6≠b7;exact fun e=>h67 e.symm),(HP7.out.set 0 _).set 1 _,hH5⟩
    ·have hway:=0
     clear hway
     go_simp
     refine hK.out _ _ ⟨hHeld.1.alloc' _,trivial⟩ (fun hH2=>?_)
     clear hK K
     try simp only [Act.put,zA,zB,zC]
     have HN1:=Lib.hid (Hold.new v0 #[.int .i64 0,.slice none 0 0] 124)
     have hv0:=hHeld.1.le
     clear hHeld
     obtain ⟨b7,hba⟩:∃ z,z=v0.heap.size:=⟨_,rfl⟩
     rw [←hba] at HN1 ⊢
     have HBA:=Lib.hid hba
     clear hba
     have hx01:Ext v0 (v0.alloc (.cells #[.int .i64 0,.slice none 0 0] 124)):=Ext.alloc _ _
     generalize v0.alloc (.cells #[.int .i64 0,.slice none 0 0] 124)=v1 at HN1 hH2 hx01 ⊢
     refine wpAnyT_ready (rs:=[10]) (by kernel_rfl) (by simp) ?_
     refine AllReadyT.cons rfl (fun K hK=>?_) AllReadyT.nil
     go_simp
     refine hK.out _ _ ⟨hH2.1.alloc' _,trivial⟩ (fun hH3=>?_)
     clear hK K
     try simp only [Act.put,zA,zB,zC]
     have HN2:=Lib.hid (Hold.new v1 #[.int .i64 0,.slice none 0 0] 124)
     have hx12v:Ext v1 (v1.alloc (.cells #[.int .i64 0,.slice none 0 0] 124)):=Ext.alloc _ _
     have hab:v1.heap.size≠b7:=by have:=HN1.out.lt;omega
     have hv1:=hH2.1.le
     clear hH2
     obtain ⟨b6,hbb⟩:∃ z,z=v1.heap.size:=⟨_,rfl⟩
     rw [←hbb] at HN2 hab ⊢
     generalize v1.alloc (.cells #[.int .i64 0,.slice none 0 0] 124)=v2 at HN2 hH3 hx12v ⊢
     have HA:=Lib.hid (HN1.out.ext hx12v)
     have hS2:=hH3.1
     have hba:=HBA.out
     have h6:wr.heap.size≤b6:=by omega
     have h7:wr.heap.size≤b7:=by omega
     have h67:b7≠b6:=by omega
     clear HN1 hH3 hba hbb hx01 hx12v hab hv0 hv1
     obtain ⟨m6,k6,f6,_⟩:=HN2.out.box
     have h22:Ext v2 v2:=Ext.refl _
     refine wpAnyT_ready (rs:=[12]) (by kernel_rfl) (by simp) ?_
     refine AllReadyT.late rfl (by decide) (fun K hK=>?_) AllReadyT.nil
     go_simp
     refine hK.out _ _ ((hS2.setCell (p:=⟨b6,0,none⟩) h6 _).setCell (p:=⟨b6,1,none⟩) h6 _) (fun hH4=>?_)
     clear hK K
     try simp only [Act.put,zA,zB,zC]
     have HP6:=Lib.hid (show Hold ((v2.setCell ⟨b6,0,none⟩ (.int .i64 s.N)).setCell ⟨b6,1,none⟩ (.slice s.a s.m s.cap)) b6 #[.int .i64 s.N,.slice s.a s.m s.cap] from (HN2.out.set 0 _).set 1 _)
     have HP7:=Lib.hid (show Hold ((v2.setCell ⟨b6,0,none⟩ (.int .i64 s.N)).setCell ⟨b6,1,none⟩ (.slice s.a s.m s.cap)) b7 _ from (HA.out.other _ _ (by show b7≠b6;exact h67)).other _ _ (by show b7≠b6;exact h67))
     clear m6 k6 f6 h22
     generalize (v2.setCell ⟨b6,0,none⟩ (.int .i64 s.N)).setCell ⟨b6,1,none⟩ (.slice s.a s.m s.cap)=v3 at HP6 HP7 hH4 ⊢
     obtain ⟨m7,k7,f7,_⟩:=HP7.out.box
     have h33:Ext v3 v3:=Ext.refl _
     refine wpAnyT_ready (rs:=[13]) (by kernel_rfl) (by simp) ?_
     refine AllReadyT.late rfl (by decide) (fun K hK=>?_) AllReadyT.nil
     go_simp
     refine hK.out _ _ ((hH4.setCell (p:=⟨b7,0,none⟩) h7 _).setCell (p:=⟨b7,1,none⟩) h7 _) (fun hH5=>?_)
     clear hK K
     try simp only [Act.put,zA,zB,zC]
     refine wpAnyT_done (by kernel_rfl) ?_ _
     go_wp2_with fail
     go_meet
     case rel=>exact ⟨b6,b7,rfl,rfl,(HP6.out.other _ _ (by show b6≠b7;exact fun e=>h67 e.symm)).other _ _ (by show b6≠b7;exact fun e=>h67 e.symm),(HP7.out.set 0 _).set 1 _,hH5⟩
   case rest=>
    obtain ⟨b6,b7,rfl,rfl,hh6,hh7,hxc⟩:=hcut
    rw [←HE.out.1,←HE.out.2.1] at hh7
    obtain ⟨xn,hxn⟩:∃ z,z=s.N:=⟨_,rfl⟩
    obtain ⟨xm,hxm⟩:∃ z,z=s.m:=⟨_,rfl⟩
    obtain ⟨xa,hxa⟩:∃ z,z=s.a:=⟨_,rfl⟩
    obtain ⟨xc,hxc'⟩:∃ z,z=s.cap:=⟨_,rfl⟩
    obtain ⟨ya,hya⟩:∃ z,z=s'.a:=⟨_,rfl⟩
    obtain ⟨yc,hyc⟩:∃ z,z=s'.cap:=⟨_,rfl⟩
    rw [←hxn,←hxm,←hxa,←hxc'] at hh6
    rw [←hxn,←hxm,←hya,←hyc] at hh7
    have HWD:=Lib.hid (show ∀ q,q<xm→xa=some ⟨s.b,s.off,none⟩∧ya=some ⟨s'.b,s'.off,none⟩∧(∀ w',Ext w w'→w'.cell? ⟨s.b,s.off+q,none⟩=some (.int .u64 (s.wd q)))∧(∀ w',Ext w w'→w'.cell? ⟨s'.b,s'.off+q,none⟩=some (.int .u64 (s.wd q)))∧(∀ w',Ext w w'→s.b<w'.heap.size)∧∀ w',Ext w w'→s'.b<w'.heap.size from fun q hq=>by
     have q1:q<s.m:=by rw [←hxm];exact hq
     have q2:q<s'.m:=by rw [←HE.out.2.1];exact q1
     refine ⟨by rw [hxa];exact HA1.out.pa (by omega),by rw [hya];exact HA2.out.pa (by omega),fun w' x=>HA1.out.p0 w' x q q1,fun w' x=>?_,fun w' x=>HA1.out.pb (by omega) w' x,fun w' x=>HA2.out.pb (by omega) w' x⟩
     rw [HE.out.2.2 q q1];exact HA2.out.p0 w' x q q2)
    have hxm9:xm≤1000:=by
     have h:=(H1.out.set k hlt).2.hm
     rw [←HS0.out] at h
     rw [hxm,h];omega
    clear hxn hxm hxa hxc' hya hyc HE HA1 HA2 HZ0 HZ1 HZ2 HZ3 HZ4 HZ5
    have HB6:=Lib.hid hh6
    have HB7:=Lib.hid hh7
    obtain ⟨m6,k6,_,_⟩:=hh6.box
    obtain ⟨m7,k7,_,_⟩:=hh7.box
    clear hh6 hh7
    have hcc:Ext wc wc:=Ext.refl _
    have d2:(xn != xn)=false:=by simp
    have d3:((xm:Int) != (xm:Int))=false:=by simp
    go_wp2_with fail
    go_loopg [8] xm (fun gg v8 wi=>∃ q:Nat,q≤xm∧gg=xm - q∧v8=.int .i64 q∧Ext wc wi)
    case atStart=>exact ⟨0,by omega,by omega,rfl,hcc⟩
    case round=>
     obtain ⟨q,hq,rfl,rfl,hxi⟩:=hrel
     have hrr:Ext wr wr:=Ext.refl _
     by_cases hlq:q<xm
     ·have hlq':(q:Int)<(xm:Int):=by omega
      obtain ⟨rfl,rfl,p1,p2,p3,p4⟩:=HWD.out q hlq
      obtain ⟨y,hy⟩:∃ y,y=s.wd q:=⟨_,rfl⟩
      rw [←hy] at p1 p2
      have d4:((y:Int) != (y:Int))=false:=by simp
      clear hy
      have hxwr:=hxc.trans hxi
      have hxww:=hxw.trans hxwr
      go_upto_region 12 with fail
      have hgw:∀ d os,Ext w (Sort.grow (redrawn wr d) os):=fun d os=>hxww.trans (below_regrown wr d os)
      have hgc:∀ d os,Ext wc (Sort.grow (redrawn wr d) os):=fun d os=>hxi.trans (below_regrown wr d os)
      refine wp_region_quiet_below (by kernel_rfl) (by kernel_rfl) ?_
      repeat (go_big_quiet_step (fail))
      refine wpQuiet_nil ?_
      intro _ hw'
      obtain ⟨⟨dq,osq⟩,hw''⟩:=hw'
      subst hw''
      have hxq:=hgc dq osq
      clear hgw hgc
      go_wp2_with fail
      go_roundg (xm - (q+1))
      case rel=>exact ⟨q+1,by omega,rfl,by go_num,hxq⟩
      case measure=>omega
     ·have hlq':¬(q:Int)<(xm:Int):=by omega
      go_wp2_with fail
      go_roundg (N - (k+1))
      case rel=>exact ⟨k+1,by omega,rfl,by go_num,(hx1r.trans hxc).trans hxi⟩
      case measure=>omega
  ·have hlt':¬(k:Int)<(N:Int):=by omega
   go_wp2_with fail
   go_ret
   exact ⟨rfl,hx1.trans hx1r⟩
end Go.Proofs.YtlfdfkbmollaaaaGreatDoor

namespace Go.Proofs.YtlfdfkbmollaaaaGreatDoor
open Go.RowKit Go.Shelf Go.Deep
attribute [local go_sem] Oper.semAt_some
structure GrpR (G:List (List EvE)) (N:Nat) (a:Option Addr) (g o:Nat) (na:Nat→Option Addr) (nb no nc:Nat→Nat) (w:World):Prop where
 pa:0<N→a=some ⟨g,o,none⟩
 pb:0<N→∀ w',Ext w w'→g<w'.heap.size
 c:∀ k,k<N→∀ w',Ext w w'→w'.cell? ⟨g,o+k,none⟩=some (.slice (na k) (G.getD k []).length (nc k))
 qa:∀ k,k<N→0<(G.getD k []).length→na k=some ⟨nb k,no k,none⟩
 qb:∀ k,k<N→0<(G.getD k []).length→∀ w',Ext w w'→nb k<w'.heap.size
 d0:∀ k i,k<N→i<(G.getD k []).length→∀ w',Ext w w'→w'.cell? ⟨nb k,no k+i*2,none⟩=some (.int .i64 ((G.getD k []).getD i (0,0)).1)
 d1:∀ k i,k<N→i<(G.getD k []).length→∀ w',Ext w w'→w'.cell? ⟨nb k,no k+i*2+1,none⟩=some (.int .i64 ((G.getD k []).getD i (0,0)).2)
theorem GrpQ.read {w:World} {base:Nat} {vg:Value} {G:List (List EvE)} (h:GrpQ w base vg G):∃ a c g o na nb no nc,vg=.slice a G.length c∧GrpR G G.length a g o na nb no nc w:=by
 obtain ⟨NG,h1,h2⟩:=h
 obtain ⟨f,hf⟩:=choose_lt (p:=fun k (f:Option Addr × Nat × Nat × Nat)=>NG k=.slice f.1 (G.getD k []).length f.2.2.2∧(0<(G.getD k []).length→f.1=some ⟨f.2.1,f.2.2.1,none⟩∧f.2.1<w.heap.size)∧∀ i,i<(G.getD k []).length→w.cell? ⟨f.2.1,f.2.2.1+i*2,none⟩=some (.int .i64 ((G.getD k []).getD i (0,0)).1)∧w.cell? ⟨f.2.1,f.2.2.1+i*2+1,none⟩=some (.int .i64 ((G.getD k []).getD i (0,0)).2)) (n:=G.length) fun k hk=>by
  rcases (h2 k hk).val with ⟨ao,hv,hn,_⟩ | ⟨g,off,cap,hv,_,hb,_,_,h5,_⟩
  ·exact ⟨(ao,0,0,0),by rw [hv,hn],fun h0=>by omega,fun i hi=>by omega⟩
  ·refine ⟨(some ⟨g,off,none⟩,g,off,cap),hv,fun _=>⟨rfl,hb⟩,fun i hi=>?_⟩
   have e:(G.getD k []).getD i (0,0)=(G.getD k [])[i]:=by rw [List.getD_eq_getElem?_getD,List.getElem?_eq_getElem hi];rfl
   rw [e]
   exact ⟨(h5 (i*2) (by omega)).trans (evCells_get0 _ i hi),by rw [Nat.add_assoc];exact (h5 (i*2+1) (by omega)).trans (evCells_get1 _ i hi)⟩
 rcases h1.val with ⟨ao,hv,hn,_⟩ | ⟨g,off,cap,hv,_,hb,_,_,h5,_⟩
 ·exact ⟨ao,0,0,0,fun k=>(f k).1,fun k=>(f k).2.1,fun k=>(f k).2.2.1,fun k=>(f k).2.2.2,by rw [hv,hn],⟨fun h0=>by omega,fun h0=>by omega,fun k hk=>by omega,fun k hk=>by omega,fun k hk=>by omega,fun k i hk=>by omega,fun k i hk=>by omega⟩⟩
 ·refine ⟨some ⟨g,off,none⟩,cap,g,off,fun k=>(f k).1,fun k=>(f k).2.1,fun k=>(f k).2.2.1,fun k=>(f k).2.2.2,hv,⟨fun _=>rfl,fun _ w' x=>Nat.lt_of_lt_of_le hb x.le,fun k hk w' x=>?_,fun k hk h0=>((hf k hk).2.1 h0).1,fun k hk h0 w' x=>Nat.lt_of_lt_of_le ((hf k hk).2.1 h0).2 x.le,fun k i hk hi w' x=>x.cell ((hf k hk).2.2 i hi).1,fun k i hk hi w' x=>x.cell ((hf k hk).2.2 i hi).2⟩⟩
  refine x.cell ?_
  rw [h5 k (by omega),List.getElem?_map,List.getElem?_range hk]
  exact congrArg some (hf k hk).1
set_option maxHeartbeats 4000000 in
theorem samegrp_any (w : World) (G : List (List EvE)) (N : Nat) (a1 a2 : Option Addr) (g1 o1 g2 o2 c1 c2 : Nat) (na1 na2 : Nat → Option Addr) (nb1 no1 nc1 nb2 no2 nc2 : Nat → Nat) (h1 : GrpR G N a1 g1 o1 na1 nb1 no1 nc1 w) (h2 : GrpR G N a2 g2 o2 na2 nb2 no2 nc2 w) (hN : N ≤ 39) (hL : ∀ k, (G.getD k []).length ≤ 39) :
    Calls Tryz.prog 22 #[.slice a1 N c1,.slice a2 N c2] w fun e w'=>e=.returned (.bool true)∧Ext w w':=by
 have H1:=Lib.hid h1
 have H2:=Lib.hid h2
 have HL:=Lib.hid hL
 have d0:((N:Int) != (N:Int))=false:=by simp
 clear h1 h2 hL
 go_enter Tryz.func22,Tryz.ntmps22
 go_wp2_with fail
 go_loopg [5] N (fun gg v5 wo=>∃ k:Nat,k≤N∧gg=N - k∧v5=.int .i64 k∧Ext w wo)
 case atStart=>exact ⟨0,by omega,by omega,rfl,Ext.refl _⟩
 case round=>
  obtain ⟨k,hk,rfl,rfl,hxr⟩:=hrel
  have hrr:Ext wr wr:=Ext.refl _
  by_cases hlt:k<N
  ·have hlt':(k:Int)<(N:Int):=by omega
   obtain rfl:=H1.out.pa (by omega)
   obtain rfl:=H2.out.pa (by omega)
   obtain ⟨L,hLk⟩:∃ L,L=(G.getD k []).length:=⟨_,rfl⟩
   have k1:=H1.out.c k hlt
   have k2:=H2.out.c k hlt
   have b1:=H1.out.pb (by omega)
   have b2:=H2.out.pb (by omega)
   have hL9:=HL.out k
   obtain ⟨x1,hx1⟩:∃ z,z=na1 k:=⟨_,rfl⟩
   obtain ⟨x2,hx2⟩:∃ z,z=na2 k:=⟨_,rfl⟩
   obtain ⟨y1,hy1⟩:∃ z,z=nc1 k:=⟨_,rfl⟩
   obtain ⟨y2,hy2⟩:∃ z,z=nc2 k:=⟨_,rfl⟩
   rw [←hLk] at k1 k2 hL9
   rw [←hx1,←hy1] at k1
   rw [←hx2,←hy2] at k2
   have HX:=Lib.hid (And.intro hx1 (And.intro hx2 hLk))
   clear hx1 hx2 hy1 hy2 hLk
   have d1:((L:Int) != (L:Int))=false:=by simp
   have hgw:∀ d os,Ext w (Sort.grow (redrawn wr d) os):=fun d os=>hxr.trans (below_regrown wr d os)
   go_upto_region 6 with fail
   refine wp_region_quiet_below (by kernel_rfl) (by kernel_rfl) ?_
   repeat (go_big_quiet_step (fail))
   refine wpQuiet_nil ?_
   intro _ hw'
   obtain ⟨⟨dq,osq⟩,hw''⟩:=hw'
   subst hw''
   have hxq:=hgw dq osq
   clear hgw
   go_wp2_with fail
   go_loopg [6] L (fun gg v6 wi=>∃ i:Nat,i≤L∧gg=L - i∧v6=.int .i64 i∧Ext w wi)
   case atStart=>exact ⟨0,by omega,by omega,rfl,hxq⟩
   case round=>
    obtain ⟨i,hi,rfl,rfl,hxi⟩:=hrel
    have hrr:Ext wr wr:=Ext.refl _
    by_cases hil:i<L
    ·have hil':(i:Int)<(L:Int):=by omega
     have hie:i<(G.getD k []).length:=by rw [←HX.out.2.2];exact hil
     obtain rfl:x1=some ⟨nb1 k,no1 k,none⟩:=by rw [HX.out.1];exact H1.out.qa k hlt (by omega)
     obtain rfl:x2=some ⟨nb2 k,no2 k,none⟩:=by rw [HX.out.2.1];exact H2.out.qa k hlt (by omega)
     obtain ⟨p,hp⟩:∃ p,p=((G.getD k []).getD i (0,0)).1:=⟨_,rfl⟩
     obtain ⟨z,hz⟩:∃ p,p=((G.getD k []).getD i (0,0)).2:=⟨_,rfl⟩
     have p1:=H1.out.d0 k i hlt hie
     have p2:=H1.out.d1 k i hlt hie
     have p3:=H2.out.d0 k i hlt hie
     have p4:=H2.out.d1 k i hlt hie
     have q1:=H1.out.qb k hlt (by omega)
     have q2:=H2.out.qb k hlt (by omega)
     rw [←hp] at p1 p3
     rw [←hz] at p2 p4
     clear hp hz hie
     go_upto_region 11 with fail
     have hgw:∀ d os,Ext w (Sort.grow (redrawn wr d) os):=fun d os=>hxi.trans (below_regrown wr d os)
     refine wp_region_quiet_below (by kernel_rfl) (by kernel_rfl) ?_
     repeat (go_big_quiet_step (fail))
     refine wpQuiet_nil ?_
     intro _ hw'
     obtain ⟨⟨dq,osq⟩,hw''⟩:=hw'
     subst hw''
     have hxq:=hgw dq osq
     clear hgw
     go_wp2_with fail
     go_roundg (L - (i+1))
     case rel=>exact ⟨i+1,by omega,rfl,by go_num,hxq⟩
     case measure=>omega
    ·have hil':¬(i:Int)<(L:Int):=by omega
     go_wp2_with fail
     go_roundg (N - (k+1))
     case rel=>exact ⟨k+1,by omega,rfl,by go_num,hxi⟩
     case measure=>omega
  ·have hlt':¬(k:Int)<(N:Int):=by omega
   go_wp2_with fail
   go_ret
   exact ⟨rfl,hxr⟩
end Go.Proofs.YtlfdfkbmollaaaaGreatDoor

namespace Go.Proofs.YtlfdfkbmollaaaaGreatDoor
open Go.RowKit Go.Shelf
attribute [local go_sem] Oper.semAt_some
set_option maxHeartbeats 4000000 in
theorem same34_any (w : World) (S S' : SlcD) (s : SL) (hS : S.At w) (hS' : S'.At w) (h : S.Is s) (h' : S'.Is s) :
    Calls Tryz.prog 12 #[S.val,S'.val] w fun e w'=>e=.returned (.bool true)∧Ext w w':=by
 have efn:S'.f.s.n=S.f.s.n:=h'.fn.trans h.fn.symm
 have eln:S'.l.s.n=S.l.s.n:=h'.ln.trans h.ln.symm
 have ejn:S'.j.s.n=S.j.s.n:=h'.jn.trans h.jn.symm
 have eem:S'.em=S.em:=h'.em.trans h.em.symm
 have hjn9:S.j.s.n≤140737488355328:=hS.j.s.hn
 have HF:=Lib.hid (fun W (x:Ext w W)=>(show Calls Tryz.prog 38 #[.slice S.f.s.a S.f.s.n S.f.s.c,.slice S'.f.s.a S.f.s.n S'.f.s.c] W (fun e w'=>e=.returned (.bool true)∧Ext W w') from by
  rw [←efn]
  refine (rsi14_any W S.f.s.a S'.f.s.a _ _ _ _ S'.f.s.n S'.f.s.n S.f.s.c S'.f.s.c S.f.z S'.f.z (by rw [efn];exact hS.f.num.ext x) (hS'.f.num.ext x)).mono ?_
  rintro e w' ⟨b,rfl,hb,hx⟩
  obtain rfl:b=true:=hb.2 ⟨rfl,fun i hi=>(h.fz i (by rw [←h'.fn];exact hi)).trans (h'.fz i (by rw [←h'.fn];exact hi)).symm⟩
  exact ⟨rfl,hx⟩))
 have HL:=Lib.hid (fun W (x:Ext w W)=>(show Calls Tryz.prog 38 #[.slice S.l.s.a S.l.s.n S.l.s.c,.slice S'.l.s.a S.l.s.n S'.l.s.c] W (fun e w'=>e=.returned (.bool true)∧Ext W w') from by
  rw [←eln]
  refine (rsi14_any W S.l.s.a S'.l.s.a _ _ _ _ S'.l.s.n S'.l.s.n S.l.s.c S'.l.s.c S.l.z S'.l.z (by rw [eln];exact hS.l.num.ext x) (hS'.l.num.ext x)).mono ?_
  rintro e w' ⟨b,rfl,hb,hx⟩
  obtain rfl:b=true:=hb.2 ⟨rfl,fun i hi=>(h.lz i (by rw [←h'.ln];exact hi)).trans (h'.lz i (by rw [←h'.ln];exact hi)).symm⟩
  exact ⟨rfl,hx⟩))
 have HM:=Lib.hid (show ∀ p,p<S.j.s.n→∀ W,Ext w W→Calls Tryz.prog 39 #[(S.j.m p).v,(S'.j.m p).v] W (fun e w'=>e=.returned (.bool true)∧Ext W w') from fun p hp W x=>
  sameLists_any W (S.j.m p) (S'.j.m p) ((hS.j.c p hp).2.at'.ext x) ((hS'.j.c p (by rw [ejn];exact hp)).2.at'.ext x) true ⟨fun _=>by
   have hps:p<s.j.length:=by rw [←h.jn];exact hp
   have e1:=h.mn p hps
   have e2:=h'.mn p hps
   refine ⟨e1.trans e2.symm,fun k hk=>?_⟩
   have hk':k<(s.j.getD p []).length:=by rw [←e1];exact hk
   have e3:=h.rn p k hps hk'
   have e4:=h'.rn p k hps hk'
   exact ⟨e3.trans e4.symm,fun i hi=>(h.vz p k i hps hk' (by rw [←e3];exact hi)).trans (h'.vz p k i hps hk' (by rw [←e3];exact hi)).symm⟩,fun _=>rfl⟩)
 have HC:=Lib.hid (show ∀ p,p<S.j.s.n→(∀ w',Ext w w'→w'.cell? ⟨S.j.s.b,S.j.s.o+p,none⟩=some (S.j.m p).v)∧(∀ w',Ext w w'→w'.cell? ⟨S'.j.s.b,S'.j.s.o+p,none⟩=some (S'.j.m p).v)∧S.j.s.a=some ⟨S.j.s.b,S.j.s.o,none⟩∧S'.j.s.a=some ⟨S'.j.s.b,S'.j.s.o,none⟩∧(∀ w',Ext w w'→S.j.s.b<w'.heap.size)∧∀ w',Ext w w'→S'.j.s.b<w'.heap.size from fun p hp=>by
  have hp':p<S'.j.s.n:=by rw [ejn];exact hp
  exact ⟨fun w' x=>x.cell (hS.j.c p hp).1,fun w' x=>x.cell (hS'.j.c p hp').1,hS.j.s.ha (by omega),hS'.j.s.ha (by omega),fun w' x=>Nat.lt_of_lt_of_le (hS.j.s.hb (by omega)) x.le,fun w' x=>Nat.lt_of_lt_of_le (hS'.j.s.hb (by omega)) x.le⟩)
 obtain ⟨ja,hja⟩:∃ z,z=S.j.s.a:=⟨_,rfl⟩
 obtain ⟨ja',hja'⟩:∃ z,z=S'.j.s.a:=⟨_,rfl⟩
 have hv:S.val=.agg #[.bool S.em,.slice S.f.s.a S.f.s.n S.f.s.c,.slice S.l.s.a S.l.s.n S.l.s.c,.slice ja S.j.s.n S.j.s.c]:=by rw [hja]
 have hv':S'.val=.agg #[.bool S.em,.slice S'.f.s.a S.f.s.n S'.f.s.c,.slice S'.l.s.a S.l.s.n S'.l.s.c,.slice ja' S.j.s.n S'.j.s.c]:=by rw [hja',←efn,←eln,←ejn,←eem]
 rw [hv,hv']
 rw [←hja,←hja'] at HC
 generalize S.j.s.n=N at *
 have d0:(S.em != S.em)=false:=by simp
 have d1:((N:Int) != (N:Int))=false:=by simp
 clear hv hv' hja hja' efn eln ejn eem h h' hS hS'
 go_enter Tryz.func12,Tryz.ntmps12
 go_upto_region 1 with fail
 refine boxed2 (w:=w) (G:=fun x=>Code.wp _ _ _ _ x) ?_
 intro w1 hx1 hs1 ⟨l0,c0,_,_⟩ ⟨l1,c1,_,_⟩
 have hx11:Ext w1 w1:=Ext.refl _
 clear hs1
 go_upto_region 3 with (go_at_call 38;first | (refine (HL.out _ hx12).mono ?_;rintro e w3 ⟨rfl,hx3⟩;have hx13:=hx12.trans hx3;have hx23:=hx22.trans hx3) | (refine (HF.out _ hx1).mono ?_;rintro e w2 ⟨rfl,hx2⟩;have hx12:=hx1.trans hx2;have hx22:=hx2))
 go_wp2_with fail
 go_loopg [5] N (fun gg v5 wo=>∃ k:Nat,k≤N∧gg=N - k∧v5=.int .i64 k∧Ext w1 wo)
 case atStart=>exact ⟨0,by omega,by omega,rfl,hx23⟩
 case round=>
  obtain ⟨k,hk,rfl,rfl,hx1r⟩:=hrel
  have hxwr:=hx1.trans hx1r
  have hrr:Ext wr wr:=Ext.refl _
  by_cases hlt:k<N
  ·have hlt':(k:Int)<(N:Int):=by omega
   obtain ⟨p1,p2,rfl,rfl,p3,p4⟩:=HC.out k hlt
   have HML:=Lib.hid (HM.out k hlt)
   have hgw:∀ d os,Ext w (Sort.grow (redrawn wr d) os):=fun d os=>hxwr.trans (below_regrown wr d os)
   have hg1:∀ d os,Ext w1 (Sort.grow (redrawn wr d) os):=fun d os=>hx1r.trans (below_regrown wr d os)
   go_upto_region 6 with fail
   refine wp_region_quiet_below (by kernel_rfl) (by kernel_rfl) ?_
   repeat (go_big_quiet_step (exact Calls.regrown_of (HML.out _ (hgw _ _))))
   refine wpQuiet_nil ?_
   intro _ hw'
   obtain ⟨⟨dq,osq⟩,hw''⟩:=hw'
   subst hw''
   have hxq:=hg1 dq osq
   clear hgw hg1
   go_wp2_with fail
   go_roundg (N - (k+1))
   case rel=>exact ⟨k+1,by omega,rfl,by go_num,hxq⟩
   case measure=>omega
  ·have hlt':¬(k:Int)<(N:Int):=by omega
   go_wp2_with fail
   go_ret
   exact ⟨rfl,hx1.trans hx1r⟩
end Go.Proofs.YtlfdfkbmollaaaaGreatDoor

namespace Go.Proofs.YtlfdfkbmollaaaaGreatDoor
open Go.RowKit Go.Shelf
set_option maxHeartbeats 400000 in
theorem sml36a_any (w : World) (a b c d : Int) (e : Option Addr) (n cap : Nat) :
    Calls Tryz.prog 33 #[.agg #[.int .i64 a,.int .i64 b,.int .i64 c,.int .i64 d,.slice e n cap]] w fun r w'=>r=.returned (.bool (decide (12<(n:Int))))∧Ext w w':=by
 go_enter Tryz.func33,Tryz.ntmps33
 go_wp2
 go_ret
 exact ⟨ret_bool (by simp),Ext.alloc _ _⟩
def SmlPost (T:Tr) (w:World) (e:Ending) (w':World):Prop:=Ext w w'∧∃ b:Bool,e=.returned (.bool b)∧(b=true→tot T.en T.n≤24)
set_option maxHeartbeats 2000000 in
theorem sml36_any (w:World) (T:TM) (hT:T.At w):Calls Tryz.prog 9 #[T.val] w (SmlPost T.toTr w):=by
 have hn:=hT.P.hn
 have HT:=Lib.hid hT
 clear hT
 go_enter Tryz.func9,Tryz.ntmps9
 go_upto_region 1 with fail
 refine boxed1 (w:=w) (G:=fun x=>Code.wp _ _ _ _ x) ?_
 intro w1 hx1 hs1 ⟨l0,c0,_,_⟩
 have hx11:Ext w1 w1:=Ext.refl _
 clear hs1
 obtain ⟨ta,hta⟩:∃ a,a=T.a:=⟨_,rfl⟩
 rw [←hta] at c0
 have HTA:=Lib.hid hta
 clear hta
 by_cases h10:10<T.n
 ·have b1:decide ((10:Int)<(T.n:Int))=true:=decide_eq_true (by omega)
  have b1':decide (10<T.n)=true:=decide_eq_true h10
  go_wp2_with fail
  go_ret
  exact ⟨hx1,false,rfl,fun h=>(by cases h)⟩
 ·have b1:decide ((10:Int)<(T.n:Int))=false:=decide_eq_false (by omega)
  have b1':decide (10<T.n)=false:=decide_eq_false h10
  go_wp2_with fail
  clear b1 b1'
  go_loopg [3,13] T.n (fun gg v3 v13 wr=>∃ k s:Nat,k≤T.n∧gg=T.n - k∧v3=.int .i64 s∧v13=.int .i64 k∧s=tot T.en k∧s≤k*140737488355328∧Ext w1 wr)
  case atStart=>exact ⟨0,0,by omega,rfl,rfl,rfl,rfl,by omega,hx11⟩
  case round=>
   obtain ⟨k,s,hk,rfl,rfl,rfl,hst,ht,hxr⟩:=hrel
   have HST:=Lib.hid hst
   clear hst
   have hxw:=hx1.trans hxr
   by_cases hlt:k<T.n
   ·have hlt':(k:Int)<(T.n:Int):=by omega
    obtain rfl:ta=some ⟨T.b,T.off,none⟩:=by rw [HTA.out];exact HT.out.P.pa (by omega)
    have pb:=HT.out.P.pb (by omega)
    have p0:∀ w',Ext w w'→w'.cell? ⟨T.b,T.off+k*3,none⟩=some (.string (T.name k)):=fun w' h=>HT.out.P.p0 w' h k hlt
    have p1:∀ w',Ext w w'→w'.cell? ⟨T.b,T.off+k*3+1,none⟩=some (.slice (T.va k) (T.vn k) (T.vc k)):=fun w' h=>HT.out.P.p1 w' h k hlt
    have p2:∀ w',Ext w w'→w'.cell? ⟨T.b,T.off+k*3+2,none⟩=some (.slice (T.ea k) (T.en k) (T.ec k)):=fun w' h=>HT.out.P.p2 w' h k hlt
    have hen:=HT.out.E.he k hlt
    have hvn:=HT.out.V.hv k hlt
    go_upto_region 7 with fail
    refine boxed1 (w:=wr) (G:=fun x=>Code.wp _ _ _ _ x) ?_
    intro w2 hx2 hs2 ⟨l2,c2,_,_⟩
    have hx22:Ext w2 w2:=Ext.refl _
    have hxw2:=hxw.trans hx2
    have hx12:=hxr.trans hx2
    clear hs2 p0 p1 p2 pb
    generalize wr.heap.size=xb at l2 c2 ⊢
    obtain ⟨m,hm⟩:∃ m:Nat,m=s+T.en k:=⟨_,rfl⟩
    have HM:=Lib.hid (show m≤(k+1)*140737488355328 by omega)
    have hmw:IntKind.i64.wrap ((s:Int)+(T.en k:Int))=(m:Int):=by rw [IntWalk.i64_in _ (by omega)];omega
    have hadd:((s:Int)+(T.en k:Int))=(m:Int):=by omega
    have HMT:=Lib.hid (show m=tot T.en (k+1) from by rw [hm,HST.out];rfl)
    clear hm
    by_cases h12:12<T.vn k
    ·have b2:decide ((12:Int)<(T.vn k:Int))=true:=decide_eq_true (by omega)
     have b2':decide (12<T.vn k)=true:=decide_eq_true h12
     go_wp2_with fail
     go_ret
     exact ⟨hxw2,false,rfl,fun h=>(by cases h)⟩
    ·have b2:decide ((12:Int)<(T.vn k:Int))=false:=decide_eq_false (by omega)
     have b2':decide (12<T.vn k)=false:=decide_eq_false h12
     by_cases h30:30<(T.name k).size
     ·have b3:decide ((30:Int)<((T.name k).size:Int))=true:=decide_eq_true (by omega)
      have b3':decide (30<(T.name k).size)=true:=decide_eq_true h30
      go_wp2_with fail
      go_ret
      exact ⟨hxw2,false,rfl,fun h=>(by cases h)⟩
     ·have b3:decide ((30:Int)<((T.name k).size:Int))=false:=decide_eq_false (by omega)
      have b3':decide (30<(T.name k).size)=false:=decide_eq_false h30
      have hEv:=has_Event w2 (T.ea k) (T.eb k) (T.eo k) (T.en k) (T.ec k) (fun i=>.int .i64 (T.kind k i)) (fun i=>.int .i64 (T.peer k i)) (fun i=>.int .i64 (T.msg k i)) (fun i=>.int .i64 (T.time k i)) (fun i=>.slice (T.aa k i) (T.an k i) (T.ac k i))
       33 #[] (fun i=>decide (12<(T.an k i:Int))) hen (fun h=>HT.out.E.ea k hlt h) (fun w' hx i hi=>HT.out.E.e0 w' (hxw2.trans hx) k i hlt hi) (fun w' hx i hi=>HT.out.E.e1 w' (hxw2.trans hx) k i hlt hi) (fun w' hx i hi=>HT.out.E.e2 w' (hxw2.trans hx) k i hlt hi) (fun w' hx i hi=>HT.out.E.e3 w' (hxw2.trans hx) k i hlt hi) (fun w' hx i hi=>HT.out.E.e4 w' (hxw2.trans hx) k i hlt hi)
       (enters_of Tryz.func33 (by kernel_rfl) rfl) (fun i hi w' hx=>sml36a_any w' _ _ _ _ _ _ _)
      cases hE:anyB (fun i=>decide (12<(T.an k i:Int))) (T.en k) with
      | true =>
       rw [hE] at hEv
       clear hE
       go_wp2_with fail
       go_at_call 32
       refine hEv.mono ?_
       rintro e w3 ⟨rfl,hx3⟩
       have hx33:=hxw2.trans hx3
       clear hEv
       go_wp2_with fail
       go_ret
       exact ⟨hx33,false,rfl,fun h=>(by cases h)⟩
      | false =>
       rw [hE] at hEv
       clear hE
       go_wp2_with fail
       go_at_call 32
       refine hEv.mono ?_
       rintro e w3 ⟨rfl,hx3⟩
       have hx33:=hxw2.trans hx3
       have hx13:=hx12.trans hx3
       clear hEv
       go_wp2_with fail
       go_roundg (T.n - (k+1))
       case rel=>exact ⟨k+1,m,by omega,rfl,rfl,by go_num,HMT.out,HM.out,hx13⟩
       case measure=>omega
   ·have hke:k=T.n:=by omega
    subst hke
    by_cases h24:s≤24
    ·have e1:decide ((s:Int)≤24)=true:=decide_eq_true (by omega)
     have e1':decide (s≤24)=true:=decide_eq_true h24
     have HS4:=Lib.hid h24
     clear h24
     go_wp2_with fail
     go_ret
     exact ⟨hxw,true,rfl,fun _=>by rw [←HST.out];exact HS4.out⟩
    ·have e1:decide ((s:Int)≤24)=false:=decide_eq_false (by omega)
     have e1':decide (s≤24)=false:=decide_eq_false h24
     go_wp2_with fail
     go_ret
     exact ⟨hxw,false,rfl,fun h=>(by cases h)⟩
end Go.Proofs.YtlfdfkbmollaaaaGreatDoor
