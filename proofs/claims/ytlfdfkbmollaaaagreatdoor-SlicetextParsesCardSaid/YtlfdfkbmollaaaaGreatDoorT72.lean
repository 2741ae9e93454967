/- Contracts and laws in plain Lean for RApp: group T72. -/
import Derived.Test.YtlfdfkbmollaaaaGreatDoorT01
import Derived.Test.YtlfdfkbmollaaaaGreatDoorT06
set_option maxRecDepth 100000
namespace Go.Proofs.YtlfdfkbmollaaaaGreatDoor
abbrev EvE:=Int × Int
def rotF (d:Nat→EvE) (a m b:Nat):Nat→EvE:=fun k=>if a≤k∧k<a+(b - m) then d (k - a+m) else if a+(b - m)≤k∧k<b then d (k - (b - m)) else d k
def swpF (d:Nat→EvE) (x y n:Nat):Nat→EvE:=fun k=>if x≤k∧k<x+n then d (k - x+y) else if y≤k∧k<y+n then d (k - y+x) else d k
def sw (d:Nat→EvE) (p q:Nat):Nat→EvE:=fun k=>if k=p then d q else if k=q then d p else d k
theorem swpF_zero (d:Nat→EvE) (x y:Nat):swpF d x y 0=d:=by
 funext k
 unfold swpF
 repeat' split
 all_goals first | omega | (congr 1 <;> omega)
theorem swpF_succ (d:Nat→EvE) {x y i:Nat} (h:x+(i+1)≤y):swpF d x y (i+1)=sw (swpF d x y i) (x+i) (y+i):=by
 funext k
 unfold sw swpF
 repeat' split
 all_goals first | omega | (congr 1 <;> omega)
theorem rotF_up (d:Nat→EvE) {j i:Nat} (h:j<i):rotF d j i (i+1)=sw (rotF d (j+1) i (i+1)) (j+1) j:=by
 funext k
 unfold sw rotF
 repeat' split
 all_goals first | omega | (congr 1 <;> omega)
theorem rotF_top (d:Nat→EvE) (i:Nat):rotF d i i (i+1)=d:=by
 funext k
 unfold rotF
 repeat' split
 all_goals first | omega | (congr 1 <;> omega)
theorem rotF_down (d:Nat→EvE) {a k:Nat} (h:a≤k):rotF d a (a+1) (k+2)=sw (rotF d a (a+1) (k+1)) k (k+1):=by
 funext x
 unfold sw rotF
 repeat' split
 all_goals first | omega | (congr 1 <;> omega)
theorem rotF_low (d:Nat→EvE) (a:Nat):rotF d a (a+1) (a+1)=d:=by
 funext k
 unfold rotF
 repeat' split
 all_goals first | omega | (congr 1 <;> omega)
theorem rotF_left (d:Nat→EvE) {m i j:Nat} (hi:i≤m) (h:j<i):rotF (swpF d (m - i) m j) (m - (i - j)) m (m+j)=rotF d (m - i) m (m+j):=by
 funext k
 unfold rotF swpF
 repeat' split
 all_goals first | omega | (congr 1 <;> omega)
theorem rotF_right (d:Nat→EvE) {m i j:Nat} (hi:i≤m) (h:i<j):rotF (swpF d (m - i) (m+j - i) i) (m - i) m (m+(j - i))=rotF d (m - i) m (m+j):=by
 funext k
 unfold rotF swpF
 repeat' split
 all_goals first | omega | (congr 1 <;> omega)
theorem rotF_even (d:Nat→EvE) {m i:Nat} (hi:i≤m):swpF d (m - i) m i=rotF d (m - i) m (m+i):=by
 funext k
 unfold rotF swpF
 repeat' split
 all_goals first | omega | (congr 1 <;> omega)
structure Im (d d':Nat→EvE) (a b:Nat):Prop where
 src:∀ k,a≤k→k<b→∃ j,a≤j∧j<b∧d' k=d j
 img:∀ k,a≤k→k<b→∃ j,a≤j∧j<b∧d k=d' j
 out:∀ k,¬(a≤k∧k<b)→d' k=d k
theorem Im.refl (d:Nat→EvE) (a b:Nat):Im d d a b:=⟨fun k h1 h2=>⟨k,h1,h2,rfl⟩,fun k h1 h2=>⟨k,h1,h2,rfl⟩,fun _ _=>rfl⟩
theorem Im.wide {d d':Nat→EvE} {a b a' b':Nat} (h:Im d d' a' b') (ha:a≤a') (hb:b'≤b):Im d d' a b:=
 ⟨fun k h1 h2=>by
  by_cases e:a'≤k∧k<b'
  ·obtain ⟨j,j1,j2,j3⟩:=h.src k e.1 e.2;exact ⟨j,by omega,by omega,j3⟩
  ·exact ⟨k,h1,h2,h.out k e⟩,fun k h1 h2=>by
  by_cases e:a'≤k∧k<b'
  ·obtain ⟨j,j1,j2,j3⟩:=h.img k e.1 e.2;exact ⟨j,by omega,by omega,j3⟩
  ·exact ⟨k,h1,h2,(h.out k e).symm⟩,fun k hk=>h.out k (by omega)⟩
theorem Im.trans {d d' d'':Nat→EvE} {a b:Nat} (h:Im d d' a b) (k:Im d' d'' a b):Im d d'' a b:=
 ⟨fun i h1 h2=>by
  obtain ⟨j,j1,j2,j3⟩:=k.src i h1 h2
  obtain ⟨l,l1,l2,l3⟩:=h.src j j1 j2
  exact ⟨l,l1,l2,j3.trans l3⟩,fun i h1 h2=>by
  obtain ⟨j,j1,j2,j3⟩:=h.img i h1 h2
  obtain ⟨l,l1,l2,l3⟩:=k.img j j1 j2
  exact ⟨l,l1,l2,j3.trans l3⟩,fun i hi=>(k.out i hi).trans (h.out i hi)⟩
theorem Im.rot (d:Nat→EvE) {a m b:Nat} (h1:a≤m) (h2:m≤b):Im d (rotF d a m b) a b:=by
 refine ⟨fun k ka kb=>?_,fun k ka kb=>?_,fun k hk=>?_⟩
 ·by_cases e:k<a+(b - m)
  ·exact ⟨k - a+m,by omega,by omega,by unfold rotF;rw [if_pos (by omega)]⟩
  ·exact ⟨k - (b - m),by omega,by omega,by unfold rotF;rw [if_neg (by omega),if_pos (by omega)]⟩
 ·by_cases e:k<m
  ·exact ⟨k+(b - m),by omega,by omega,by unfold rotF;rw [if_neg (by omega),if_pos (by omega)];congr 1;omega⟩
  ·exact ⟨k - m+a,by omega,by omega,by unfold rotF;rw [if_pos (by omega)];congr 1;omega⟩
 ·unfold rotF;rw [if_neg (by omega),if_neg (by omega)]
def Srtd (L:EvE→EvE→Prop) (d:Nat→EvE) (a b:Nat):Prop:=∀ i j,a≤i→i<j→j<b→L (d i) (d j)
def Bef2 (L:EvE→EvE→Prop) (d:Nat→EvE) (a m b c:Nat):Prop:=∀ i j,a≤i→i<m→b≤j→j<c→L (d i) (d j)
theorem Bef2.im {L:EvE→EvE→Prop} {d d':Nat→EvE} {a m b c:Nat} (h:Bef2 L d a m b c) (h1:Im d d' a m) (hd:m≤b):Bef2 L d' a m b c:=fun i j ia im jb jc=>by
 obtain ⟨k,k1,k2,k3⟩:=h1.src i ia im
 rw [k3,h1.out j (by omega)]
 exact h k j k1 k2 jb jc
theorem Bef2.im2 {L:EvE→EvE→Prop} {d d':Nat→EvE} {a m b c:Nat} (h:Bef2 L d a m b c) (h1:Im d d' b c) (hd:m≤b):Bef2 L d' a m b c:=fun i j ia im jb jc=>by
 obtain ⟨k,k1,k2,k3⟩:=h1.src j jb jc
 rw [k3,h1.out i (by omega)]
 exact h i k ia im k1 k2
theorem Srtd.join {L:EvE→EvE→Prop} {d:Nat→EvE} {a m b:Nat} (h1:Srtd L d a m) (h2:Srtd L d m b) (h3:Bef2 L d a m m b):Srtd L d a b:=fun i j ia ij jb=>by
 by_cases hj:j<m
 ·exact h1 i j ia ij hj
 ·by_cases hi:i<m
  ·exact h3 i j ia hi (by omega) jb
  ·exact h2 i j (by omega) ij jb
theorem Srtd.congr {L:EvE→EvE→Prop} {d d':Nat→EvE} {a b:Nat} (h:Srtd L d a b) (e:∀ k,a≤k→k<b→d' k=d k):Srtd L d' a b:=fun i j ia ij jb=>by
 rw [e i ia (by omega),e j (by omega) jb];exact h i j ia ij jb
structure OrdE (A:EvE→Prop) (cf:EvE→EvE→Int) (L lx:EvE→EvE→Prop):Prop where
 tr:∀ x y z,A x→A y→A z→L x y→L y z→L x z
 yes:∀ x y,A x→A y→lx x y→cf y x<0→L y x
 no:∀ x y,A x→A y→lx x y→¬cf y x<0→L x y
section
variable {A:EvE→Prop} {cf:EvE→EvE→Int} {L lx:EvE→EvE→Prop}
theorem Srtd.insert (O : OrdE A cf L lx) {d : Nat → EvE} {a j i : Nat} (h : Srtd L d a i) (ha : a ≤ j) (hj : j ≤ i) (hA : ∀ k, a ≤ k → k ≤ i → A (d k))
    (h1:j=a∨L (d (j - 1)) (d i)) (h2:∀ k,j≤k→k<i→L (d i) (d k)):Srtd L (rotF d j i (i+1)) a (i+1):=by
 intro x y xa xy yb
 unfold rotF
 by_cases e1:x<j
 ·rw [if_neg (by omega),if_neg (by omega)]
  have hx:L (d x) (d i):=by
   rcases h1 with h1 | h1
   ·omega
   ·by_cases e:x=j - 1
    ·subst e;exact h1
    ·exact O.tr _ _ _ (hA x (by omega) (by omega)) (hA (j - 1) (by omega) (by omega)) (hA i (by omega) (by omega)) (h x (j - 1) xa (by omega) (by omega)) h1
  by_cases e2:y<j
  ·rw [if_neg (by omega),if_neg (by omega)];exact h x y xa xy (by omega)
  ·by_cases e3:y=j
   ·rw [if_pos (by omega)];rw [show y - j+i=i by omega];exact hx
   ·rw [if_neg (by omega),if_pos (by omega)];exact h x _ xa (by omega) (by omega)
 ·by_cases e2:x=j
  ·rw [if_pos (by omega),if_neg (by omega),if_pos (by omega)]
   rw [show x - j+i=i by omega]
   exact h2 _ (by omega) (by omega)
  ·rw [if_neg (by omega),if_pos (by omega),if_neg (by omega),if_pos (by omega)]
   exact h _ _ (by omega) (by omega) (by omega)
theorem Srtd.insert_first (O : OrdE A cf L lx) {d : Nat → EvE} {a i b : Nat} (h : Srtd L d (a + 1) b) (ha : a < i) (hi : i ≤ b) (hA : ∀ k, a ≤ k → k < b → A (d k))
    (h1:i=a+1∨L (d (i - 1)) (d a)) (h2:i=b∨L (d a) (d i)):Srtd L (rotF d a (a+1) i) a b:=by
 have low:∀ x,a+1≤x→x<i→L (d x) (d a):=fun x x1 x2=>by
  rcases h1 with h1 | h1
  ·omega
  ·by_cases e:x=i - 1
   ·subst e;exact h1
   ·exact O.tr _ _ _ (hA x (by omega) (by omega)) (hA (i - 1) (by omega) (by omega)) (hA a (by omega) (by omega)) (h x (i - 1) x1 (by omega) (by omega)) h1
 have high:∀ x,i≤x→x<b→L (d a) (d x):=fun x x1 x2=>by
  rcases h2 with h2 | h2
  ·omega
  ·by_cases e:x=i
   ·subst e;exact h2
   ·exact O.tr _ _ _ (hA a (by omega) (by omega)) (hA i (by omega) (by omega)) (hA x (by omega) (by omega)) h2 (h i x (by omega) (by omega) x2)
 intro x y xa xy yb
 unfold rotF
 by_cases e1:x<i - 1
 ·rw [if_pos (by omega)]
  by_cases e2:y<i - 1
  ·rw [if_pos (by omega)];exact h _ _ (by omega) (by omega) (by omega)
  ·by_cases e3:y=i - 1
   ·rw [if_neg (by omega),if_pos (by omega)];rw [show y - (i - (a+1))=a by omega];exact low _ (by omega) (by omega)
   ·rw [if_neg (by omega),if_neg (by omega)];exact h _ _ (by omega) (by omega) (by omega)
 ·by_cases e2:x=i - 1
  ·rw [if_neg (by omega),if_pos (by omega),if_neg (by omega),if_neg (by omega)]
   rw [show x - (i - (a+1))=a by omega];exact high _ (by omega) (by omega)
  ·rw [if_neg (by omega),if_neg (by omega),if_neg (by omega),if_neg (by omega)];exact h _ _ (by omega) xy yb
theorem Srtd.insert_last (O : OrdE A cf L lx) {d : Nat → EvE} {a i m : Nat} (h : Srtd L d a m) (ha : a ≤ i) (hi : i ≤ m) (hA : ∀ k, a ≤ k → k < m + 1 → A (d k))
    (h1:i=a∨L (d (i - 1)) (d m)) (h2:i=m∨L (d m) (d i)):Srtd L (rotF d i m (m+1)) a (m+1):=
 Srtd.insert O h ha hi (fun k k1 k2=>hA k k1 (by omega)) h1 fun k k1 k2=>by
  rcases h2 with h2 | h2
  ·omega
  ·by_cases e:k=i
   ·subst e;exact h2
   ·exact O.tr _ _ _ (hA m (by omega) (by omega)) (hA i (by omega) (by omega)) (hA k (by omega) (by omega)) h2 (h i k (by omega) (by omega) k2)
theorem merge_cut {d : Nat → EvE} {a m b mid start en : Nat} (hs1 : Srtd L d a m) (hs2 : Srtd L d m b) (O : OrdE A cf L lx) (hA : ∀ k, a ≤ k → k < b → A (d k))
    (h1:a≤start) (h2:start≤m) (h3:start≤mid) (h4:m≤en) (h5:en≤b) (h6:start+en=mid+m)
    (hl:start=a∨en=b∨L (d (start - 1)) (d en)) (hr:start=m∨en=m∨L (d (en - 1)) (d start)) :
    Bef2 L (rotF d start m en) a mid mid b∧Srtd L (rotF d start m en) a start∧Srtd L (rotF d start m en) start mid∧Srtd L (rotF d start m en) mid en∧Srtd L (rotF d start m en) en b:=by
 have LL:∀ x y,a≤x→x<start→en≤y→y<b→L (d x) (d y):=fun x y x1 x2 y1 y2=>by
  rcases hl with hl | hl | hl
  ·omega
  ·omega
  ·have hx : L (d x) (d en) := by
     by_cases e:x=start - 1
     ·subst e;exact hl
     ·exact O.tr _ _ _ (hA x (by omega) (by omega)) (hA (start - 1) (by omega) (by omega)) (hA en (by omega) (by omega)) (hs1 x (start - 1) x1 (by omega) (by omega)) hl
   by_cases e:y=en
   ·subst e;exact hx
   ·exact O.tr _ _ _ (hA x (by omega) (by omega)) (hA en (by omega) (by omega)) (hA y (by omega) (by omega)) hx (hs2 en y h4 (by omega) y2)
 have RR:∀ x y,m≤x→x<en→start≤y→y<m→L (d x) (d y):=fun x y x1 x2 y1 y2=>by
  rcases hr with hr | hr | hr
  ·omega
  ·omega
  ·have hx : L (d x) (d start) := by
     by_cases e:x=en - 1
     ·subst e;exact hr
     ·exact O.tr _ _ _ (hA x (by omega) (by omega)) (hA (en - 1) (by omega) (by omega)) (hA start (by omega) (by omega)) (hs2 x (en - 1) x1 (by omega) (by omega)) hr
   by_cases e:y=start
   ·subst e;exact hx
   ·exact O.tr _ _ _ (hA x (by omega) (by omega)) (hA start (by omega) (by omega)) (hA y (by omega) (by omega)) hx (hs1 start y h1 (by omega) y2)
 refine ⟨fun x y x1 x2 y1 y2=>?_,fun x y x1 x2 y1=>?_,fun x y x1 x2 y1=>?_,fun x y x1 x2 y1=>?_,fun x y x1 x2 y1=>?_⟩
 ·unfold rotF
  by_cases e1:x<start
  ·rw [if_neg (by omega),if_neg (by omega)]
   by_cases e2:y<en
   ·rw [if_neg (by omega),if_pos (by omega)];exact hs1 _ _ (by omega) (by omega) (by omega)
   ·rw [if_neg (by omega),if_neg (by omega)];exact LL _ _ (by omega) (by omega) (by omega) (by omega)
  ·rw [if_pos (by omega)]
   by_cases e2:y<en
   ·rw [if_neg (by omega),if_pos (by omega)];exact RR _ _ (by omega) (by omega) (by omega) (by omega)
   ·rw [if_neg (by omega),if_neg (by omega)];exact hs2 _ _ (by omega) (by omega) (by omega)
 ·unfold rotF
  rw [if_neg (by omega),if_neg (by omega),if_neg (by omega),if_neg (by omega)];exact hs1 _ _ (by omega) (by omega) (by omega)
 ·unfold rotF
  rw [if_pos (by omega),if_pos (by omega)];exact hs2 _ _ (by omega) (by omega) (by omega)
 ·unfold rotF
  rw [if_neg (by omega),if_pos (by omega),if_neg (by omega),if_pos (by omega)];exact hs1 _ _ (by omega) (by omega) (by omega)
 ·unfold rotF
  rw [if_neg (by omega),if_neg (by omega),if_neg (by omega),if_neg (by omega)];exact hs2 _ _ (by omega) (by omega) (by omega)
theorem merge_lx {d : Nat → EvE} {a m b start en mid : Nat} (h : Bef2 lx d a m m b) (h1 : a ≤ start) (h2 : start ≤ m) (h4 : m ≤ en) (h5 : en ≤ b) (h6 : start + en = mid + m) :
    Bef2 lx (rotF d start m en) a start start mid∧Bef2 lx (rotF d start m en) mid en en b:=by
 refine ⟨fun x y x1 x2 y1 y2=>?_,fun x y x1 x2 y1 y2=>?_⟩
 ·unfold rotF
  rw [if_neg (by omega),if_neg (by omega),if_pos (by omega)];exact h _ _ (by omega) (by omega) (by omega) (by omega)
 ·unfold rotF
  rw [if_neg (by omega),if_pos (by omega),if_neg (by omega),if_neg (by omega)];exact h _ _ (by omega) (by omega) (by omega) (by omega)
end
end Go.Proofs.YtlfdfkbmollaaaaGreatDoor

namespace Go.Proofs.YtlfdfkbmollaaaaGreatDoor
open Go.RowKit Go.Shelf
structure EvM (w:World) (g o n:Nat) (d:Nat→EvE):Prop where
 c0:∀ k,k<n→w.cell? ⟨g,o+k*2,none⟩=some (.int .i64 (d k).1)
 c1:∀ k,k<n→w.cell? ⟨g,o+k*2+1,none⟩=some (.int .i64 (d k).2)
 fr:∀ j,j<n*2→w.frozen? ⟨g,o+j,none⟩=false
 lt:g<w.heap.size
theorem EvM.ext {w w':World} {g o n:Nat} {d:Nat→EvE} (h:EvM w g o n d) (x:Ext w w'):EvM w' g o n d:=
 ⟨fun k hk=>x.cell (h.c0 k hk),fun k hk=>x.cell (h.c1 k hk),fun j hj=>(x.frozen (p:=⟨g,o+j,none⟩) h.lt).trans (h.fr j hj),Nat.lt_of_lt_of_le h.lt x.le⟩
theorem EvM.sw {w : World} {g o n p q : Nat} {d : Nat → EvE} (h : EvM w g o n d) (hp : p < n) (hq : q < n) (hne : p ≠ q) :
    EvM ((((w.setCell ⟨g,o+p*2,none⟩ (.int .i64 (d q).1)).setCell ⟨g,o+p*2+1,none⟩ (.int .i64 (d q).2)).setCell ⟨g,o+q*2,none⟩ (.int .i64 (d p).1)).setCell ⟨g,o+q*2+1,none⟩ (.int .i64 (d p).2)) g o n (sw d p q):=by
 have a0:=h.c0 p hp
 have a1:=h.c1 p hp
 have b0:=h.c0 q hq
 have b1:=h.c1 q hq
 have e1:=fun o'=>cell_set w g (o+p*2) o' (.int .i64 (d q).1) a0
 have x2:(w.setCell ⟨g,o+p*2,none⟩ (.int .i64 (d q).1)).cell? ⟨g,o+p*2+1,none⟩=some (.int .i64 (d p).2):=by rw [e1,if_neg (by omega)];exact a1
 have e2:=fun o'=>cell_set _ g (o+p*2+1) o' (.int .i64 (d q).2) x2
 have x3:((w.setCell ⟨g,o+p*2,none⟩ (.int .i64 (d q).1)).setCell ⟨g,o+p*2+1,none⟩ (.int .i64 (d q).2)).cell? ⟨g,o+q*2,none⟩=some (.int .i64 (d q).1):=by rw [e2,if_neg (by omega),e1,if_neg (by omega)];exact b0
 have e3:=fun o'=>cell_set _ g (o+q*2) o' (.int .i64 (d p).1) x3
 have x4:(((w.setCell ⟨g,o+p*2,none⟩ (.int .i64 (d q).1)).setCell ⟨g,o+p*2+1,none⟩ (.int .i64 (d q).2)).setCell ⟨g,o+q*2,none⟩ (.int .i64 (d p).1)).cell? ⟨g,o+q*2+1,none⟩=some (.int .i64 (d q).2):=by rw [e3,if_neg (by omega),e2,if_neg (by omega),e1,if_neg (by omega)];exact b1
 have e4:=fun o'=>cell_set _ g (o+q*2+1) o' (.int .i64 (d p).2) x4
 refine ⟨fun k hk=>?_,fun k hk=>?_,fun j hj=>by rw [frozen_set,frozen_set,frozen_set,frozen_set];exact h.fr j hj,by simp only [World.size_setCell];exact h.lt⟩
 ·rw [e4,e3,e2,e1,if_neg (by omega)]
  show _=some (Value.int .i64 (if k=p then d q else if k=q then d p else d k).1)
  by_cases k2:k=q
  ·rw [if_pos (by omega),if_neg (by omega),if_pos k2]
  ·rw [if_neg (by omega),if_neg (by omega)]
   by_cases k1:k=p
   ·rw [if_pos (by omega),if_pos k1]
   ·rw [if_neg (by omega),if_neg k1,if_neg k2];exact h.c0 k hk
 ·rw [e4,e3,e2,e1]
  show _=some (Value.int .i64 (if k=p then d q else if k=q then d p else d k).2)
  by_cases k2:k=q
  ·rw [if_pos (by omega),if_neg (by omega),if_pos k2]
  ·rw [if_neg (by omega),if_neg (by omega)]
   by_cases k1:k=p
   ·rw [if_pos (by omega),if_pos k1]
   ·rw [if_neg (by omega),if_neg (by omega),if_neg k1,if_neg k2];exact h.c1 k hk
structure SrtW (w0:World) (g o n:Nat) (d:Nat→EvE) (w:World):Prop where
 x:Ext w0 w
 m:EvM w g o n d
theorem SrtW.ext {w0 w w':World} {g o n:Nat} {d:Nat→EvE} (h:SrtW w0 g o n d w) (x:Ext w w'):SrtW w0 g o n d w':=⟨h.x.trans x,h.m.ext x⟩
theorem SrtW.sw {w0 w : World} {g o n p q : Nat} {d : Nat → EvE} (hg : w0.heap.size ≤ g) (h : SrtW w0 g o n d w) (hp : p < n) (hq : q < n) (hne : p ≠ q) :
    SrtW w0 g o n (sw d p q) ((((w.setCell ⟨g,o+p*2,none⟩ (.int .i64 (d q).1)).setCell ⟨g,o+p*2+1,none⟩ (.int .i64 (d q).2)).setCell ⟨g,o+q*2,none⟩ (.int .i64 (d p).1)).setCell ⟨g,o+q*2+1,none⟩ (.int .i64 (d p).2)):=
 ⟨(((h.x.setCell hg _).setCell hg _).setCell hg _).setCell hg _,h.m.sw hp hq hne⟩
set_option maxHeartbeats 2000000 in
theorem swapR_any (w0 w : World) (g o n cap : Nat) (d : Nat → EvE) (hg : w0.heap.size ≤ g) (h : SrtW w0 g o n d w) (x y m : Nat) (hxy : x + m ≤ y) (hyn : y + m ≤ n) (hn : n ≤ 1000) (fv : Value) :
    Calls Tryz.prog 274 #[.slice (some ⟨g,o,none⟩) n cap,.int .i64 (x:Int),.int .i64 (y:Int),.int .i64 (m:Int),fv] w fun e w'=>e=.returned (.tuple #[])∧SrtW w0 g o n (swpF d x y m) w':=by
 have H0:=Lib.hid (show SrtW w0 g o n (swpF d x y 0) w from by rw [swpF_zero];exact h)
 have HG:=Lib.hid hg
 have HXY:=Lib.hid hxy
 have HYN:=Lib.hid hyn
 clear h hg hxy hyn
 go_enter Tryz.func274,Tryz.ntmps274
 go_wp2_with fail
 go_loopg [10] m (fun gg v10 wr=>∃ i:Nat,i≤m∧gg=m - i∧v10=.int .i64 i∧Hid (SrtW w0 g o n (swpF d x y i) wr))
 case atStart=>exact ⟨0,by omega,rfl,rfl,H0⟩
 case round=>
  obtain ⟨i,hi,rfl,rfl,HW⟩:=hrel
  clear H0
  by_cases hlt:i<m
  ·have hlt':(i:Int)<(m:Int):=by omega
   obtain ⟨p,hp⟩:∃ p,p=x+i:=⟨_,rfl⟩
   obtain ⟨q,hq⟩:∃ q,q=y+i:=⟨_,rfl⟩
   have e1:(x:Int)+(i:Int)=(p:Int):=by omega
   have e2:(y:Int)+(i:Int)=(q:Int):=by omega
   have hpq:p<q:=by have:=HXY.out;omega
   have hqn':q<n:=by have:=HYN.out;omega
   have hpn:=(show p<n by omega)
   have hqn:=hqn'
   have a0:=HW.out.m.c0 p hpn
   have a1:=HW.out.m.c1 p hpn
   have b0:=HW.out.m.c0 q hqn
   have b1:=HW.out.m.c1 q hqn
   have fa0:=HW.out.m.fr (p*2) (by omega)
   have fa1:wr.frozen? ⟨g,o+p*2+1,none⟩=false:=HW.out.m.fr (p*2+1) (by omega)
   have fb0:=HW.out.m.fr (q*2) (by omega)
   have fb1:wr.frozen? ⟨g,o+q*2+1,none⟩=false:=HW.out.m.fr (q*2+1) (by omega)
   have HS:=Lib.hid (HW.out.sw HG.out hpn hqn (by omega))
   have HSS:=Lib.hid (show sw (swpF d x y i) p q=swpF d x y (i+1) from by rw [hp,hq,←swpF_succ d (by have:=HXY.out;omega)])
   clear hp hq
   go_upto_region 3 with fail
   go_region
   all_goals go_wp2_with fail
   go_roundg (m - (i+1))
   case rel=>exact ⟨i+1,by omega,rfl,by go_num,Lib.hid (by rw [←HSS.out];exact ⟨HS.out.x.drew,HS.out.m.c0,HS.out.m.c1,HS.out.m.fr,HS.out.m.lt⟩)⟩
   case measure=>omega
  ·obtain rfl:i=m:=by omega
   go_wp2_with fail
   go_end0
   exact ⟨rfl,HW.out⟩
set_option maxHeartbeats 2000000 in
theorem rotateC_any (w0 w : World) (g o n cap : Nat) (d : Nat → EvE) (hg : w0.heap.size ≤ g) (h : SrtW w0 g o n d w) (a m b : Nat) (ha : a < m) (hm : m < b) (hb : b ≤ n) (hn : n ≤ 1000) (fv : Value) :
    Calls Tryz.prog 240 #[.slice (some ⟨g,o,none⟩) n cap,.int .i64 (a:Int),.int .i64 (m:Int),.int .i64 (b:Int),fv] w fun e w'=>e=.returned (.tuple #[])∧SrtW w0 g o n (rotF d a m b) w':=by
 have HSR:=Lib.hid (fun W (e:Nat→EvE) (H:SrtW w0 g o n e W) x y k h1 h2=>swapR_any w0 W g o n cap e hg H x y k h1 h2 hn fv)
 have H0:=Lib.hid h
 have HB:=Lib.hid hb
 have hi0:IntKind.i64.wrap ((m:Int) - (a:Int))=((m - a:Nat):Int):=by rw [IntWalk.i64_in _ (by omega)];omega
 have hj0:IntKind.i64.wrap ((b:Int) - (m:Int))=((b - m:Nat):Int):=by rw [IntWalk.i64_in _ (by omega)];omega
 obtain ⟨i0,hi⟩:∃ i,i=m - a:=⟨_,rfl⟩
 obtain ⟨j0,hj⟩:∃ j,j=b - m:=⟨_,rfl⟩
 rw [←hi] at hi0
 rw [←hj] at hj0
 have HR:=Lib.hid (show rotF d (m - i0) m (m+j0)=rotF d a m b from by rw [hi,hj,show m - (m - a)=a by omega,show m+(b - m)=b by omega])
 have HIJ:=Lib.hid (show 0<i0∧0<j0∧i0≤m∧m+j0≤n from by omega)
 have hmn:m≤1000:=by omega
 clear h hg hi hj hb ha hm
 go_enter Tryz.func240,Tryz.ntmps240
 go_wp2_with fail
 go_loopg [10,11] (i0+j0) (fun gg v10 v11 wr=>∃ (i j:Nat) (e:Nat→EvE),gg=i+j∧v10=.int .i64 i∧v11=.int .i64 j∧Hid (0<i∧0<j∧i≤m∧m+j≤n)∧Hid (rotF e (m - i) m (m+j)=rotF d a m b)∧Hid (SrtW w0 g o n e wr))
 case atStart=>exact ⟨i0,j0,d,rfl,rfl,rfl,HIJ,HR,H0⟩
 case round=>
  clear H0 HR HIJ
  obtain ⟨i,j,e,rfl,rfl,rfl,HIJ,HR,HW⟩:=hrel
  have hii:i≤1000:=by have:=HIJ.out;omega
  have hjj:j≤1000:=by have:=HIJ.out;omega
  have hmi:(m:Int) - (i:Int)=((m - i:Nat):Int):=by have:=HIJ.out;omega
  have hmiw:IntKind.i64.wrap ((m:Int) - (i:Int))=((m - i:Nat):Int):=by rw [IntWalk.i64_in _ (by omega)];omega
  obtain ⟨x,hx⟩:∃ x,x=m - i:=⟨_,rfl⟩
  rw [←hx] at hmi hmiw
  have HX:=Lib.hid hx
  clear hx
  rcases Nat.lt_trichotomy j i with hlt | heq | hgt
  ·have d0:((i:Int) != (j:Int))=true:=by simp;omega
   have d1:decide ((j:Int)<(i:Int))=true:=decide_eq_true (by omega)
   have hij:IntKind.i64.wrap ((i:Int) - (j:Int))=((i - j:Nat):Int):=by rw [IntWalk.i64_in _ (by omega)];omega
   have hij':(i:Int) - (j:Int)=((i - j:Nat):Int):=by omega
   have hs:=HSR.out wr e HW.out x m j (by have:=HIJ.out;have:=HX.out;omega) (by have:=HIJ.out;omega)
   have HLT:=Lib.hid hlt
   obtain ⟨k,hk⟩:∃ k,k=i - j:=⟨_,rfl⟩
   rw [←hk] at hij hij'
   have HK:=Lib.hid hk
   clear hlt hk
   go_wp2_with fail
   go_at_call 274
   refine hs.mono ?_
   rintro r w2 ⟨rfl,hw2⟩
   have HW2:=Lib.hid hw2
   clear hs hw2
   go_wp2_with fail
   go_roundg (k+j)
   case rel=>exact ⟨k,j,_,rfl,rfl,rfl,Lib.hid (by have:=HIJ.out;have:=HK.out;have:=HLT.out;omega),Lib.hid (by rw [HX.out,HK.out,rotF_left e HIJ.out.2.2.1 HLT.out];exact HR.out),HW2⟩
   case measure=>have:=HIJ.out;have:=HK.out;have:=HLT.out;omega
  ·subst heq
   have d0:((j:Int) != (j:Int))=false:=by simp
   have hs:=HSR.out wr e HW.out x m j (by have:=HIJ.out;have:=HX.out;omega) (by have:=HIJ.out;omega)
   go_wp2_with fail
   go_at_call 274
   refine hs.mono ?_
   rintro r w2 ⟨rfl,hw2⟩
   have HW2:=Lib.hid hw2
   clear hs hw2
   go_wp2_with fail
   go_end0
   exact ⟨rfl,by rw [←HR.out,←rotF_even e HIJ.out.2.2.1,←HX.out];exact HW2.out⟩
  ·have d0:((i:Int) != (j:Int))=true:=by simp;omega
   have d1:decide ((j:Int)<(i:Int))=false:=decide_eq_false (by omega)
   have hij:IntKind.i64.wrap ((j:Int) - (i:Int))=((j - i:Nat):Int):=by rw [IntWalk.i64_in _ (by omega)];omega
   have hij':(j:Int) - (i:Int)=((j - i:Nat):Int):=by omega
   have hyw:IntKind.i64.wrap (IntKind.i64.wrap ((m:Int)+(j:Int)) - (i:Int))=((m+j - i:Nat):Int):=by rw [IntWalk.i64_in ((m:Int)+j) (by omega),IntWalk.i64_in _ (by omega)];omega
   have hyw':(m:Int)+(j:Int) - (i:Int)=((m+j - i:Nat):Int):=by omega
   have hs:=HSR.out wr e HW.out x (m+j - i) i (by have:=HIJ.out;have:=HX.out;omega) (by have:=HIJ.out;omega)
   have HLT:=Lib.hid hgt
   obtain ⟨k,hk⟩:∃ k,k=j - i:=⟨_,rfl⟩
   obtain ⟨y,hy⟩:∃ y,y=m+j - i:=⟨_,rfl⟩
   rw [←hk] at hij hij'
   rw [←hy] at hyw hyw' hs
   have HK:=Lib.hid hk
   have HY:=Lib.hid hy
   clear hgt hk hy
   go_wp2_with fail
   go_at_call 274
   refine hs.mono ?_
   rintro r w2 ⟨rfl,hw2⟩
   have HW2:=Lib.hid hw2
   clear hs hw2
   go_wp2_with fail
   go_roundg (i+k)
   case rel=>exact ⟨i,k,_,rfl,rfl,rfl,Lib.hid (by have:=HIJ.out;have:=HK.out;have:=HLT.out;omega),Lib.hid (by rw [HX.out,HK.out,HY.out,rotF_right e HIJ.out.2.2.1 HLT.out];exact HR.out),HW2⟩
   case measure=>have:=HIJ.out;have:=HK.out;have:=HLT.out;omega
abbrev evW (x:EvE):Value:=.agg #[.int .i64 x.1,.int .i64 x.2]
structure CmpE (w0:World) (f:Nat) (lb:Array Value) (A:EvE→Prop) (cf:EvE→EvE→Int):Prop where
 en:Enters Tryz.prog f
 go:∀ W,Ext w0 W→∀ x y,A x→A y→Calls Tryz.prog f (#[evW x,evW y]++lb) W fun e W'=>e=.returned (.int .i64 (cf x y))∧Ext W W'
def SrtPost (w0:World) (g o n a b:Nat) (L:EvE→EvE→Prop) (d:Nat→EvE) (e:Ending) (w':World):Prop:=
 e=.returned (.tuple #[])∧∃ d',SrtW w0 g o n d' w'∧Im d d' a b∧Srtd L d' a b
theorem Im.all {A:EvE→Prop} {d d':Nat→EvE} {a b:Nat} (h:Im d d' a b) (hA:∀ k,a≤k→k<b→A (d k)):∀ k,a≤k→k<b→A (d' k):=fun k h1 h2=>by
 obtain ⟨j,j1,j2,j3⟩:=h.src k h1 h2
 rw [j3];exact hA j j1 j2
set_option maxHeartbeats 2000000 in
theorem insertC_any (w0 w : World) (g o n cap : Nat) (d : Nat → EvE) (hg : w0.heap.size ≤ g) (h : SrtW w0 g o n d w) (a b : Nat) (hab : a < b) (hb : b ≤ n) (hn : n ≤ 1000)
    {f:Nat} {lb:Array Value} {A:EvE→Prop} {cf:EvE→EvE→Int} {L lx:EvE→EvE→Prop} (C:CmpE w0 f lb A cf) (O:OrdE A cf L lx) (hA:∀ k,a≤k→k<b→A (d k)) (hlx:Srtd lx d a b) :
    Calls Tryz.prog 198 #[.slice (some ⟨g,o,none⟩) n cap,.int .i64 (a:Int),.int .i64 (b:Int),.func (.func f) #[] lb] w (SrtPost w0 g o n a b L d):=by
 have H0:=Lib.hid h
 have HG:=Lib.hid hg
 have HB:=Lib.hid (And.intro hab hb)
 have HC:=Lib.hid C
 have HO:=Lib.hid O
 have HA:=Lib.hid hA
 have HLX:=Lib.hid hlx
 have eg:=C.en
 unfold Enters at eg
 have haw:IntKind.i64.wrap ((a:Int)+1)=((a+1:Nat):Int):=by rw [IntWalk.i64_in _ (by omega)];omega
 have hb1:b≤1000:=by omega
 clear h hg hab hb C O hA hlx
 go_enter Tryz.func198,Tryz.ntmps198
 go_wp2_with fail
 go_loopg [8] (b - (a+1)) (fun gg v8 wr=>∃ (i:Nat) (e:Nat→EvE),a+1≤i∧i≤b∧gg=b - i∧v8=.int .i64 i∧Hid (SrtW w0 g o n e wr)∧Hid (Im d e a i)∧Hid (Srtd L e a i))
 case atStart=>exact ⟨a+1,d,by omega,by have:=HB.out;omega,rfl,by go_num,H0,Lib.hid (Im.refl _ _ _),Lib.hid (fun i j h1 h2 h3=>by omega)⟩
 case round=>
  clear H0 haw
  obtain ⟨i,e,hai,hib,rfl,rfl,HWE,HIM,HSD⟩:=hrel
  by_cases hlt:i<b
  ·have hlt':(i:Int)<(b:Int):=by omega
   have HEI:=Lib.hid (show e i=d i from HIM.out.out i (by omega))
   have HAE:=Lib.hid (show ∀ k,a≤k→k≤i→A (e k) from fun k k1 k2=>(HIM.out.wide (Nat.le_refl _) (show i≤b by omega)).all HA.out k k1 (by omega))
   have HLE:=Lib.hid (show ∀ k,a≤k→k<i→lx (e k) (e i) from fun k k1 k2=>by
    obtain ⟨j,j1,j2,j3⟩:=HIM.out.src k k1 k2
    rw [j3,HEI.out];exact HLX.out j i j1 j2 hlt)
   go_wp2_with fail
   go_loopg [9] i (fun gg v9 wr=>∃ j:Nat,a≤j∧j≤i∧gg=0+j∧v9=.int .i64 j∧Hid (SrtW w0 g o n (rotF e j i (i+1)) wr)∧Hid (∀ k,j≤k→k<i→L (e i) (e k)))
   case atStart=>exact ⟨i,by omega,by omega,by omega,rfl,Lib.hid (by rw [rotF_top];exact HWE.out),Lib.hid (fun k h1 h2=>by omega)⟩
   case round=>
    clear HWE
    obtain ⟨j,haj,hji,rfl,rfl,HW,HLK⟩:=hrel
    by_cases hja:a<j
    ·have d1:decide ((a:Int)<(j:Int))=true:=decide_eq_true (by omega)
     obtain ⟨jp,hjp⟩:∃ jp,j=jp+1:=⟨j - 1,by omega⟩
     have e1:(j:Int) - 1=(jp:Int):=by omega
     have e1w:IntKind.i64.wrap ((j:Int) - 1)=(jp:Int):=by rw [IntWalk.i64_in _ (by omega)];omega
     have HJP:=Lib.hid hjp
     obtain ⟨c,hc⟩:∃ c,c=rotF e j i (i+1):=⟨_,rfl⟩
     rw [←hc] at HW
     have HCJ:=Lib.hid (show c j=e i from by rw [hc];unfold rotF;rw [if_pos (by omega)];congr 1;omega)
     have HCP:=Lib.hid (show c jp=e jp from by rw [hc];unfold rotF;rw [if_neg (by omega),if_neg (by omega)])
     have HCS:=Lib.hid (show sw c j jp=rotF e jp i (i+1) from by rw [hc,hjp,rotF_up e (show jp<i by omega)])
     have hjn:j<n:=by have:=HB.out;omega
     have hjpn:jp<n:=by omega
     have r0:=HW.out.m.c0 j hjn
     have r1:=HW.out.m.c1 j hjn
     have r2:=HW.out.m.c0 jp hjpn
     have r3:=HW.out.m.c1 jp hjpn
     have q0:∀ w',Ext wr w'→w'.cell? ⟨g,o+j*2,none⟩=some (.int .i64 (c j).1):=fun w' x=>x.cell r0
     have q1:∀ w',Ext wr w'→w'.cell? ⟨g,o+j*2+1,none⟩=some (.int .i64 (c j).2):=fun w' x=>x.cell r1
     have q2:∀ w',Ext wr w'→w'.cell? ⟨g,o+jp*2,none⟩=some (.int .i64 (c jp).1):=fun w' x=>x.cell r2
     have q3:∀ w',Ext wr w'→w'.cell? ⟨g,o+jp*2+1,none⟩=some (.int .i64 (c jp).2):=fun w' x=>x.cell r3
     have qb:∀ w',Ext wr w'→g<w'.heap.size:=fun w' x=>Nat.lt_of_lt_of_le HW.out.m.lt x.le
     have hxw:=HW.out.x
     have HCC:=Lib.hid (fun W (x:Ext w0 W)=>HC.out.go W x (c j) (c jp) (by rw [HCJ.out];exact HAE.out i (by omega) (Nat.le_refl _)) (by rw [HCP.out];exact HAE.out jp (by omega) (by omega)))
     obtain ⟨r,hr⟩:∃ r,r=cf (c j) (c jp):=⟨_,rfl⟩
     rw [←hr] at HCC
     have HR:=Lib.hid hr
     have HCI:=Lib.hid hc
     clear hc hjp r0 r1 r2 r3 hr
     by_cases hneg:r<0
     ·have d2:decide (r<0)=true:=decide_eq_true hneg
      have HNEG:=Lib.hid hneg
      clear hneg
      go_upto_region 4 with fail
      have hg0:∀ d os,Ext w0 (Sort.grow (redrawn wr d) os):=fun d os=>hxw.trans (below_regrown wr d os)
      have hg1:∀ d os,Ext wr (Sort.grow (redrawn wr d) os):=fun d os=>below_regrown wr d os
      refine wp_region_quiet_below (by kernel_rfl) (by kernel_rfl) ?_
      repeat (go_big_quiet_step ((go_at_fn f;exact Calls.regrown_of (HCC.out _ (hg0 _ _)))))
      refine wpQuiet_nil ?_
      intro _ hw'
      obtain ⟨⟨dq,osq⟩,hw''⟩:=hw'
      subst hw''
      have hxq:=hg1 dq osq
      clear hg0 hg1
      generalize Sort.grow (redrawn wr dq) osq=w2 at hxq ⊢
      have HWO:=HW
      have HW:=Lib.hid (HWO.out.ext hxq)
      clear HWO q0 q1 q2 q3 hxw HCC hxq
      have hpn:=hjn
      have hqn:=hjpn
      have a0:=HW.out.m.c0 j hpn
      have a1:=HW.out.m.c1 j hpn
      have b0:=HW.out.m.c0 jp hqn
      have b1:=HW.out.m.c1 jp hqn
      have fa0:=HW.out.m.fr (j*2) (by omega)
      have fa1:w2.frozen? ⟨g,o+j*2+1,none⟩=false:=HW.out.m.fr (j*2+1) (by omega)
      have fb0:=HW.out.m.fr (jp*2) (by omega)
      have fb1:w2.frozen? ⟨g,o+jp*2+1,none⟩=false:=HW.out.m.fr (jp*2+1) (by omega)
      have HS:=Lib.hid (HW.out.sw HG.out hpn hqn (by omega))
      go_upto_region 6 with fail
      go_region
      all_goals go_wp2_with fail
      go_roundg (0+jp)
      case rel=>exact ⟨jp,by have:=HJP.out;omega,by have:=HJP.out;omega,rfl,by go_num,Lib.hid (by rw [←HCS.out];exact ⟨HS.out.x.drew,HS.out.m.c0,HS.out.m.c1,HS.out.m.fr,HS.out.m.lt⟩),Lib.hid (fun k k1 k2=>by
       by_cases e:k=jp
       ·subst e;rw [←HCJ.out,←HCP.out];exact HO.out.yes _ _ (by rw [HCP.out];exact HAE.out k (by have:=HJP.out;omega) (by omega)) (by rw [HCJ.out];exact HAE.out i (by omega) (Nat.le_refl _)) (by rw [HCP.out,HCJ.out];exact HLE.out k (by have:=HJP.out;omega) k2) (by rw [←HR.out];exact HNEG.out)
       ·exact HLK.out k (by have:=HJP.out;omega) k2)⟩
      case measure=>have:=HJP.out;omega
     ·have d2:decide (r<0)=false:=decide_eq_false hneg
      have HNEG:=Lib.hid (show ¬r<0 from hneg)
      have HNEX:=Lib.hid (show j=a∨L (e (j - 1)) (e i) from .inr (by
       rw [show j - 1=jp by have:=HJP.out;omega,←HCJ.out,←HCP.out]
       exact HO.out.no _ _ (by rw [HCP.out];exact HAE.out jp (by have:=HJP.out;omega) (by have:=HJP.out;omega)) (by rw [HCJ.out];exact HAE.out i (by omega) (Nat.le_refl _)) (by rw [HCP.out,HCJ.out];exact HLE.out jp (by have:=HJP.out;omega) (by have:=HJP.out;omega)) (by rw [←HR.out];exact hneg)))
      have HCC2:=Lib.hid (show SrtW w0 g o n c wr→SrtW w0 g o n (rotF e j i (i+1)) wr from fun h=>by
       have:=HCS.out
       exact HCI.out▸h)
      clear hneg
      go_upto_region 4 with fail
      have hg0:∀ d os,Ext w0 (Sort.grow (redrawn wr d) os):=fun d os=>hxw.trans (below_regrown wr d os)
      have hg1:∀ d os,Ext wr (Sort.grow (redrawn wr d) os):=fun d os=>below_regrown wr d os
      refine wp_region_quiet_below (by kernel_rfl) (by kernel_rfl) ?_
      repeat (go_big_quiet_step ((go_at_fn f;exact Calls.regrown_of (HCC.out _ (hg0 _ _)))))
      refine wpQuiet_nil ?_
      intro _ hw'
      obtain ⟨⟨dq,osq⟩,hw''⟩:=hw'
      subst hw''
      have hxq:=hg1 dq osq
      clear hg0 hg1
      generalize Sort.grow (redrawn wr dq) osq=w2 at hxq ⊢
      have HW2:=Lib.hid ((HCC2.out HW.out).ext hxq)
      clear HW q0 q1 q2 q3 hxw HCC hxq HNEG HR HCC2
      go_wp2_with fail
      go_roundg (b - (i+1))
      case rel=>exact ⟨i+1,_,by omega,by omega,rfl,by go_num,HW2,Lib.hid (((HIM.out.wide (Nat.le_refl _) (Nat.le_succ i)).trans ((Im.rot e hji (Nat.le_succ i)).wide haj (Nat.le_refl _)))),Lib.hid (HSD.out.insert HO.out haj hji HAE.out HNEX.out HLK.out)⟩
      case measure=>omega
    ·obtain rfl:j=a:=by omega
     have d1:decide ((j:Int)<(j:Int))=false:=decide_eq_false (by omega)
     have hxw:=HW.out.x
     go_upto_region 4 with fail
     refine wp_region_quiet_below (by kernel_rfl) (by kernel_rfl) ?_
     repeat (go_big_quiet_step (fail))
     refine wpQuiet_nil ?_
     intro _ hw'
     obtain ⟨⟨dq,osq⟩,hw''⟩:=hw'
     subst hw''
     have hxq:=below_regrown wr dq osq
     generalize Sort.grow (redrawn wr dq) osq=w2 at hxq ⊢
     have HW2:=Lib.hid (HW.out.ext hxq)
     clear HW hxw hxq
     go_wp2_with fail
     go_roundg (b - (i+1))
     case rel=>exact ⟨i+1,_,by omega,by omega,rfl,by go_num,HW2,Lib.hid (((HIM.out.wide (Nat.le_refl _) (Nat.le_succ i)).trans ((Im.rot e hji (Nat.le_succ i)).wide haj (Nat.le_refl _)))),Lib.hid (HSD.out.insert HO.out haj hji HAE.out (Or.inl rfl) HLK.out)⟩
     case measure=>omega
  ·obtain rfl:i=b:=by omega
   go_wp2_with fail
   go_end0
   exact ⟨rfl,e,HWE.out,HIM.out,HSD.out⟩
set_option maxHeartbeats 4000000 in
theorem symC_first (w0 : World) (g o n cap : Nat) (hg : w0.heap.size ≤ g) (hn : n ≤ 1000) {f : Nat} {lb : Array Value} {A : EvE → Prop} {cf : EvE → EvE → Int} {L lx : EvE → EvE → Prop} (C : CmpE w0 f lb A cf) (O : OrdE A cf L lx) (w : World) (d : Nat → EvE) (a m b : Nat) (h : SrtW w0 g o n d w) (ham : a < m) (hmb : m < b) (hbn : b ≤ n) (hA : ∀ k, a ≤ k → k < b → A (d k)) (hs1 : Srtd L d a m) (hs2 : Srtd L d m b) (hlx : Bef2 lx d a m m b) (h1 : m = a + 1) :
    Calls Tryz.prog 199 #[.slice (some ⟨g,o,none⟩) n cap,.int .i64 (a:Int),.int .i64 (m:Int),.int .i64 (b:Int),.func (.func f) #[] lb] w (SrtPost w0 g o n a b L d):=by
 have H0:=Lib.hid h
 have HG:=Lib.hid hg
 have HC:=Lib.hid C
 have HO:=Lib.hid O
 have HA:=Lib.hid hA
 have HS1:=Lib.hid hs1
 have HS2:=Lib.hid hs2
 have HLX:=Lib.hid hlx
 have eg:=C.en
 unfold Enters at eg
 clear h hg C O hA hs1 hs2 hlx
 go_enter Tryz.func199,Tryz.ntmps199
 have H1:=Lib.hid h1
 have d0:((m:Int) - (a:Int) == 1)=true:=by simp;omega
 have d0w:IntKind.i64.wrap ((m:Int) - (a:Int))=1:=by rw [IntWalk.i64_in _ (by omega)];omega
 clear h1
 go_wp2_with fail
 go_loopg [10,11] (b - m) (fun gg v10 v11 wr=>∃ i j:Nat,m≤i∧i≤j∧j≤b∧gg=j - i∧v10=.int .i64 i∧v11=.int .i64 j∧Hid (SrtW w0 g o n d wr)∧Hid (i=m∨L (d (i - 1)) (d a))∧Hid (j=b∨L (d a) (d j)))
 case atStart=>exact ⟨m,b,by omega,by omega,by omega,rfl,rfl,rfl,H0,Lib.hid (.inl rfl),Lib.hid (.inl rfl)⟩
 case round=>
  clear H0
  obtain ⟨i,j,hai,hij,hjb,rfl,rfl,rfl,HW,HI,HJ⟩:=hrel
  by_cases hlt:i<j
  ·have hlt':(i:Int)<(j:Int):=by omega
   obtain ⟨h,hh⟩:∃ h,h=(i+j) / 2:=⟨_,rfl⟩
   have hh1:((i:Int)+(j:Int)) / 2=(h:Int):=by omega
   have hh2:i≤h∧h<j:=by omega
   obtain ⟨hh3,hh4⟩:=hh2
   clear hh
   have hpn:h<n:=by omega
   have hqn:a<n:=by omega
   have q0:∀ w',Ext wr w'→w'.cell? ⟨g,o+h*2,none⟩=some (.int .i64 (d h).1):=fun w' x=>x.cell (HW.out.m.c0 h hpn)
   have q1:∀ w',Ext wr w'→w'.cell? ⟨g,o+h*2+1,none⟩=some (.int .i64 (d h).2):=fun w' x=>x.cell (HW.out.m.c1 h hpn)
   have q2:∀ w',Ext wr w'→w'.cell? ⟨g,o+a*2,none⟩=some (.int .i64 (d a).1):=fun w' x=>x.cell (HW.out.m.c0 a hqn)
   have q3:∀ w',Ext wr w'→w'.cell? ⟨g,o+a*2+1,none⟩=some (.int .i64 (d a).2):=fun w' x=>x.cell (HW.out.m.c1 a hqn)
   have qb:∀ w',Ext wr w'→g<w'.heap.size:=fun w' x=>Nat.lt_of_lt_of_le HW.out.m.lt x.le
   have hxw:=HW.out.x
   have HCC:=Lib.hid (fun W (x:Ext w0 W)=>HC.out.go W x (d h) (d a) (HA.out h (by omega) (by omega)) (HA.out a (by omega) (by omega)))
   obtain ⟨r,hr⟩:∃ r,r=cf (d h) (d a):=⟨_,rfl⟩
   rw [←hr] at HCC
   have HR:=Lib.hid hr
   clear hr
   by_cases hneg:r<0
   ·have d2:decide (r<0)=true:=decide_eq_true hneg
    have HL:=Lib.hid (show L (d h) (d a) from HO.out.yes _ _ (HA.out a (by omega) (by omega)) (HA.out h (by omega) (by omega)) (HLX.out a h (by omega) (by omega) (by omega) (by omega)) (by rw [←HR.out];exact hneg))
    clear hneg
    go_upto_region 5 with fail
    have hg0:∀ d os,Ext w0 (Sort.grow (redrawn wr d) os):=fun d os=>hxw.trans (below_regrown wr d os)
    have hg1:∀ d os,Ext wr (Sort.grow (redrawn wr d) os):=fun d os=>below_regrown wr d os
    refine wp_region_quiet_below (by kernel_rfl) (by kernel_rfl) ?_
    repeat (go_big_quiet_step ((go_at_fn f;exact Calls.regrown_of (HCC.out _ (hg0 _ _)))))
    refine wpQuiet_nil ?_
    intro _ hw'
    obtain ⟨⟨dq,osq⟩,hw''⟩:=hw'
    subst hw''
    have hxq:=hg1 dq osq
    clear hg0 hg1
    generalize Sort.grow (redrawn wr dq) osq=w2 at hxq ⊢
    have HW2:=Lib.hid (HW.out.ext hxq)
    clear HW q0 q1 q2 q3 hxw HCC hxq
    go_wp2_with fail
    go_roundg (j - (h+1))
    case rel=>exact ⟨h+1,j,by omega,by omega,hjb,rfl,by go_num,rfl,HW2,Lib.hid (.inr HL.out),HJ⟩
    case measure=>omega
   ·have d2:decide (r<0)=false:=decide_eq_false hneg
    have HL:=Lib.hid (show L (d a) (d h) from HO.out.no _ _ (HA.out a (by omega) (by omega)) (HA.out h (by omega) (by omega)) (HLX.out a h (by omega) (by omega) (by omega) (by omega)) (by rw [←HR.out];exact hneg))
    clear hneg
    go_upto_region 5 with fail
    have hg0:∀ d os,Ext w0 (Sort.grow (redrawn wr d) os):=fun d os=>hxw.trans (below_regrown wr d os)
    have hg1:∀ d os,Ext wr (Sort.grow (redrawn wr d) os):=fun d os=>below_regrown wr d os
    refine wp_region_quiet_below (by kernel_rfl) (by kernel_rfl) ?_
    repeat (go_big_quiet_step ((go_at_fn f;exact Calls.regrown_of (HCC.out _ (hg0 _ _)))))
    refine wpQuiet_nil ?_
    intro _ hw'
    obtain ⟨⟨dq,osq⟩,hw''⟩:=hw'
    subst hw''
    have hxq:=hg1 dq osq
    clear hg0 hg1
    generalize Sort.grow (redrawn wr dq) osq=w2 at hxq ⊢
    have HW2:=Lib.hid (HW.out.ext hxq)
    clear HW q0 q1 q2 q3 hxw HCC hxq
    go_wp2_with fail
    go_roundg (h - i)
    case rel=>exact ⟨i,h,hai,by omega,by omega,rfl,rfl,rfl,HW2,HI,Lib.hid (.inr HL.out)⟩
    case measure=>omega
  ·obtain rfl:i=j:=by omega
   have ei:(i:Int) - 1=((i - 1:Nat):Int):=by omega
   have eiw:IntKind.i64.wrap ((i:Int) - 1)=((i - 1:Nat):Int):=by rw [IntWalk.i64_in _ (by omega)];omega
   obtain ⟨ip,hip⟩:∃ ip,ip=i - 1:=⟨_,rfl⟩
   rw [←hip] at ei eiw
   have HIP:=Lib.hid (show i=ip+1 from by omega)
   have hai2:a≤ip:=by omega
   have HM:=Lib.hid (show ip+1≤b∧m≤ip+1 from by omega)
   clear hip
   have HT:=Lib.hid (show SrtW w0 g o n (rotF d a (a+1) (a+1)) wr from by rw [rotF_low];exact HW.out)
   clear HW
   go_wp2_with fail
   go_loopg [13] (ip - a) (fun gg v13 wr=>∃ k:Nat,a≤k∧k≤ip∧gg=ip - k∧v13=.int .i64 k∧Hid (SrtW w0 g o n (rotF d a (a+1) (k+1)) wr))
   case atStart=>exact ⟨a,by omega,by omega,rfl,rfl,HT⟩
   case round=>
    clear HT
    obtain ⟨k,hak,hki,rfl,rfl,HW⟩:=hrel
    by_cases hlk:k<ip
    ·have hlk':(k:Int)<(ip:Int):=by omega
     obtain ⟨q,hq⟩:∃ q,q=k+1:=⟨_,rfl⟩
     have eq1:(k:Int)+1=(q:Int):=by omega
     have HSS:=Lib.hid (show sw (rotF d a (a+1) (k+1)) k q=rotF d a (a+1) (k+2) from by rw [hq,rotF_down d hak])
     have HQ:=Lib.hid hq
     have hqn0:q<n:=by have:=HM.out;omega
     generalize rotF d a (a+1) (k+1)=c at HW HSS
     have hkq:k<q:=by omega
     clear hq
     have hpn:k<n:=by omega
     have hqn:q<n:=by omega
     have a0:=HW.out.m.c0 k hpn
     have a1:=HW.out.m.c1 k hpn
     have b0:=HW.out.m.c0 q hqn
     have b1:=HW.out.m.c1 q hqn
     have fa0:=HW.out.m.fr (k*2) (by omega)
     have fa1:wr.frozen? ⟨g,o+k*2+1,none⟩=false:=HW.out.m.fr (k*2+1) (by omega)
     have fb0:=HW.out.m.fr (q*2) (by omega)
     have fb1:wr.frozen? ⟨g,o+q*2+1,none⟩=false:=HW.out.m.fr (q*2+1) (by omega)
     have HS:=Lib.hid (HW.out.sw HG.out hpn hqn (by omega))
     go_upto_region 11 with fail
     go_region
     all_goals go_wp2_with fail
     go_roundg (ip - (k+1))
     case rel=>exact ⟨k+1,by omega,by omega,rfl,by go_num,Lib.hid (by rw [show k+1+1=k+2 from rfl,←HSS.out];exact ⟨HS.out.x.drew,HS.out.m.c0,HS.out.m.c1,HS.out.m.fr,HS.out.m.lt⟩)⟩
     case measure=>omega
    ·obtain rfl:k=ip:=by omega
     have HAA:=Lib.hid (And.intro hai (And.intro ham hbn))
     go_wp2_with fail
     go_end0
     refine ⟨rfl,_,HW.out,(Im.rot d (Nat.le_succ a) (by have:=HM.out;have:=H1.out;omega)).wide (Nat.le_refl _) (by have:=HM.out;omega),?_⟩
     have hI:=HI.out
     have hJ:=HJ.out
     rw [HIP.out] at hI hJ
     have h1:=H1.out
     exact Srtd.insert_first HO.out (by rw [←h1];exact HS2.out) (by have:=HM.out;omega) (by have:=HM.out;omega) HA.out (by rw [←h1];exact hI) hJ
set_option maxHeartbeats 4000000 in
theorem symC_last (w0 : World) (g o n cap : Nat) (hg : w0.heap.size ≤ g) (hn : n ≤ 1000) {f : Nat} {lb : Array Value} {A : EvE → Prop} {cf : EvE → EvE → Int} {L lx : EvE → EvE → Prop} (C : CmpE w0 f lb A cf) (O : OrdE A cf L lx) (w : World) (d : Nat → EvE) (a m b : Nat) (h : SrtW w0 g o n d w) (ham : a < m) (hmb : m < b) (hbn : b ≤ n) (hA : ∀ k, a ≤ k → k < b → A (d k)) (hs1 : Srtd L d a m) (hs2 : Srtd L d m b) (hlx : Bef2 lx d a m m b) (h0 : m ≠ a + 1) (h1 : b = m + 1) :
    Calls Tryz.prog 199 #[.slice (some ⟨g,o,none⟩) n cap,.int .i64 (a:Int),.int .i64 (m:Int),.int .i64 (b:Int),.func (.func f) #[] lb] w (SrtPost w0 g o n a b L d):=by
 have H0:=Lib.hid h
 have HG:=Lib.hid hg
 have HC:=Lib.hid C
 have HO:=Lib.hid O
 have HA:=Lib.hid hA
 have HS1:=Lib.hid hs1
 have HS2:=Lib.hid hs2
 have HLX:=Lib.hid hlx
 have eg:=C.en
 unfold Enters at eg
 clear h hg C O hA hs1 hs2 hlx
 go_enter Tryz.func199,Tryz.ntmps199
 have H1:=Lib.hid h1
 have d0:((m:Int) - (a:Int) == 1)=false:=by simp;omega
 have d1:((b:Int) - (m:Int) == 1)=true:=by simp;omega
 have d1w:IntKind.i64.wrap ((b:Int) - (m:Int))=1:=by rw [IntWalk.i64_in _ (by omega)];omega
 clear h1 h0
 go_wp2_with fail
 go_loopg [14,15] (m - a) (fun gg v14 v15 wr=>∃ i j:Nat,a≤i∧i≤j∧j≤m∧gg=j - i∧v14=.int .i64 i∧v15=.int .i64 j∧Hid (SrtW w0 g o n d wr)∧Hid (i=a∨L (d (i - 1)) (d m))∧Hid (j=m∨L (d m) (d j)))
 case atStart=>exact ⟨a,m,by omega,by omega,by omega,rfl,rfl,rfl,H0,Lib.hid (.inl rfl),Lib.hid (.inl rfl)⟩
 case round=>
  clear H0
  obtain ⟨i,j,hai,hij,hjb,rfl,rfl,rfl,HW,HI,HJ⟩:=hrel
  by_cases hlt:i<j
  ·have hlt':(i:Int)<(j:Int):=by omega
   obtain ⟨h,hh⟩:∃ h,h=(i+j) / 2:=⟨_,rfl⟩
   have hh1:((i:Int)+(j:Int)) / 2=(h:Int):=by omega
   have hh2:i≤h∧h<j:=by omega
   obtain ⟨hh3,hh4⟩:=hh2
   clear hh
   have hpn:m<n:=by omega
   have hqn:h<n:=by omega
   have q0:∀ w',Ext wr w'→w'.cell? ⟨g,o+m*2,none⟩=some (.int .i64 (d m).1):=fun w' x=>x.cell (HW.out.m.c0 m hpn)
   have q1:∀ w',Ext wr w'→w'.cell? ⟨g,o+m*2+1,none⟩=some (.int .i64 (d m).2):=fun w' x=>x.cell (HW.out.m.c1 m hpn)
   have q2:∀ w',Ext wr w'→w'.cell? ⟨g,o+h*2,none⟩=some (.int .i64 (d h).1):=fun w' x=>x.cell (HW.out.m.c0 h hqn)
   have q3:∀ w',Ext wr w'→w'.cell? ⟨g,o+h*2+1,none⟩=some (.int .i64 (d h).2):=fun w' x=>x.cell (HW.out.m.c1 h hqn)
   have qb:∀ w',Ext wr w'→g<w'.heap.size:=fun w' x=>Nat.lt_of_lt_of_le HW.out.m.lt x.le
   have hxw:=HW.out.x
   have HCC:=Lib.hid (fun W (x:Ext w0 W)=>HC.out.go W x (d m) (d h) (HA.out m (by omega) (by omega)) (HA.out h (by omega) (by omega)))
   obtain ⟨r,hr⟩:∃ r,r=cf (d m) (d h):=⟨_,rfl⟩
   rw [←hr] at HCC
   have HR:=Lib.hid hr
   clear hr
   by_cases hneg:r<0
   ·have d2:decide (r<0)=true:=decide_eq_true hneg
    have HL:=Lib.hid (show L (d m) (d h) from HO.out.yes _ _ (HA.out h (by omega) (by omega)) (HA.out m (by omega) (by omega)) (HLX.out h m (by omega) (by omega) (by omega) (by omega)) (by rw [←HR.out];exact hneg))
    clear hneg
    go_upto_region 17 with fail
    have hg0:∀ d os,Ext w0 (Sort.grow (redrawn wr d) os):=fun d os=>hxw.trans (below_regrown wr d os)
    have hg1:∀ d os,Ext wr (Sort.grow (redrawn wr d) os):=fun d os=>below_regrown wr d os
    refine wp_region_quiet_below (by kernel_rfl) (by kernel_rfl) ?_
    repeat (go_big_quiet_step ((go_at_fn f;exact Calls.regrown_of (HCC.out _ (hg0 _ _)))))
    refine wpQuiet_nil ?_
    intro _ hw'
    obtain ⟨⟨dq,osq⟩,hw''⟩:=hw'
    subst hw''
    have hxq:=hg1 dq osq
    clear hg0 hg1
    generalize Sort.grow (redrawn wr dq) osq=w2 at hxq ⊢
    have HW2:=Lib.hid (HW.out.ext hxq)
    clear HW q0 q1 q2 q3 hxw HCC hxq
    go_wp2_with fail
    go_roundg (h - i)
    case rel=>exact ⟨i,h,hai,by omega,by omega,rfl,rfl,rfl,HW2,HI,Lib.hid (.inr HL.out)⟩
    case measure=>omega
   ·have d2:decide (r<0)=false:=decide_eq_false hneg
    have HL:=Lib.hid (show L (d h) (d m) from HO.out.no _ _ (HA.out h (by omega) (by omega)) (HA.out m (by omega) (by omega)) (HLX.out h m (by omega) (by omega) (by omega) (by omega)) (by rw [←HR.out];exact hneg))
    clear hneg
    go_upto_region 17 with fail
    have hg0:∀ d os,Ext w0 (Sort.grow (redrawn wr d) os):=fun d os=>hxw.trans (below_regrown wr d os)
    have hg1:∀ d os,Ext wr (Sort.grow (redrawn wr d) os):=fun d os=>below_regrown wr d os
    refine wp_region_quiet_below (by kernel_rfl) (by kernel_rfl) ?_
    repeat (go_big_quiet_step ((go_at_fn f;exact Calls.regrown_of (HCC.out _ (hg0 _ _)))))
    refine wpQuiet_nil ?_
    intro _ hw'
    obtain ⟨⟨dq,osq⟩,hw''⟩:=hw'
    subst hw''
    have hxq:=hg1 dq osq
    clear hg0 hg1
    generalize Sort.grow (redrawn wr dq) osq=w2 at hxq ⊢
    have HW2:=Lib.hid (HW.out.ext hxq)
    clear HW q0 q1 q2 q3 hxw HCC hxq
    go_wp2_with fail
    go_roundg (j - (h+1))
    case rel=>exact ⟨h+1,j,by omega,by omega,hjb,rfl,by go_num,rfl,HW2,Lib.hid (.inr HL.out),HJ⟩
    case measure=>omega
  ·obtain rfl:i=j:=by omega
   have HT:=Lib.hid (show SrtW w0 g o n (rotF d m m (m+1)) wr from by rw [rotF_top];exact HW.out)
   clear HW
   go_wp2_with fail
   go_loopg [17] (m - i) (fun gg v17 wr=>∃ k:Nat,i≤k∧k≤m∧gg=k - i∧v17=.int .i64 k∧Hid (SrtW w0 g o n (rotF d k m (m+1)) wr))
   case atStart=>exact ⟨m,by omega,by omega,rfl,rfl,HT⟩
   case round=>
    clear HT
    obtain ⟨k,hak,hki,rfl,rfl,HW⟩:=hrel
    by_cases hlk:i<k
    ·have hlk':(i:Int)<(k:Int):=by omega
     obtain ⟨q,hq⟩:∃ q,k=q+1:=⟨k - 1,by omega⟩
     have eq1:(k:Int) - 1=(q:Int):=by omega
     have eq1w:IntKind.i64.wrap ((k:Int) - 1)=(q:Int):=by rw [IntWalk.i64_in _ (by omega)];omega
     have HSS:=Lib.hid (show sw (rotF d k m (m+1)) k q=rotF d q m (m+1) from by rw [hq,rotF_up d (show q<m by omega)])
     have HQ:=Lib.hid hq
     have hqk:q<k:=by omega
     generalize rotF d k m (m+1)=c at HW HSS
     clear hq
     have hpn:k<n:=by omega
     have hqn:q<n:=by omega
     have a0:=HW.out.m.c0 k hpn
     have a1:=HW.out.m.c1 k hpn
     have b0:=HW.out.m.c0 q hqn
     have b1:=HW.out.m.c1 q hqn
     have fa0:=HW.out.m.fr (k*2) (by omega)
     have fa1:wr.frozen? ⟨g,o+k*2+1,none⟩=false:=HW.out.m.fr (k*2+1) (by omega)
     have fb0:=HW.out.m.fr (q*2) (by omega)
     have fb1:wr.frozen? ⟨g,o+q*2+1,none⟩=false:=HW.out.m.fr (q*2+1) (by omega)
     have HS:=Lib.hid (HW.out.sw HG.out hpn hqn (by omega))
     go_upto_region 23 with fail
     go_region
     all_goals go_wp2_with fail
     go_roundg (q - i)
     case rel=>exact ⟨q,by have:=HQ.out;omega,by omega,rfl,by go_num,Lib.hid (by rw [←HSS.out];exact ⟨HS.out.x.drew,HS.out.m.c0,HS.out.m.c1,HS.out.m.fr,HS.out.m.lt⟩)⟩
     case measure=>have:=HQ.out;omega
    ·obtain rfl:k=i:=by omega
     go_wp2_with fail
     go_end0
     have h1:=H1.out
     have hA2:=HA.out
     rw [h1] at hA2 ⊢
     exact ⟨rfl,_,HW.out,(Im.rot d hki (Nat.le_succ m)).wide hai (Nat.le_refl _),Srtd.insert_last HO.out HS1.out hai hki hA2 HI.out HJ.out⟩
end Go.Proofs.YtlfdfkbmollaaaaGreatDoor
