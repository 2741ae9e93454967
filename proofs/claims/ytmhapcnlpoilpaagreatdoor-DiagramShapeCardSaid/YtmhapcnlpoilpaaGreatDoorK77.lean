/- Contracts: antecederef56.SameRows, Consistent; antecederef22.Fits. Contracts: antecederef56.Cut, Draw. -/
import Derived.Test.YtmhapcnlpoilpaaGreatDoorK71
import Derived.Test.YtmhapcnlpoilpaaGreatDoorK18
import Derived.Test.YtmhapcnlpoilpaaGreatDoorK34
import Derived.Test.YtmhapcnlpoilpaaGreatDoorK76
import Derived.Test.YtmhapcnlpoilpaaGreatDoorK74
import Derived.Test.YtmhapcnlpoilpaaGreatDoorK70
import Derived.Test.YtmhapcnlpoilpaaGreatDoorK20
import Derived.Lib.QuietBelow
namespace Go.Proofs.YtmhapcnlpoilpaaGreatDoor
open Go.RowKit Go.Shelf
structure RdR (w : World) (b n : Nat) (e : Nat → Nat) (f : Nat → Nat → Int) : Prop where
 lt : b < w.heap.size
 row : ∀ p, p < n → ∃ av g cv, w.cell? ⟨b, p, none⟩ = some (.slice av (e p) cv) ∧ ∀ i, i < e p → av = some ⟨g, 0, none⟩ ∧ g < w.heap.size ∧ w.cell? ⟨g, i, none⟩ = some (.int .i64 (f p i))
theorem RdR.ext {w w' : World} {b n : Nat} {e : Nat → Nat} {f : Nat → Nat → Int} (h : RdR w b n e f) (x : Ext w w') : RdR w' b n e f :=
 ⟨Nat.lt_of_lt_of_le h.lt x.le, fun p hp => by
  obtain ⟨av, g, cv, h1, h2⟩ := h.row p hp
  exact ⟨av, g, cv, x.cell h1, fun i hi => ⟨(h2 i hi).1, Nat.lt_of_lt_of_le (h2 i hi).2.1 x.le, x.cell (h2 i hi).2.2⟩⟩⟩
theorem StS.rdR {base n : Nat} {rows : Nat → List Int} {vs : Nat → Value} {w : World} {en : Nat → Nat} (h : StS base base n (dec rows) vs w) (h0 : 0 < n) (hl : ∀ p, p < n → (rows p).length = en p) : RdR w base n en fun p i => (rows p).getD i 0 - 1 := by
 refine ⟨cell_lt (h.cell 0 h0), fun p hp => ?_⟩
 obtain ⟨av, g, cv, _, h2, h3⟩ := h.readD hp (hl p hp)
 exact ⟨av, g, cv, h2 w (Ext.refl _), fun i hi => ⟨(h3 i hi).1, (h3 i hi).2.1, (h3 i hi).2.2 w (Ext.refl _)⟩⟩
theorem ioMM_rdR {g n c : Nat} {en : Nat → Nat} {rb : Nat → Nat} {f f' : Nat → Nat → Int} {w : World} (h : (ioMM g n c en rb f).At w) (h0 : 0 < n) (hf : ∀ p i, p < n → i < en p → f p i = f' p i) : RdR w g n en f' := by
 have hx := Ext.refl w
 refine ⟨h.pb h0 w hx, fun p hp => ⟨some ⟨rb p, 0, none⟩, rb p, en p, ?_, fun i hi => ⟨rfl, h.rb p hp (Nat.lt_of_le_of_lt (Nat.zero_le _) hi) w hx, ?_⟩⟩⟩
 ·have := h.p0 w hx p hp
  rw [show (ioMM g n c en rb f).off + p = p from Nat.zero_add p] at this
  exact this
 ·have := h.r0 w hx p i hp hi
  rw [show (ioMM g n c en rb f).ro p + i = i from Nat.zero_add i] at this
  rw [← hf p i hp hi]; exact this
set_option maxRecDepth 100000 in
set_option maxHeartbeats 2000000 in
theorem rsamerows_any (w : World) (b1 b2 n c1 c2 : Nat) (e : Nat → Nat) (f : Nat → Nat → Int) (h1 : RdR w b1 n e f) (h2 : RdR w b2 n e f) (hn : n ≤ 100) (he : ∀ p, p < n → e p ≤ 100) :
    Calls Tryz.prog 13 #[.slice (some ⟨b1, 0, none⟩) n c1, .slice (some ⟨b2, 0, none⟩) n c2] w fun r w' => r = .returned (.bool true) ∧ Ext w w' := by
 have H1 := Lib.hid h1.row
 have H2 := Lib.hid h2.row
 have HE := Lib.hid he
 have lb1 : ∀ w', Ext w w' → b1 < w'.heap.size := fun w' x => Nat.lt_of_lt_of_le h1.lt x.le
 have lb2 : ∀ w', Ext w w' → b2 < w'.heap.size := fun w' x => Nat.lt_of_lt_of_le h2.lt x.le
 clear h1 h2 he
 go_enter Tryz.func13, Tryz.ntmps13
 go_wp2_with fail
 go_loopg [5] n (fun gg v5 wr => ∃ p : Nat, p ≤ n ∧ gg = n - p ∧ v5 = .int .i64 p ∧ Ext w wr)
 case atStart => exact ⟨0, by omega, rfl, rfl, Ext.refl _⟩
 case round =>
  obtain ⟨p, hp, rfl, rfl, hxr⟩ := hrel
  by_cases hlt : p < n
  ·have hlt' : (p : Int) < (n : Int) := by omega
   obtain ⟨a1, g1, k1, hc1, hr1⟩ := H1.out p hlt
   obtain ⟨a2, g2, k2, hc2, hr2⟩ := H2.out p hlt
   have cc1 : ∀ w', Ext w w' → w'.cell? ⟨b1, p, none⟩ = some (.slice a1 (e p) k1) := fun w' x => x.cell hc1
   have cc2 : ∀ w', Ext w w' → w'.cell? ⟨b2, p, none⟩ = some (.slice a2 (e p) k2) := fun w' x => x.cell hc2
   have hep := HE.out p hlt
   have HR1 := Lib.hid hr1
   have HR2 := Lib.hid hr2
   clear hc1 hc2 hr1 hr2
   go_upto_region 6 with fail
   go_quiet (fail)
   have hxq := hxr.drewN nq
   generalize wr.drewN nq = wq at hxq ⊢
   go_wp2_with fail
   go_loopg [6] (e p) (fun gg v6 wi => ∃ i : Nat, i ≤ e p ∧ gg = e p - i ∧ v6 = .int .i64 i ∧ Ext w wi)
   case atStart => exact ⟨0, by omega, rfl, rfl, hxq⟩
   case round =>
    obtain ⟨i, hi, rfl, rfl, hxi⟩ := hrel
    by_cases hie : i < e p
    ·have hie' : (i : Int) < (e p : Int) := by omega
     obtain ⟨rfl, gl1, gc1⟩ := HR1.out i hie
     obtain ⟨rfl, gl2, gc2⟩ := HR2.out i hie
     obtain ⟨x, hx⟩ : ∃ x, x = f p i := ⟨_, rfl⟩
     rw [← hx] at gc1 gc2
     have d1 : ∀ w', Ext w w' → w'.cell? ⟨g1, i, none⟩ = some (.int .i64 x) := fun w' y => y.cell gc1
     have d2 : ∀ w', Ext w w' → w'.cell? ⟨g2, i, none⟩ = some (.int .i64 x) := fun w' y => y.cell gc2
     have m1 : ∀ w', Ext w w' → g1 < w'.heap.size := fun w' y => Nat.lt_of_lt_of_le gl1 y.le
     have m2 : ∀ w', Ext w w' → g2 < w'.heap.size := fun w' y => Nat.lt_of_lt_of_le gl2 y.le
     clear hx gc1 gc2 gl1 gl2
     go_upto_region 11 with fail
     go_quiet (fail)
     have hxz := hxi.drewN nq
     go_wp2_with fail
     go_roundg (e p - (i + 1))
     case rel => exact ⟨i + 1, by omega, rfl, by go_num, hxz⟩
     case measure => omega
    ·have hie' : ¬ (i : Int) < (e p : Int) := by omega
     obtain rfl : i = e p := by omega
     go_wp2_with fail
     go_roundg (n - (p + 1))
     case rel => exact ⟨p + 1, by omega, rfl, by go_num, hxi⟩
     case measure => omega
  ·have hlt' : ¬ (p : Int) < (n : Int) := by omega
   obtain rfl : p = n := by omega
   go_wp2_with fail
   go_ret
   exact ⟨rfl, hxr⟩
set_option maxRecDepth 100000 in
set_option maxHeartbeats 1000000 in
theorem rfits22_any (w : World) (T : TM) (a : Option Addr) (n cap : Nat) (b : Bool) (hb : b = true ↔ n = T.n) :
    Calls Tryz.prog 42 #[T.val, .slice a n cap] w fun e w' => e = .returned (.bool b) ∧ Ext w w' := by
 have hd : ((n : Int) == (T.n : Int)) = b := by
  rw [Bool.eq_iff_iff, hb]; simp; constructor <;> intro h <;> omega
 simp only [TM.val]
 clear hb
 go_enter Tryz.func42, Tryz.ntmps42
 go_upto_region 1 with fail
 refine boxed1 (w := w) (G := fun x => Code.wp _ _ _ _ x) ?_
 intro w1 hx1 hs1 ⟨l0, c0, _, _⟩
 have hx11 : Ext w1 w1 := Ext.refl _
 clear hs1
 go_wp2_with fail
 go_ret
 exact ⟨by rw [← hd]; first | rfl | simp, hx1⟩
set_option maxRecDepth 100000 in
set_option maxHeartbeats 1000000 in
theorem rcons56_any (w : World) (T : TM) (hT : T.At w) (hV : T.toTr.Valid) (a : Option Addr) (g o n cap : Nat) (v : Nat → Int) (hC : NumAt w n a g o v) :
    Calls Tryz.prog 17 #[T.val, .slice a n cap] w (BoolPost (T.toTr.IsCut n v) w) := by
 obtain ⟨b, hb⟩ : ∃ b : Bool, b = true ↔ n = T.n := ⟨decide (n = T.n), by simp⟩
 have HF := Lib.hid (fun W => rfits22_any W T a n cap b hb)
 have HI := Lib.hid (fun W (x : Ext w W) => ris23_any W T (hT.ext x) hV a g o n cap v (hC.ext x))
 have HB := Lib.hid hb
 simp only [TM.val] at HF HI ⊢
 clear hT hV hC hb
 go_enter Tryz.func17, Tryz.ntmps17
 go_upto_region 1 with fail
 refine boxed1 (w := w) (G := fun x => Code.wp _ _ _ _ x) ?_
 intro w1 hx1 hs1 ⟨l0, c0, _, _⟩
 have hx11 : Ext w1 w1 := Ext.refl _
 clear hs1
 go_wp2_with fail
 go_at_call 42
 refine (HF.out w1).mono ?_
 rintro e w2 ⟨rfl, hx2⟩
 have hxw2 := hx1.trans hx2
 cases b with
 | false =>
  go_wp2_with fail
  go_ret
  exact ⟨false, rfl, ⟨fun h => (by cases h), fun h => absurd (HB.out.2 h.1.2) Bool.false_ne_true⟩, hxw2⟩
 | true =>
  go_wp2_with fail
  go_at_call 43
  refine (HI.out w2 hxw2).mono ?_
  rintro e w3 ⟨c, rfl, hc, hx3⟩
  have HC := Lib.hid hc
  clear hc
  go_wp2_with fail
  go_ret
  exact ⟨c, rfl, HC.out, hxw2.trans hx3⟩
end Go.Proofs.YtmhapcnlpoilpaaGreatDoor

namespace Go.Proofs.YtmhapcnlpoilpaaGreatDoor
open Go.RowKit Go.Shelf
attribute [local go_sem] Oper.semAt_some
def moE (col : Nat → Nat → Int) (p : Nat) (s : Int) : Nat → Int | 0 => s | i + 1 => max (moE col p s i) (col p i + 1)
def Tr.mo (T : Tr) (col : Nat → Nat → Int) : Nat → Int | 0 => 0 | k + 1 => moE col k (T.mo col k) (T.en k)
theorem moE_ge {col : Nat → Nat → Int} {p : Nat} {s : Int} : ∀ {i : Nat}, s ≤ moE col p s i
 | 0 => Int.le_refl _
 | i + 1 => by have := moE_ge (col := col) (p := p) (s := s) (i := i); unfold moE; omega
theorem moE_at {col : Nat → Nat → Int} {p j : Nat} {s : Int} : ∀ {i : Nat}, j < i → col p j + 1 ≤ moE col p s i
 | i + 1, h => by
  unfold moE
  by_cases e : j = i
  ·subst e; omega
  ·have := moE_at (col := col) (p := p) (s := s) (i := i) (by omega : j < i); omega
theorem moE_le {col : Nat → Nat → Int} {p : Nat} {s c : Int} (hs : s ≤ c) : ∀ {i : Nat}, (∀ j, j < i → col p j + 1 ≤ c) → moE col p s i ≤ c
 | 0, _ => hs
 | i + 1, h => by have := moE_le hs (i := i) fun j hj => h j (by omega); have := h i (by omega); unfold moE; omega
theorem Tr.mo_le {T : Tr} {col : Nat → Nat → Int} {c : Int} (hc : 0 ≤ c) : ∀ {k : Nat}, (∀ p i, p < k → i < T.en p → col p i + 1 ≤ c) → T.mo col k ≤ c
 | 0, _ => hc
 | k + 1, h => moE_le (Tr.mo_le hc fun p i hp hi => h p i (by omega) hi) fun j hj => h k j (by omega) hj
theorem Tr.mo_at {T : Tr} {col : Nat → Nat → Int} {p i : Nat} (hi : i < T.en p) : ∀ {k : Nat}, p < k → col p i + 1 ≤ T.mo col k
 | k + 1, h => by
  by_cases e : p = k
  ·subst e; exact moE_at hi
  ·exact Int.le_trans (Tr.mo_at hi (k := k) (by omega)) moE_ge
theorem Tr.mo_ge {T : Tr} {col : Nat → Nat → Int} : ∀ {k : Nat}, 0 ≤ T.mo col k
 | 0 => Int.le_refl _
 | k + 1 => Int.le_trans (Tr.mo_ge (k := k)) moE_ge
theorem Tr.Most.mo {T : Tr} {rows : Nat → List Int} {m : Int} (h : T.Most rows m) (hs : T.Stamps rows) (h0 : 0 ≤ m) : T.mo (fun p i => (rows p).getD i 0 - 1) T.n = m := by
 have h1 : T.mo (fun p i => (rows p).getD i 0 - 1) T.n ≤ m := Tr.mo_le h0 fun p i hp hi => by
  have := h.le p i hp (by rw [hs.len p hp]; exact hi)
  show (rows p).getD i 0 - 1 + 1 ≤ m
  omega
 rcases h.at' with e | ⟨k, i, hk, hi, e⟩
 ·have := Tr.mo_ge (T := T) (col := fun p i => (rows p).getD i 0 - 1) (k := T.n); omega
 ·have h2 := Tr.mo_at (T := T) (col := fun p i => (rows p).getD i 0 - 1) (p := k) (i := i) (by rw [← hs.len k hk]; exact hi) hk
  have h2 : (rows k).getD i 0 - 1 + 1 ≤ T.mo (fun p i => (rows p).getD i 0 - 1) T.n := h2
  omega
def lastC (col : Nat → Nat → Int) (v : Nat → Int) (p : Nat) : Int := if 0 < v p then col p (v p - 1).toNat else -1
def Tr.refD (T : Tr) (col : Nat → Nat → Int) (m N W : Nat) (v : Nat → Int) : Nat → List UInt8
 | 0 => []
 | p + 1 => T.refD col m N W v p ++ (padL (T.name p).data.toList 32 N ++ [32, 124] ++ refL (T.cel col p (T.en p)) W (lastC col v p) m ++ [124, 10])
theorem padL_eq (s : List UInt8) (c : UInt8) (n : Nat) : s ++ List.replicate (n - s.length) c = padL s c n := rfl
theorem Tr.refD_none {T : Tr} {col : Nat → Nat → Int} {m N W : Nat} {v : Nat → Int} : ∀ {k : Nat}, (∀ p, p < k → v p ≤ 0) → T.refD col m N W v k = T.dra col m N W none k
 | 0, _ => rfl
 | k + 1, h => by
  have h1 : lastC col v k = -1 := if_neg (by have := h k (by omega); omega)
  unfold Tr.refD Tr.dra
  rw [Tr.refD_none fun p hp => h p (by omega), h1, refL_none (by omega), ← Tr.line_jn]; rfl
theorem Tr.refD_some {T : Tr} {rows : Nat → List Int} {mI : Int} {m N W : Nat} {v : Nat → Int} (hs : T.Stamps rows) (hm : T.Most rows mI) (hmm : m = mI.toNat) (hv : ∀ p, p < T.n → v p ≤ T.en p) (hW : W = T.wd T.n) (hms : ∀ p i, p < T.n → i < T.en p → 0 ≤ T.msg p i) : ∀ {k : Nat}, k ≤ T.n → T.refD (fun p i => (rows p).getD i 0 - 1) m N W v k = T.dra (fun p i => (rows p).getD i 0 - 1) m N W (some v) k
 | 0, _ => rfl
 | k + 1, h => by
  have ih := Tr.refD_some hs hm hmm hv hW hms (N := N) (k := k) (by omega)
  have hl : refL (T.cel (fun p i => (rows p).getD i 0 - 1) k (T.en k)) W (lastC (fun p i => (rows p).getD i 0 - 1) v k) m = T.lineC (fun p i => (rows p).getD i 0 - 1) m W (some v) k := by
   unfold lastC Tr.lineC
   by_cases h0 : 0 < v k
   ·rw [if_pos h0]
    show _ = if 0 < v k then _ else _
    rw [if_pos h0]
    have hi : (v k - 1).toNat < T.en k := by have := hv k (by omega); omega
    have h1 := hs.sm k (v k - 1).toNat (by omega) hi
    have h2 := hm.le k (v k - 1).toNat (by omega) (by rw [hs.len k (by omega)]; exact hi)
    obtain ⟨z, hz⟩ : ∃ z : Nat, (rows k).getD (v k - 1).toNat 0 - 1 = z := ⟨((rows k).getD (v k - 1).toNat 0 - 1).toNat, by omega⟩
    have h3 := Tr.lineC_ref (T := T) (col := fun p i => (rows p).getD i 0 - 1) (m := m) (W := W) (p := k) (z := z) (by omega) (fun j hj => by rw [hW]; exact Tr.wd_lab hj (by omega)) (fun j hj => labL_no (hms k j (by omega) hj))
    show refL _ W ((rows k).getD (v k - 1).toNat 0 - 1) m = Lib.replaceAll ((T.line _ m W k).take (((rows k).getD (v k - 1).toNat 0 - 1) * ((W : Int) + 1) + (W : Int)).toNat) [45] [61] ++ (T.line _ m W k).drop (((rows k).getD (v k - 1).toNat 0 - 1) * ((W : Int) + 1) + (W : Int)).toNat
    rw [hz, show ((z : Int) * ((W : Int) + 1) + (W : Int)).toNat = z * (W + 1) + W from by
     rw [show (z : Int) * ((W : Int) + 1) + (W : Int) = ((z * (W + 1) + W : Nat) : Int) by push_cast; rfl, Int.toNat_natCast]]
    exact h3.2.symm
   ·rw [if_neg h0]
    show _ = if 0 < v k then _ else _
    rw [if_neg h0, refL_none (by omega), ← Tr.line_jn]
  unfold Tr.refD Tr.dra
  rw [ih, hl]
theorem refL_len {g : Nat → List UInt8} {W c : Nat} {last : Int} (hW : W ≤ c) (hg : ∀ k, (g k).length ≤ c) : ∀ {k : Nat}, (refL g W last k).length ≤ k * (c + 1)
 | 0 => by simp [refL]
 | k + 1 => by
  have h1 := refL_len (last := last) hW hg (k := k)
  have h2 := hg k
  unfold refL
  rw [List.length_append, List.length_append, padL_len, Nat.succ_mul]
  have : (if 0 < k then [fil last k] else ([] : List UInt8)).length ≤ 1 := by split <;> simp
  omega
theorem Tr.refD_len {T : Tr} {col : Nat → Nat → Int} {m N W : Nat} {v : Nat → Int} (hN : N ≤ 1000) : ∀ {k : Nat}, (∀ p, p < k → (T.name p).size ≤ 1000 ∧ (refL (T.cel col p (T.en p)) W (lastC col v p) m).length ≤ 200000) → (T.refD col m N W v k).length ≤ k * 300000
 | 0, _ => by simp [Tr.refD]
 | k + 1, h => by
  have h1 := Tr.refD_len (T := T) (col := col) (m := m) (W := W) (v := v) hN (k := k) fun p hp => h p (by omega)
  obtain ⟨h2, h3⟩ := h k (by omega)
  have h4 := bytes_len (T.name k)
  unfold Tr.refD
  simp only [List.length_append, padL_len, List.length_cons, List.length_nil]
  rw [Nat.succ_mul]; omega
theorem Tr.nw_ge {T : Tr} {p : Nat} : ∀ {k : Nat}, p < k → (T.name p).size ≤ T.nw k
 | k + 1, h => by
  by_cases e : p = k
  ·subst e; exact Nat.le_max_right _ _
  ·exact Nat.le_trans (Tr.nw_ge (k := k) (by omega)) (Nat.le_max_left _ _)
set_option maxRecDepth 100000 in
set_option maxHeartbeats 4000000 in
theorem rcut56_any (w : World) (T : TM) (hT : T.At w) (hV : T.toTr.Valid) (rows : Nat → List Int) (hR : T.toTr.Stamps rows) (mI : Int) (hmo : T.toTr.Most rows mI) (mN : Nat) (hmI : mI = mN) (a : Option Addr) (g o cap : Nat) (v : Nat → Int) (hC : NumAt w T.n a g o v) (hv : ∀ p, p < T.n → 0 ≤ v p ∧ v p ≤ T.en p)
    (col : Nat → Nat → Int) (hcol : col = fun p i => (rows p).getD i 0 - 1) :
    Calls Tryz.prog 18 #[T.val, .slice a T.n cap] w fun e w' => e = .returned (.string (bts (T.toTr.refD col mN (T.toTr.nw T.n) (T.toTr.wd T.n) v T.n))) ∧ Ext w w' := by
 have hn1 := hV.n1
 have hn8 := hV.n8
 have pa := hT.P.pa (by omega)
 have pb := hT.P.pb (by omega)
 obtain rfl := hC.pa (by omega)
 have HEB := Lib.hid (show ∀ q, q < T.n → T.en q ≤ 64 from fun q hq => by have := (hV.pr q hq).2.2.2.2; omega)
 have HM := Lib.hid (show ∀ p i, p < T.n → i < T.en p → 0 ≤ T.msg p i ∧ T.msg p i ≤ 199 from fun p i hp hi => by
  have hf : FormedP T.toTr p (T.kind p i) (T.peer p i) (T.msg p i) := hV.formed ⟨(p, i), hp, hi⟩
  rcases hf with h | h <;> omega)
 have HLB := Lib.hid (show ∀ p i, p < T.n → i < T.en p → (T.toTr.lab p i).length ≤ 201 from fun p i hp hi => labL_len _ _ (HM.out p i hp hi))
 have HNB := Lib.hid (show ∀ p, p < T.n → (T.name p).size ≤ 16 from fun p hp => nameB_len (hV.pr p hp).1)
 have HCB := Lib.hid (show ∀ p i, p < T.n → i < T.en p → 0 ≤ col p i ∧ col p i + 1 ≤ mI ∧ mI ≤ 512 from fun p i hp hi => by
  have h1 := hR.sm p i hp hi
  have h2 := hmo.le p i hp (by rw [hR.len p hp]; exact hi)
  have h3 : tot T.en T.n ≤ T.n * 64 := tot_small fun k hk => HEB.out k hk
  have h4 : mI ≤ 512 := by
   rcases hmo.at' with h | ⟨k, j, hk, hj, h⟩
   ·omega
   ·have := hR.sm k j hk (by rw [← hR.len k hk]; exact hj); omega
  rw [hcol]
  show 0 ≤ (rows p).getD i 0 - 1 ∧ (rows p).getD i 0 - 1 + 1 ≤ mI ∧ _
  omega)
 have hmN : mN ≤ 512 := by
  have h3 : tot T.en T.n ≤ T.n * 64 := tot_small fun k hk => HEB.out k hk
  rcases hmo.at' with h | ⟨k, j, hk, hj, h⟩
  ·omega
  ·have := hR.sm k j hk (by rw [← hR.len k hk]; exact hj); omega
 have HMO := Lib.hid (show T.toTr.mo col T.n = mN from by rw [hcol]; exact (hmo.mo hR (by omega)).trans hmI)
 have HRC := Lib.hid (fun W (x : Ext w W) => rcolumns_any W T (hT.ext x) hV rows hR)
 have HCC := Lib.hid hC
 have HCV := Lib.hid hv
 have HT := Lib.hid hT
 have HCO := Lib.hid (show ∀ p i, col p i = (rows p).getD i 0 - 1 from fun p i => by rw [hcol])
 simp only [TM.val, pa] at HRC ⊢
 clear hT hV hC hv hR hmo hcol
 go_enter Tryz.func18, Tryz.ntmps18
 go_upto_region 1 with fail
 refine boxed1 (w := w) (G := fun x => Code.wp _ _ _ _ x) ?_
 intro w1 hx1 hs1 ⟨l0, c0, _, _⟩
 have hx11 : Ext w1 w1 := Ext.refl _
 clear hs1
 go_upto_region 2 with (go_at_call 14; refine (HRC.out w1 hx1).mono ?_; rintro e w2 ⟨hx2, bs, cc, rb, f, rfl, hat, hf⟩)
 have hx12 := hx2
 have hxw2 := hx1.trans hx2
 have h22 : Ext w2 w2 := Ext.refl _
 have hrd : RdR w2 bs T.n T.en col := ioMM_rdR hat (by omega) fun p i hp hi => (hf p i hp hi).trans (HCO.out p i).symm
 have HRD := Lib.hid hrd.row
 have bl : ∀ w', Ext w2 w' → bs < w'.heap.size := fun w' x => Nat.lt_of_lt_of_le hrd.lt x.le
 clear hat hf hrd HRC
 go_wp2_with fail
 go_loopg [6, 7, 8, 9] T.n (fun gg v6 v7 v8 v9 wr => ∃ p : Nat, p ≤ T.n ∧ gg = T.n - p ∧ v6 = .int .i64 (T.toTr.wd p : Nat) ∧ v7 = .int .i64 (T.toTr.nw p : Nat) ∧ v8 = .int .i64 (T.toTr.mo col p) ∧ v9 = .int .i64 p ∧ Ext w2 wr)
 case atStart => exact ⟨0, by omega, rfl, rfl, rfl, rfl, rfl, h22⟩
 case round =>
  obtain ⟨p, hp, rfl, rfl, rfl, rfl, rfl, hxr⟩ := hrel
  have hxwr := hxw2.trans hxr
  have hx1r := hx12.trans hxr
  obtain ⟨nk, hnk⟩ : ∃ z, z = T.toTr.nw p := ⟨_, rfl⟩
  obtain ⟨wk, hwk⟩ : ∃ z, z = T.toTr.wd p := ⟨_, rfl⟩
  obtain ⟨mk, hmk⟩ : ∃ z, z = T.toTr.mo col p := ⟨_, rfl⟩
  rw [← hnk, ← hwk, ← hmk]
  have HNK := Lib.hid hnk
  have HWK := Lib.hid hwk
  have HMK := Lib.hid hmk
  clear hnk hwk hmk
  by_cases hpn : p < T.n
  ·have hpn' : (p : Int) < (T.n : Int) := by omega
   have hen := HEB.out p hpn
   have p0 : ∀ w', Ext w w' → w'.cell? ⟨T.b, T.off + p * 3, none⟩ = some (.string (T.name p)) := fun w' h => HT.out.P.p0 w' h p hpn
   have p1 : ∀ w', Ext w w' → w'.cell? ⟨T.b, T.off + p * 3 + 1, none⟩ = some (.slice (T.va p) (T.vn p) (T.vc p)) := fun w' h => HT.out.P.p1 w' h p hpn
   obtain ⟨ea, hea⟩ : ∃ z, z = T.ea p := ⟨_, rfl⟩
   have p2 : ∀ w', Ext w w' → w'.cell? ⟨T.b, T.off + p * 3 + 2, none⟩ = some (.slice ea (T.en p) (T.ec p)) := fun w' h => by rw [hea]; exact HT.out.P.p2 w' h p hpn
   have HEA := Lib.hid hea
   obtain ⟨rv, rg, rc, hrc0, hrow⟩ := HRD.out p hpn
   have rc1 : ∀ w', Ext w2 w' → w'.cell? ⟨bs, p, none⟩ = some (.slice rv (T.en p) rc) := fun w' x => x.cell hrc0
   have HROW := Lib.hid hrow
   clear hea hrc0 hrow
   go_wp2_with fail
   obtain ⟨n1, hn1'⟩ : ∃ z : Nat, z = max nk (T.name p).size := ⟨_, rfl⟩
   rw [show (max (nk : Int) ((T.name p).size : Int)) = (n1 : Int) by omega]
   have HN1 := Lib.hid (show n1 = T.toTr.nw (p + 1) by rw [hn1', HNK.out]; rfl)
   clear hn1'
   go_loopg [6, 8, 10] (T.en p) (fun gg v6 v8 v10 wi => ∃ i : Nat, i ≤ T.en p ∧ gg = T.en p - i ∧ v6 = .int .i64 (T.toTr.we p wk i : Nat) ∧ v8 = .int .i64 (moE col p mk i) ∧ v10 = .int .i64 i ∧ Ext w2 wi)
   case atStart => exact ⟨0, by omega, rfl, rfl, rfl, rfl, hxr⟩
   case round =>
    obtain ⟨i, hi, rfl, rfl, rfl, rfl, hxi⟩ := hrel
    have hx1i := hx12.trans hxi
    have hxwi := hxw2.trans hxi
    obtain ⟨wi, hwi⟩ : ∃ z, z = T.toTr.we p wk i := ⟨_, rfl⟩
    obtain ⟨mi, hmi⟩ : ∃ z, z = moE col p mk i := ⟨_, rfl⟩
    rw [← hwi, ← hmi]
    have HWI := Lib.hid hwi
    have HMI := Lib.hid hmi
    clear hwi hmi
    by_cases hie : i < T.en p
    ·have hie' : (i : Int) < (T.en p : Int) := by omega
     obtain ⟨rfl, gl, gc⟩ := HROW.out i hie
     obtain ⟨cz, hcz⟩ : ∃ cz, cz = col p i := ⟨_, rfl⟩
     have hczb := HCB.out p i hpn hie
     rw [← hcz] at gc hczb
     have gc2 : ∀ w', Ext w2 w' → w'.cell? ⟨rg, i, none⟩ = some (.int .i64 cz) := fun w' x => x.cell gc
     have gl2 : ∀ w', Ext w2 w' → rg < w'.heap.size := fun w' x => Nat.lt_of_lt_of_le gl x.le
     have HCZ := Lib.hid hcz
     have hcw : IntKind.i64.wrap (cz + 1) = cz + 1 := IntWalk.i64_in _ (by omega)
     have hea := HT.out.E.ea p hpn (by omega)
     obtain rfl : ea = some ⟨T.eb p, T.eo p, none⟩ := by rw [HEA.out]; exact hea
     have eb := HT.out.E.eb p hpn (by omega)
     have e0 : ∀ w', Ext w w' → w'.cell? ⟨T.eb p, T.eo p + i * 5, none⟩ = some (.int .i64 (T.kind p i)) := fun w' x => HT.out.E.e0 w' x p i hpn hie
     have e1 : ∀ w', Ext w w' → w'.cell? ⟨T.eb p, T.eo p + i * 5 + 1, none⟩ = some (.int .i64 (T.peer p i)) := fun w' x => HT.out.E.e1 w' x p i hpn hie
     have e2 : ∀ w', Ext w w' → w'.cell? ⟨T.eb p, T.eo p + i * 5 + 2, none⟩ = some (.int .i64 (T.msg p i)) := fun w' x => HT.out.E.e2 w' x p i hpn hie
     have e3 : ∀ w', Ext w w' → w'.cell? ⟨T.eb p, T.eo p + i * 5 + 3, none⟩ = some (.int .i64 (T.time p i)) := fun w' x => HT.out.E.e3 w' x p i hpn hie
     have e4 : ∀ w', Ext w w' → w'.cell? ⟨T.eb p, T.eo p + i * 5 + 4, none⟩ = some (.slice (T.aa p i) (T.an p i) (T.ac p i)) := fun w' x => HT.out.E.e4 w' x p i hpn hie
     obtain ⟨d, hd⟩ : ∃ d, d = labL (T.kind p i) (T.msg p i) := ⟨_, rfl⟩
     have HLA := Lib.hid (fun W => rlabel_any W (T.kind p i) (T.peer p i) (T.msg p i) (T.time p i) (.slice (T.aa p i) (T.an p i) (T.ac p i)) (HM.out p i hpn hie))
     rw [← hd] at HLA
     have HD := Lib.hid (show T.toTr.lab p i = d from hd.symm)
     have hds := bts_size d
     clear hcz gc gl hea hd
     go_wp2_with (go_at_call 44; refine (HLA.out _).mono ?_; rintro e w5 ⟨rfl, hx5⟩; have hx25 := hxi.trans hx5; have hxw5 := hxw2.trans hx25)
     go_roundg (T.en p - (i + 1))
     case rel => exact ⟨i + 1, by omega, rfl, by
      rw [show T.toTr.we p wk (i + 1) = max (T.toTr.we p wk i) (T.toTr.lab p i).length from rfl, ← HWI.out, HD.out]; exact congrArg (Value.int .i64) (by omega), by
      rw [show moE col p mk (i + 1) = max (moE col p mk i) (col p i + 1) from rfl, ← HMI.out, ← HCZ.out], by go_num, hxi.trans hx5⟩
     case measure => omega
    ·have hie' : ¬ (i : Int) < (T.en p : Int) := by omega
     obtain rfl : i = T.en p := by omega
     go_wp2_with fail
     go_roundg (T.n - (p + 1))
     case rel => exact ⟨p + 1, by omega, rfl, by rw [HWI.out, HWK.out]; rfl, by rw [HN1.out], by rw [HMI.out, HMK.out]; rfl, by go_num, hxi⟩
     case measure => omega
  ·have hpn' : ¬ (p : Int) < (T.n : Int) := by omega
   obtain rfl : p = T.n := by omega
   obtain rfl : mk = (mN : Int) := by rw [HMK.out, HMO.out]
   have HNS := Lib.hid (show nk = T.toTr.nw T.n ∧ wk = T.toTr.wd T.n from ⟨HNK.out, HWK.out⟩)
   have HW2 := Lib.hid (show wk ≤ 201 from by rw [HWK.out]; exact Tr.wd_le (by omega) fun p i hp hi => HLB.out p i hp hi)
   have HN2 := Lib.hid (show nk ≤ 1000 from by rw [HNK.out]; exact Tr.nw_le fun p hp => Nat.le_trans (HNB.out p hp) (by omega))
   clear HNK HWK HMK
   go_wp2_with fail
   go_loopg [11, 12] T.n (fun gg v11 v12 wo => ∃ p : Nat, p ≤ T.n ∧ gg = T.n - p ∧ v11 = .string (bts (T.toTr.refD col mN nk wk v p)) ∧ v12 = .int .i64 p ∧ Ext w2 wo)
   case atStart => exact ⟨0, by omega, rfl, rfl, rfl, hxr⟩
   case round =>
    obtain ⟨p, hp, rfl, rfl, rfl, hxo⟩ := hrel
    have hxwo := hxw2.trans hxo
    have hx1o := hx12.trans hxo
    obtain ⟨D, hD⟩ : ∃ D, D = T.toTr.refD col mN nk wk v p := ⟨_, rfl⟩
    have hDl : D.length ≤ 3000000 := by
     have h1 := Tr.refD_len (T := T.toTr) (col := col) (m := mN) (N := nk) (W := wk) (v := v) HN2.out (k := p) fun q hq => ⟨Nat.le_trans (HNB.out q (by omega)) (by omega), by
      have h1 := refL_len (g := T.toTr.cel col q (T.en q)) (W := wk) (c := 201) (last := lastC col v q) HW2.out (fun k => Tr.cel_len fun j hj => HLB.out q j (by omega) hj) (k := mN)
      have h2 : mN * (201 + 1) ≤ 512 * (201 + 1) := Nat.mul_le_mul_right _ (by omega)
      omega⟩
     have h2 : p * 300000 ≤ 8 * 300000 := Nat.mul_le_mul_right _ (by omega)
     rw [hD]; omega
    rw [← hD]
    by_cases hpn : p < T.n
    ·have hpn' : (p : Int) < (T.n : Int) := by omega
     have hen := HEB.out p hpn
     obtain ⟨nm, hnm⟩ : ∃ nm, nm = (T.name p).data.toList := ⟨_, rfl⟩
     have hnb : T.name p = bts nm := by rw [hnm]; simp [bts]
     have hnl : nm.length = (T.name p).size := by rw [hnm]; exact bytes_len _
     have hns : nm.length ≤ 16 := by rw [hnl]; exact HNB.out p hpn
     have hnn : nm.length ≤ nk := by rw [hnl, HNS.out.1]; exact Tr.nw_ge hpn
     have hnkb := HN2.out
     have p0 : ∀ w', Ext w w' → w'.cell? ⟨T.b, T.off + p * 3, none⟩ = some (.string (bts nm)) := fun w' h => by rw [← hnb]; exact HT.out.P.p0 w' h p hpn
     have p1 : ∀ w', Ext w w' → w'.cell? ⟨T.b, T.off + p * 3 + 1, none⟩ = some (.slice (T.va p) (T.vn p) (T.vc p)) := fun w' h => HT.out.P.p1 w' h p hpn
     obtain ⟨ea, hea⟩ : ∃ z, z = T.ea p := ⟨_, rfl⟩
     have p2 : ∀ w', Ext w w' → w'.cell? ⟨T.b, T.off + p * 3 + 2, none⟩ = some (.slice ea (T.en p) (T.ec p)) := fun w' h => by rw [hea]; exact HT.out.P.p2 w' h p hpn
     have HEA := Lib.hid hea
     obtain ⟨rv, rg, rc, hrc0, hrow⟩ := HRD.out p hpn
     have rc1 : ∀ w', Ext w2 w' → w'.cell? ⟨bs, p, none⟩ = some (.slice rv (T.en p) rc) := fun w' x => x.cell hrc0
     have HROW := Lib.hid hrow
     obtain ⟨vz, hvz⟩ : ∃ vz, vz = v p := ⟨_, rfl⟩
     have cc0 : ∀ w', Ext w w' → w'.cell? ⟨g, o + p, none⟩ = some (.int .i64 vz) := fun w' x => by rw [hvz]; exact x.cell (HCC.out.c p hpn)
     have cl0 : ∀ w', Ext w w' → g < w'.heap.size := fun w' x => Nat.lt_of_lt_of_le (HCC.out.pb (by omega)) x.le
     have hvb := HCV.out p hpn
     rw [← hvz] at hvb
     have HVZ := Lib.hid hvz
     have hsub : IntKind.i64.wrap ((nk : Int) - (nm.length : Int)) = ((nk - nm.length : Nat) : Int) := by rw [IntWalk.i64_in _ (by omega)]; omega
     have HRP := Lib.hid (fun W => rrepeat_any W 32 (nk - nm.length) (by omega))
     obtain ⟨rr, hrr⟩ : ∃ rr, rr = List.replicate (nk - nm.length) (32 : UInt8) := ⟨_, rfl⟩
     have hrl : rr.length ≤ 1000 := by rw [hrr, List.length_replicate]; omega
     rw [← hrr] at HRP
     have hz1 := bts_size D
     have hz2 := bts_size nm
     have hz3 := bts_size rr
     have hk1 : ¬ 9223372036854775807 < D.length + nm.length := by omega
     have hk2 : ¬ 9223372036854775807 < D.length + nm.length + rr.length := by omega
     have hk3 : ¬ 9223372036854775807 < D.length + nm.length + rr.length + 2 := by omega
     obtain ⟨E, hE⟩ : ∃ E, E = D ++ nm ++ rr ++ [32, 124] := ⟨_, rfl⟩
     have HE := Lib.hid (show E = T.toTr.refD col mN nk wk v p ++ (padL (T.name p).data.toList 32 nk ++ [32, 124]) ∧ E.length ≤ 4000000 from ⟨by
      rw [hE, hD, hrr, hnm]; unfold padL; simp only [List.append_assoc], by rw [hE]; simp only [List.length_append, List.length_cons, List.length_nil]; omega⟩)
     have hbe : bts D ++ bts nm ++ bts rr ++ (⟨#[32, 124]⟩ : ByteArray) = bts E := by
      rw [hE, bts_append, bts_append]; exact bts_append (D ++ nm ++ rr) [32, 124]
     clear hea hrc0 hrow hvz hrr hE hnm hnb hnl hD
     have hg0 : ∀ d os, Ext w (Sort.grow (redrawn wr d) os) := fun d os => hxwo.trans (below_regrown wr d os)
     have hg1 : ∀ d os, Ext w1 (Sort.grow (redrawn wr d) os) := fun d os => hx1o.trans (below_regrown wr d os)
     have hg2 : ∀ d os, Ext w2 (Sort.grow (redrawn wr d) os) := fun d os => hxo.trans (below_regrown wr d os)
     go_upto_region 16 with fail
     refine wp_region_quiet_below (by kernel_rfl) (by kernel_rfl) ?_
     repeat (go_big_quiet_step (exact Calls.regrown_of (HRP.out _)))
     refine wpQuiet_nil ?_
     intro _ hw'
     obtain ⟨⟨dq, osq⟩, hw''⟩ := hw'
     subst hw''
     have hxq := hg2 dq osq
     clear hg0 hg1 hg2
     generalize Sort.grow (redrawn wr dq) osq = wq at hxq ⊢
     try rw [hbe]
     clear hbe hz1 hz2 hz3 hk1 hk2 hk3 hsub HRP
     by_cases h0 : 0 < vz
     ·have b1 : decide ((0 : Int) < vz) = true := decide_eq_true h0
      obtain ⟨ci, hci⟩ : ∃ ci : Nat, vz - 1 = ci := ⟨(vz - 1).toNat, by omega⟩
      have hwc : IntKind.i64.wrap (vz - 1) = (ci : Int) := by rw [IntWalk.i64_in _ (by omega)]; exact hci
      have hcie : ci < T.en p := by omega
      have hcie' : (ci : Int) < (T.en p : Int) := by omega
      obtain ⟨rfl, gl, gc⟩ := HROW.out ci hcie
      have hcb := HCB.out p ci hpn hcie
      obtain ⟨zN, hzN⟩ : ∃ zN : Nat, col p ci = zN := ⟨(col p ci).toNat, by omega⟩
      rw [hzN] at gc
      have gc2 : ∀ w', Ext w2 w' → w'.cell? ⟨rg, ci, none⟩ = some (.int .i64 (zN : Int)) := fun w' x => x.cell gc
      have gl2 : ∀ w', Ext w2 w' → rg < w'.heap.size := fun w' x => Nat.lt_of_lt_of_le gl x.le
      have HLAST := Lib.hid (show lastC col v p = (zN : Int) from by
       unfold lastC
       rw [← HVZ.out, if_pos h0, hci, Int.toNat_natCast, hzN])
      have hxwq := hxw2.trans hxq
      have hx1q := hx12.trans hxq
      have hqq : Ext wq wq := Ext.refl _
      clear gl gc hzN hci h0 hcb
      go_upto_region 19 with fail
      go_quiet (fail)
      have hxz : Ext w2 (wq.drewN nq) := hxq.drewN nq
      generalize wq.drewN nq = wz at hxz ⊢
      clear gc2 gl2 hwc hcie hcie' hqq hxwq hx1q
      go_wp2_with fail
      go_loopg [11, 14] mN (fun gg v11 v14 wk2 => ∃ k : Nat, k ≤ mN ∧ gg = mN - k ∧ v11 = .string (bts (E ++ refL (T.toTr.cel col p (T.en p)) wk ((zN : Nat) : Int) k)) ∧ v14 = .int .i64 k ∧ Ext w2 wk2)
      case atStart => exact ⟨0, by omega, rfl, by rw [show E ++ refL (T.toTr.cel col p (T.en p)) wk ((zN : Nat) : Int) 0 = E from List.append_nil E], rfl, hxz⟩
      case round =>
       obtain ⟨k, hk, rfl, rfl, rfl, hxk⟩ := hrel
       have hx1k := hx12.trans hxk
       have hxwk := hxw2.trans hxk
       obtain ⟨X, hX⟩ : ∃ X, X = E ++ refL (T.toTr.cel col p (T.en p)) wk ((zN : Nat) : Int) k := ⟨_, rfl⟩
       have hXl : X.length ≤ 10000000 := by
        have h1 := refL_len (g := T.toTr.cel col p (T.en p)) (W := wk) (c := 201) (last := ((zN : Nat) : Int)) HW2.out (fun k => Tr.cel_len fun j hj => HLB.out p j hpn hj) (k := k)
        have h2 : k * (201 + 1) ≤ 512 * (201 + 1) := Nat.mul_le_mul_right _ (by omega)
        have h3 := HE.out.2
        rw [hX, List.length_append]; omega
       rw [← hX]
       by_cases hkm : k < mN
       ·have hkm' : (k : Int) < (mN : Int) := by omega
        by_cases hkz : k ≤ zN
        ·have HFL := Lib.hid (show fil ((zN : Nat) : Int) k = 61 from if_pos (by omega))
         have b4 : decide ((k : Int) ≤ (zN : Int)) = true := decide_eq_true (by omega)
         have b4' : decide (k ≤ zN) = true := decide_eq_true hkz
         by_cases hk0 : k = 0
         ·have b3 : decide ((0 : Int) < (k : Int)) = false := decide_eq_false (by omega)
          have b3' : decide (0 < k) = false := decide_eq_false (by omega)
          obtain ⟨Y, hY⟩ : ∃ Y, Y = X := ⟨_, rfl⟩
          have HY := Lib.hid (show Y = E ++ refL (T.toTr.cel col p (T.en p)) wk ((zN : Nat) : Int) k ++ (if 0 < k then [fil ((zN : Nat) : Int) k] else []) ∧ Y.length ≤ 10000001 from ⟨by rw [if_neg (by omega), hY, hX, List.append_nil], by rw [hY]; omega⟩)
          rw [← hY]
          clear hY hX hXl hk0
          go_wp2_with fail
          go_loopg [16, 17] (T.en p) (fun gg v16 v17 wi => ∃ i : Nat, i ≤ T.en p ∧ gg = T.en p - i ∧ v16 = .string (bts (T.toTr.cel col p i k)) ∧ v17 = .int .i64 i ∧ Ext w2 wi)
          case atStart => exact ⟨0, by omega, rfl, rfl, rfl, hxk⟩
          case round =>
           obtain ⟨i, hi, rfl, rfl, rfl, hxi⟩ := hrel
           have hx1i := hx12.trans hxi
           have hxwi := hxw2.trans hxi
           obtain ⟨sx, hsx⟩ : ∃ sx, sx = T.toTr.cel col p i k := ⟨_, rfl⟩
           rw [← hsx]
           have HSX := Lib.hid hsx
           clear hsx
           by_cases hie : i < T.en p
           ·have hie' : (i : Int) < (T.en p : Int) := by omega
            obtain ⟨hrv, gl, gc⟩ := HROW.out i hie
            try subst hrv
            obtain ⟨cz, hcz⟩ : ∃ cz, cz = col p i := ⟨_, rfl⟩
            rw [← hcz] at gc
            have gc2 : ∀ w', Ext w2 w' → w'.cell? ⟨rg, i, none⟩ = some (.int .i64 cz) := fun w' x => x.cell gc
            have gl2 : ∀ w', Ext w2 w' → rg < w'.heap.size := fun w' x => Nat.lt_of_lt_of_le gl x.le
            have HCZ := Lib.hid hcz
            have hea := HT.out.E.ea p hpn (by omega)
            obtain rfl : ea = some ⟨T.eb p, T.eo p, none⟩ := by rw [HEA.out]; exact hea
            have eb := HT.out.E.eb p hpn (by omega)
            have e0 : ∀ w', Ext w w' → w'.cell? ⟨T.eb p, T.eo p + i * 5, none⟩ = some (.int .i64 (T.kind p i)) := fun w' x => HT.out.E.e0 w' x p i hpn hie
            have e1 : ∀ w', Ext w w' → w'.cell? ⟨T.eb p, T.eo p + i * 5 + 1, none⟩ = some (.int .i64 (T.peer p i)) := fun w' x => HT.out.E.e1 w' x p i hpn hie
            have e2 : ∀ w', Ext w w' → w'.cell? ⟨T.eb p, T.eo p + i * 5 + 2, none⟩ = some (.int .i64 (T.msg p i)) := fun w' x => HT.out.E.e2 w' x p i hpn hie
            have e3 : ∀ w', Ext w w' → w'.cell? ⟨T.eb p, T.eo p + i * 5 + 3, none⟩ = some (.int .i64 (T.time p i)) := fun w' x => HT.out.E.e3 w' x p i hpn hie
            have e4 : ∀ w', Ext w w' → w'.cell? ⟨T.eb p, T.eo p + i * 5 + 4, none⟩ = some (.slice (T.aa p i) (T.an p i) (T.ac p i)) := fun w' x => HT.out.E.e4 w' x p i hpn hie
            have HLA := Lib.hid (fun W => rlabel_any W (T.kind p i) (T.peer p i) (T.msg p i) (T.time p i) (.slice (T.aa p i) (T.an p i) (T.ac p i)) (HM.out p i hpn hie))
            clear hcz gc gl hea
            by_cases heq : cz = (k : Int)
            ·have d1 : (cz == (k : Int)) = true := by simpa using heq
             have HCL := Lib.hid (show T.toTr.cel col p (i + 1) k = labL (T.kind p i) (T.msg p i) from by show (if col p i = (k : Int) then T.toTr.lab p i else _) = _; rw [if_pos (by rw [← HCZ.out]; exact heq)]; rfl)
             clear heq
             go_wp2_with (go_at_call 44; refine (HLA.out _).mono ?_; rintro e w5 ⟨rfl, hx5⟩)
             go_roundg (T.en p - (i + 1))
             case rel => exact ⟨i + 1, by omega, rfl, by rw [HCL.out], by go_num, hxi.trans hx5⟩
             case measure => omega
            ·have d1 : (cz == (k : Int)) = false := by simpa using heq
             have HCL := Lib.hid (show T.toTr.cel col p (i + 1) k = sx from by show (if col p i = (k : Int) then _ else T.toTr.cel col p i k) = _; rw [if_neg (by rw [← HCZ.out]; exact heq), HSX.out])
             clear heq
             go_wp2_with fail
             go_roundg (T.en p - (i + 1))
             case rel => exact ⟨i + 1, by omega, rfl, by rw [HCL.out], by go_num, hxi⟩
             case measure => omega
           ·have hie' : ¬ (i : Int) < (T.en p : Int) := by omega
            obtain rfl : i = T.en p := by omega
            have hsl : sx.length ≤ wk := by rw [HSX.out, HNS.out.2]; exact Tr.cel_len fun j hj => Tr.wd_lab hj hpn
            have hwb := HW2.out
            have hYl := HY.out.2
            have hsub : IntKind.i64.wrap ((wk : Int) - (sx.length : Int)) = ((wk - sx.length : Nat) : Int) := by rw [IntWalk.i64_in _ (by omega)]; omega
            have HRP := Lib.hid (fun W => rrepeat_any W 61 (wk - sx.length) (by omega))
            obtain ⟨rr, hrr⟩ : ∃ rr, rr = List.replicate (wk - sx.length) (61 : UInt8) := ⟨_, rfl⟩
            have hrl : rr.length ≤ 201 := by rw [hrr, List.length_replicate]; omega
            rw [← hrr] at HRP
            have hz1 := bts_size Y
            have hz2 := bts_size sx
            have hz3 := bts_size rr
            have hk1 : ¬ 9223372036854775807 < Y.length + sx.length := by omega
            have hk2 : ¬ 9223372036854775807 < Y.length + sx.length + rr.length := by omega
            have HEN := Lib.hid (show E ++ refL (T.toTr.cel col p (T.en p)) wk ((zN : Nat) : Int) (k + 1) = Y ++ sx ++ rr from by
             show E ++ (refL (T.toTr.cel col p (T.en p)) wk ((zN : Nat) : Int) k ++ ((if 0 < k then [fil ((zN : Nat) : Int) k] else []) ++ padL (T.toTr.cel col p (T.en p) k) (fil ((zN : Nat) : Int) k) wk)) = _
             rw [hrr, HY.out.1, HSX.out, show fil ((zN : Nat) : Int) k = 61 from HFL.out]
             unfold padL
             simp only [List.append_assoc])
            clear hrr hsl
            go_wp2_with (go_at_call 45; refine (HRP.out _).mono ?_; rintro e w5 ⟨rfl, hx5⟩)
            go_roundg (mN - (k + 1))
            case rel => exact ⟨k + 1, by omega, rfl, by rw [HEN.out]; exact congrArg Value.string (by rw [bts_append, bts_append]), by go_num, hxi.trans hx5⟩
            case measure => omega
         ·have b3 : decide ((0 : Int) < (k : Int)) = true := decide_eq_true (by omega)
          have b3' : decide (0 < k) = true := decide_eq_true (by omega)
          obtain ⟨Y, hY⟩ : ∃ Y, Y = X ++ [61] := ⟨_, rfl⟩
          have HY := Lib.hid (show Y = E ++ refL (T.toTr.cel col p (T.en p)) wk ((zN : Nat) : Int) k ++ (if 0 < k then [fil ((zN : Nat) : Int) k] else []) ∧ Y.length ≤ 10000001 from ⟨by rw [if_pos (by omega), hY, hX, show fil ((zN : Nat) : Int) k = 61 from HFL.out], by rw [hY, List.length_append]; simp; omega⟩)
          have hz0 := bts_size X
          have hk0 : ¬ 9223372036854775807 < X.length + 1 := by omega
          have hbb : bts X ++ (⟨#[61]⟩ : ByteArray) = bts Y := by rw [hY]; exact bts_append X [61]
          clear hY hX hXl
          go_wp2_with fail
          try rw [hbb]
          clear hbb hz0 hk0
          go_loopg [16, 17] (T.en p) (fun gg v16 v17 wi => ∃ i : Nat, i ≤ T.en p ∧ gg = T.en p - i ∧ v16 = .string (bts (T.toTr.cel col p i k)) ∧ v17 = .int .i64 i ∧ Ext w2 wi)
          case atStart => exact ⟨0, by omega, rfl, rfl, rfl, hxk⟩
          case round =>
           obtain ⟨i, hi, rfl, rfl, rfl, hxi⟩ := hrel
           have hx1i := hx12.trans hxi
           have hxwi := hxw2.trans hxi
           obtain ⟨sx, hsx⟩ : ∃ sx, sx = T.toTr.cel col p i k := ⟨_, rfl⟩
           rw [← hsx]
           have HSX := Lib.hid hsx
           clear hsx
           by_cases hie : i < T.en p
           ·have hie' : (i : Int) < (T.en p : Int) := by omega
            obtain ⟨hrv, gl, gc⟩ := HROW.out i hie
            try subst hrv
            obtain ⟨cz, hcz⟩ : ∃ cz, cz = col p i := ⟨_, rfl⟩
            rw [← hcz] at gc
            have gc2 : ∀ w', Ext w2 w' → w'.cell? ⟨rg, i, none⟩ = some (.int .i64 cz) := fun w' x => x.cell gc
            have gl2 : ∀ w', Ext w2 w' → rg < w'.heap.size := fun w' x => Nat.lt_of_lt_of_le gl x.le
            have HCZ := Lib.hid hcz
            have hea := HT.out.E.ea p hpn (by omega)
            obtain rfl : ea = some ⟨T.eb p, T.eo p, none⟩ := by rw [HEA.out]; exact hea
            have eb := HT.out.E.eb p hpn (by omega)
            have e0 : ∀ w', Ext w w' → w'.cell? ⟨T.eb p, T.eo p + i * 5, none⟩ = some (.int .i64 (T.kind p i)) := fun w' x => HT.out.E.e0 w' x p i hpn hie
            have e1 : ∀ w', Ext w w' → w'.cell? ⟨T.eb p, T.eo p + i * 5 + 1, none⟩ = some (.int .i64 (T.peer p i)) := fun w' x => HT.out.E.e1 w' x p i hpn hie
            have e2 : ∀ w', Ext w w' → w'.cell? ⟨T.eb p, T.eo p + i * 5 + 2, none⟩ = some (.int .i64 (T.msg p i)) := fun w' x => HT.out.E.e2 w' x p i hpn hie
            have e3 : ∀ w', Ext w w' → w'.cell? ⟨T.eb p, T.eo p + i * 5 + 3, none⟩ = some (.int .i64 (T.time p i)) := fun w' x => HT.out.E.e3 w' x p i hpn hie
            have e4 : ∀ w', Ext w w' → w'.cell? ⟨T.eb p, T.eo p + i * 5 + 4, none⟩ = some (.slice (T.aa p i) (T.an p i) (T.ac p i)) := fun w' x => HT.out.E.e4 w' x p i hpn hie
            have HLA := Lib.hid (fun W => rlabel_any W (T.kind p i) (T.peer p i) (T.msg p i) (T.time p i) (.slice (T.aa p i) (T.an p i) (T.ac p i)) (HM.out p i hpn hie))
            clear hcz gc gl hea
            by_cases heq : cz = (k : Int)
            ·have d1 : (cz == (k : Int)) = true := by simpa using heq
             have HCL := Lib.hid (show T.toTr.cel col p (i + 1) k = labL (T.kind p i) (T.msg p i) from by show (if col p i = (k : Int) then T.toTr.lab p i else _) = _; rw [if_pos (by rw [← HCZ.out]; exact heq)]; rfl)
             clear heq
             go_wp2_with (go_at_call 44; refine (HLA.out _).mono ?_; rintro e w5 ⟨rfl, hx5⟩)
             go_roundg (T.en p - (i + 1))
             case rel => exact ⟨i + 1, by omega, rfl, by rw [HCL.out], by go_num, hxi.trans hx5⟩
             case measure => omega
            ·have d1 : (cz == (k : Int)) = false := by simpa using heq
             have HCL := Lib.hid (show T.toTr.cel col p (i + 1) k = sx from by show (if col p i = (k : Int) then _ else T.toTr.cel col p i k) = _; rw [if_neg (by rw [← HCZ.out]; exact heq), HSX.out])
             clear heq
             go_wp2_with fail
             go_roundg (T.en p - (i + 1))
             case rel => exact ⟨i + 1, by omega, rfl, by rw [HCL.out], by go_num, hxi⟩
             case measure => omega
           ·have hie' : ¬ (i : Int) < (T.en p : Int) := by omega
            obtain rfl : i = T.en p := by omega
            have hsl : sx.length ≤ wk := by rw [HSX.out, HNS.out.2]; exact Tr.cel_len fun j hj => Tr.wd_lab hj hpn
            have hwb := HW2.out
            have hYl := HY.out.2
            have hsub : IntKind.i64.wrap ((wk : Int) - (sx.length : Int)) = ((wk - sx.length : Nat) : Int) := by rw [IntWalk.i64_in _ (by omega)]; omega
            have HRP := Lib.hid (fun W => rrepeat_any W 61 (wk - sx.length) (by omega))
            obtain ⟨rr, hrr⟩ : ∃ rr, rr = List.replicate (wk - sx.length) (61 : UInt8) := ⟨_, rfl⟩
            have hrl : rr.length ≤ 201 := by rw [hrr, List.length_replicate]; omega
            rw [← hrr] at HRP
            have hz1 := bts_size Y
            have hz2 := bts_size sx
            have hz3 := bts_size rr
            have hk1 : ¬ 9223372036854775807 < Y.length + sx.length := by omega
            have hk2 : ¬ 9223372036854775807 < Y.length + sx.length + rr.length := by omega
            have HEN := Lib.hid (show E ++ refL (T.toTr.cel col p (T.en p)) wk ((zN : Nat) : Int) (k + 1) = Y ++ sx ++ rr from by
             show E ++ (refL (T.toTr.cel col p (T.en p)) wk ((zN : Nat) : Int) k ++ ((if 0 < k then [fil ((zN : Nat) : Int) k] else []) ++ padL (T.toTr.cel col p (T.en p) k) (fil ((zN : Nat) : Int) k) wk)) = _
             rw [hrr, HY.out.1, HSX.out, show fil ((zN : Nat) : Int) k = 61 from HFL.out]
             unfold padL
             simp only [List.append_assoc])
            clear hrr hsl
            go_wp2_with (go_at_call 45; refine (HRP.out _).mono ?_; rintro e w5 ⟨rfl, hx5⟩)
            go_roundg (mN - (k + 1))
            case rel => exact ⟨k + 1, by omega, rfl, by rw [HEN.out]; exact congrArg Value.string (by rw [bts_append, bts_append]), by go_num, hxi.trans hx5⟩
            case measure => omega
        ·have HFL := Lib.hid (show fil ((zN : Nat) : Int) k = 45 from if_neg (by omega))
         have b4 : decide ((k : Int) ≤ (zN : Int)) = false := decide_eq_false (by omega)
         have b4' : decide (k ≤ zN) = false := decide_eq_false hkz
         ·have b3 : decide ((0 : Int) < (k : Int)) = true := decide_eq_true (by omega)
          have b3' : decide (0 < k) = true := decide_eq_true (by omega)
          obtain ⟨Y, hY⟩ : ∃ Y, Y = X ++ [45] := ⟨_, rfl⟩
          have HY := Lib.hid (show Y = E ++ refL (T.toTr.cel col p (T.en p)) wk ((zN : Nat) : Int) k ++ (if 0 < k then [fil ((zN : Nat) : Int) k] else []) ∧ Y.length ≤ 10000001 from ⟨by rw [if_pos (by omega), hY, hX, show fil ((zN : Nat) : Int) k = 45 from HFL.out], by rw [hY, List.length_append]; simp; omega⟩)
          have hz0 := bts_size X
          have hk0 : ¬ 9223372036854775807 < X.length + 1 := by omega
          have hbb : bts X ++ (⟨#[45]⟩ : ByteArray) = bts Y := by rw [hY]; exact bts_append X [45]
          clear hY hX hXl
          go_wp2_with fail
          try rw [hbb]
          clear hbb hz0 hk0
          go_loopg [16, 17] (T.en p) (fun gg v16 v17 wi => ∃ i : Nat, i ≤ T.en p ∧ gg = T.en p - i ∧ v16 = .string (bts (T.toTr.cel col p i k)) ∧ v17 = .int .i64 i ∧ Ext w2 wi)
          case atStart => exact ⟨0, by omega, rfl, rfl, rfl, hxk⟩
          case round =>
           obtain ⟨i, hi, rfl, rfl, rfl, hxi⟩ := hrel
           have hx1i := hx12.trans hxi
           have hxwi := hxw2.trans hxi
           obtain ⟨sx, hsx⟩ : ∃ sx, sx = T.toTr.cel col p i k := ⟨_, rfl⟩
           rw [← hsx]
           have HSX := Lib.hid hsx
           clear hsx
           by_cases hie : i < T.en p
           ·have hie' : (i : Int) < (T.en p : Int) := by omega
            obtain ⟨hrv, gl, gc⟩ := HROW.out i hie
            try subst hrv
            obtain ⟨cz, hcz⟩ : ∃ cz, cz = col p i := ⟨_, rfl⟩
            rw [← hcz] at gc
            have gc2 : ∀ w', Ext w2 w' → w'.cell? ⟨rg, i, none⟩ = some (.int .i64 cz) := fun w' x => x.cell gc
            have gl2 : ∀ w', Ext w2 w' → rg < w'.heap.size := fun w' x => Nat.lt_of_lt_of_le gl x.le
            have HCZ := Lib.hid hcz
            have hea := HT.out.E.ea p hpn (by omega)
            obtain rfl : ea = some ⟨T.eb p, T.eo p, none⟩ := by rw [HEA.out]; exact hea
            have eb := HT.out.E.eb p hpn (by omega)
            have e0 : ∀ w', Ext w w' → w'.cell? ⟨T.eb p, T.eo p + i * 5, none⟩ = some (.int .i64 (T.kind p i)) := fun w' x => HT.out.E.e0 w' x p i hpn hie
            have e1 : ∀ w', Ext w w' → w'.cell? ⟨T.eb p, T.eo p + i * 5 + 1, none⟩ = some (.int .i64 (T.peer p i)) := fun w' x => HT.out.E.e1 w' x p i hpn hie
            have e2 : ∀ w', Ext w w' → w'.cell? ⟨T.eb p, T.eo p + i * 5 + 2, none⟩ = some (.int .i64 (T.msg p i)) := fun w' x => HT.out.E.e2 w' x p i hpn hie
            have e3 : ∀ w', Ext w w' → w'.cell? ⟨T.eb p, T.eo p + i * 5 + 3, none⟩ = some (.int .i64 (T.time p i)) := fun w' x => HT.out.E.e3 w' x p i hpn hie
            have e4 : ∀ w', Ext w w' → w'.cell? ⟨T.eb p, T.eo p + i * 5 + 4, none⟩ = some (.slice (T.aa p i) (T.an p i) (T.ac p i)) := fun w' x => HT.out.E.e4 w' x p i hpn hie
            have HLA := Lib.hid (fun W => rlabel_any W (T.kind p i) (T.peer p i) (T.msg p i) (T.time p i) (.slice (T.aa p i) (T.an p i) (T.ac p i)) (HM.out p i hpn hie))
            clear hcz gc gl hea
            by_cases heq : cz = (k : Int)
            ·have d1 : (cz == (k : Int)) = true := by simpa using heq
             have HCL := Lib.hid (show T.toTr.cel col p (i + 1) k = labL (T.kind p i) (T.msg p i) from by show (if col p i = (k : Int) then T.toTr.lab p i else _) = _; rw [if_pos (by rw [← HCZ.out]; exact heq)]; rfl)
             clear heq
             go_wp2_with (go_at_call 44; refine (HLA.out _).mono ?_; rintro e w5 ⟨rfl, hx5⟩)
             go_roundg (T.en p - (i + 1))
             case rel => exact ⟨i + 1, by omega, rfl, by rw [HCL.out], by go_num, hxi.trans hx5⟩
             case measure => omega
            ·have d1 : (cz == (k : Int)) = false := by simpa using heq
             have HCL := Lib.hid (show T.toTr.cel col p (i + 1) k = sx from by show (if col p i = (k : Int) then _ else T.toTr.cel col p i k) = _; rw [if_neg (by rw [← HCZ.out]; exact heq), HSX.out])
             clear heq
             go_wp2_with fail
             go_roundg (T.en p - (i + 1))
             case rel => exact ⟨i + 1, by omega, rfl, by rw [HCL.out], by go_num, hxi⟩
             case measure => omega
           ·have hie' : ¬ (i : Int) < (T.en p : Int) := by omega
            obtain rfl : i = T.en p := by omega
            have hsl : sx.length ≤ wk := by rw [HSX.out, HNS.out.2]; exact Tr.cel_len fun j hj => Tr.wd_lab hj hpn
            have hwb := HW2.out
            have hYl := HY.out.2
            have hsub : IntKind.i64.wrap ((wk : Int) - (sx.length : Int)) = ((wk - sx.length : Nat) : Int) := by rw [IntWalk.i64_in _ (by omega)]; omega
            have HRP := Lib.hid (fun W => rrepeat_any W 45 (wk - sx.length) (by omega))
            obtain ⟨rr, hrr⟩ : ∃ rr, rr = List.replicate (wk - sx.length) (45 : UInt8) := ⟨_, rfl⟩
            have hrl : rr.length ≤ 201 := by rw [hrr, List.length_replicate]; omega
            rw [← hrr] at HRP
            have hz1 := bts_size Y
            have hz2 := bts_size sx
            have hz3 := bts_size rr
            have hk1 : ¬ 9223372036854775807 < Y.length + sx.length := by omega
            have hk2 : ¬ 9223372036854775807 < Y.length + sx.length + rr.length := by omega
            have HEN := Lib.hid (show E ++ refL (T.toTr.cel col p (T.en p)) wk ((zN : Nat) : Int) (k + 1) = Y ++ sx ++ rr from by
             show E ++ (refL (T.toTr.cel col p (T.en p)) wk ((zN : Nat) : Int) k ++ ((if 0 < k then [fil ((zN : Nat) : Int) k] else []) ++ padL (T.toTr.cel col p (T.en p) k) (fil ((zN : Nat) : Int) k) wk)) = _
             rw [hrr, HY.out.1, HSX.out, show fil ((zN : Nat) : Int) k = 45 from HFL.out]
             unfold padL
             simp only [List.append_assoc])
            clear hrr hsl
            go_wp2_with (go_at_call 45; refine (HRP.out _).mono ?_; rintro e w5 ⟨rfl, hx5⟩)
            go_roundg (mN - (k + 1))
            case rel => exact ⟨k + 1, by omega, rfl, by rw [HEN.out]; exact congrArg Value.string (by rw [bts_append, bts_append]), by go_num, hxi.trans hx5⟩
            case measure => omega
       ·have hkm' : ¬ (k : Int) < (mN : Int) := by omega
        obtain rfl : k = mN := by omega
        have hz1 := bts_size X
        have hk1 : ¬ 9223372036854775807 < X.length + 2 := by omega
        have HEN := Lib.hid (show T.toTr.refD col k nk wk v (p + 1) = X ++ [124, 10] from by
         rw [hX, HE.out.1]
         show T.toTr.refD col k nk wk v p ++ (padL (T.name p).data.toList 32 nk ++ [32, 124] ++ refL (T.toTr.cel col p (T.en p)) wk (lastC col v p) k ++ [124, 10]) = _
         rw [HLAST.out]
         simp only [List.append_assoc])
        clear hX
        go_wp2_with fail
        go_roundg (T.n - (p + 1))
        case rel => exact ⟨p + 1, by omega, rfl, by rw [HEN.out]; exact congrArg Value.string (bts_append X [124, 10]), by go_num, hxk⟩
        case measure => omega
     ·have b1 : decide ((0 : Int) < vz) = false := decide_eq_false h0
      have HLAST := Lib.hid (show lastC col v p = -1 from by
       unfold lastC
       rw [← HVZ.out, if_neg h0])
      have hxwq := hxw2.trans hxq
      clear h0
      go_wp2_with fail
      go_loopg [11, 14] mN (fun gg v11 v14 wk2 => ∃ k : Nat, k ≤ mN ∧ gg = mN - k ∧ v11 = .string (bts (E ++ refL (T.toTr.cel col p (T.en p)) wk (-1) k)) ∧ v14 = .int .i64 k ∧ Ext w2 wk2)
      case atStart => exact ⟨0, by omega, rfl, by rw [show E ++ refL (T.toTr.cel col p (T.en p)) wk (-1) 0 = E from List.append_nil E], rfl, hxq⟩
      case round =>
       obtain ⟨k, hk, rfl, rfl, rfl, hxk⟩ := hrel
       have hx1k := hx12.trans hxk
       have hxwk := hxw2.trans hxk
       obtain ⟨X, hX⟩ : ∃ X, X = E ++ refL (T.toTr.cel col p (T.en p)) wk (-1) k := ⟨_, rfl⟩
       have hXl : X.length ≤ 10000000 := by
        have h1 := refL_len (g := T.toTr.cel col p (T.en p)) (W := wk) (c := 201) (last := (-1)) HW2.out (fun k => Tr.cel_len fun j hj => HLB.out p j hpn hj) (k := k)
        have h2 : k * (201 + 1) ≤ 512 * (201 + 1) := Nat.mul_le_mul_right _ (by omega)
        have h3 := HE.out.2
        rw [hX, List.length_append]; omega
       rw [← hX]
       by_cases hkm : k < mN
       ·have hkm' : (k : Int) < (mN : Int) := by omega
        have HFL := Lib.hid (show fil (-1) k = 45 from if_neg (by omega))
        have b4 : decide ((k : Int) ≤ -1) = false := decide_eq_false (by omega)
        by_cases hk0 : k = 0
        ·have b3 : decide ((0 : Int) < (k : Int)) = false := decide_eq_false (by omega)
         have b3' : decide (0 < k) = false := decide_eq_false (by omega)
         obtain ⟨Y, hY⟩ : ∃ Y, Y = X := ⟨_, rfl⟩
         have HY := Lib.hid (show Y = E ++ refL (T.toTr.cel col p (T.en p)) wk (-1) k ++ (if 0 < k then [fil (-1) k] else []) ∧ Y.length ≤ 10000001 from ⟨by rw [if_neg (by omega), hY, hX, List.append_nil], by rw [hY]; omega⟩)
         rw [← hY]
         clear hY hX hXl hk0
         go_wp2_with fail
         go_loopg [16, 17] (T.en p) (fun gg v16 v17 wi => ∃ i : Nat, i ≤ T.en p ∧ gg = T.en p - i ∧ v16 = .string (bts (T.toTr.cel col p i k)) ∧ v17 = .int .i64 i ∧ Ext w2 wi)
         case atStart => exact ⟨0, by omega, rfl, rfl, rfl, hxk⟩
         case round =>
          obtain ⟨i, hi, rfl, rfl, rfl, hxi⟩ := hrel
          have hx1i := hx12.trans hxi
          have hxwi := hxw2.trans hxi
          obtain ⟨sx, hsx⟩ : ∃ sx, sx = T.toTr.cel col p i k := ⟨_, rfl⟩
          rw [← hsx]
          have HSX := Lib.hid hsx
          clear hsx
          by_cases hie : i < T.en p
          ·have hie' : (i : Int) < (T.en p : Int) := by omega
           obtain ⟨hrv, gl, gc⟩ := HROW.out i hie
           try subst hrv
           obtain ⟨cz, hcz⟩ : ∃ cz, cz = col p i := ⟨_, rfl⟩
           rw [← hcz] at gc
           have gc2 : ∀ w', Ext w2 w' → w'.cell? ⟨rg, i, none⟩ = some (.int .i64 cz) := fun w' x => x.cell gc
           have gl2 : ∀ w', Ext w2 w' → rg < w'.heap.size := fun w' x => Nat.lt_of_lt_of_le gl x.le
           have HCZ := Lib.hid hcz
           have hea := HT.out.E.ea p hpn (by omega)
           obtain rfl : ea = some ⟨T.eb p, T.eo p, none⟩ := by rw [HEA.out]; exact hea
           have eb := HT.out.E.eb p hpn (by omega)
           have e0 : ∀ w', Ext w w' → w'.cell? ⟨T.eb p, T.eo p + i * 5, none⟩ = some (.int .i64 (T.kind p i)) := fun w' x => HT.out.E.e0 w' x p i hpn hie
           have e1 : ∀ w', Ext w w' → w'.cell? ⟨T.eb p, T.eo p + i * 5 + 1, none⟩ = some (.int .i64 (T.peer p i)) := fun w' x => HT.out.E.e1 w' x p i hpn hie
           have e2 : ∀ w', Ext w w' → w'.cell? ⟨T.eb p, T.eo p + i * 5 + 2, none⟩ = some (.int .i64 (T.msg p i)) := fun w' x => HT.out.E.e2 w' x p i hpn hie
           have e3 : ∀ w', Ext w w' → w'.cell? ⟨T.eb p, T.eo p + i * 5 + 3, none⟩ = some (.int .i64 (T.time p i)) := fun w' x => HT.out.E.e3 w' x p i hpn hie
           have e4 : ∀ w', Ext w w' → w'.cell? ⟨T.eb p, T.eo p + i * 5 + 4, none⟩ = some (.slice (T.aa p i) (T.an p i) (T.ac p i)) := fun w' x => HT.out.E.e4 w' x p i hpn hie
           have HLA := Lib.hid (fun W => rlabel_any W (T.kind p i) (T.peer p i) (T.msg p i) (T.time p i) (.slice (T.aa p i) (T.an p i) (T.ac p i)) (HM.out p i hpn hie))
           clear hcz gc gl hea
           by_cases heq : cz = (k : Int)
           ·have d1 : (cz == (k : Int)) = true := by simpa using heq
            have HCL := Lib.hid (show T.toTr.cel col p (i + 1) k = labL (T.kind p i) (T.msg p i) from by show (if col p i = (k : Int) then T.toTr.lab p i else _) = _; rw [if_pos (by rw [← HCZ.out]; exact heq)]; rfl)
            clear heq
            go_wp2_with (go_at_call 44; refine (HLA.out _).mono ?_; rintro e w5 ⟨rfl, hx5⟩)
            go_roundg (T.en p - (i + 1))
            case rel => exact ⟨i + 1, by omega, rfl, by rw [HCL.out], by go_num, hxi.trans hx5⟩
            case measure => omega
           ·have d1 : (cz == (k : Int)) = false := by simpa using heq
            have HCL := Lib.hid (show T.toTr.cel col p (i + 1) k = sx from by show (if col p i = (k : Int) then _ else T.toTr.cel col p i k) = _; rw [if_neg (by rw [← HCZ.out]; exact heq), HSX.out])
            clear heq
            go_wp2_with fail
            go_roundg (T.en p - (i + 1))
            case rel => exact ⟨i + 1, by omega, rfl, by rw [HCL.out], by go_num, hxi⟩
            case measure => omega
          ·have hie' : ¬ (i : Int) < (T.en p : Int) := by omega
           obtain rfl : i = T.en p := by omega
           have hsl : sx.length ≤ wk := by rw [HSX.out, HNS.out.2]; exact Tr.cel_len fun j hj => Tr.wd_lab hj hpn
           have hwb := HW2.out
           have hYl := HY.out.2
           have hsub : IntKind.i64.wrap ((wk : Int) - (sx.length : Int)) = ((wk - sx.length : Nat) : Int) := by rw [IntWalk.i64_in _ (by omega)]; omega
           have HRP := Lib.hid (fun W => rrepeat_any W 45 (wk - sx.length) (by omega))
           obtain ⟨rr, hrr⟩ : ∃ rr, rr = List.replicate (wk - sx.length) (45 : UInt8) := ⟨_, rfl⟩
           have hrl : rr.length ≤ 201 := by rw [hrr, List.length_replicate]; omega
           rw [← hrr] at HRP
           have hz1 := bts_size Y
           have hz2 := bts_size sx
           have hz3 := bts_size rr
           have hk1 : ¬ 9223372036854775807 < Y.length + sx.length := by omega
           have hk2 : ¬ 9223372036854775807 < Y.length + sx.length + rr.length := by omega
           have HEN := Lib.hid (show E ++ refL (T.toTr.cel col p (T.en p)) wk (-1) (k + 1) = Y ++ sx ++ rr from by
            show E ++ (refL (T.toTr.cel col p (T.en p)) wk (-1) k ++ ((if 0 < k then [fil (-1) k] else []) ++ padL (T.toTr.cel col p (T.en p) k) (fil (-1) k) wk)) = _
            rw [hrr, HY.out.1, HSX.out, show fil (-1) k = 45 from HFL.out]
            unfold padL
            simp only [List.append_assoc])
           clear hrr hsl
           go_wp2_with (go_at_call 45; refine (HRP.out _).mono ?_; rintro e w5 ⟨rfl, hx5⟩)
           go_roundg (mN - (k + 1))
           case rel => exact ⟨k + 1, by omega, rfl, by rw [HEN.out]; exact congrArg Value.string (by rw [bts_append, bts_append]), by go_num, hxi.trans hx5⟩
           case measure => omega
        ·have b3 : decide ((0 : Int) < (k : Int)) = true := decide_eq_true (by omega)
         have b3' : decide (0 < k) = true := decide_eq_true (by omega)
         obtain ⟨Y, hY⟩ : ∃ Y, Y = X ++ [45] := ⟨_, rfl⟩
         have HY := Lib.hid (show Y = E ++ refL (T.toTr.cel col p (T.en p)) wk (-1) k ++ (if 0 < k then [fil (-1) k] else []) ∧ Y.length ≤ 10000001 from ⟨by rw [if_pos (by omega), hY, hX, show fil (-1) k = 45 from HFL.out], by rw [hY, List.length_append]; simp; omega⟩)
         have hz0 := bts_size X
         have hk0 : ¬ 9223372036854775807 < X.length + 1 := by omega
         have hbb : bts X ++ (⟨#[45]⟩ : ByteArray) = bts Y := by rw [hY]; exact bts_append X [45]
         clear hY hX hXl
         go_wp2_with fail
         try rw [hbb]
         clear hbb hz0 hk0
         go_loopg [16, 17] (T.en p) (fun gg v16 v17 wi => ∃ i : Nat, i ≤ T.en p ∧ gg = T.en p - i ∧ v16 = .string (bts (T.toTr.cel col p i k)) ∧ v17 = .int .i64 i ∧ Ext w2 wi)
         case atStart => exact ⟨0, by omega, rfl, rfl, rfl, hxk⟩
         case round =>
          obtain ⟨i, hi, rfl, rfl, rfl, hxi⟩ := hrel
          have hx1i := hx12.trans hxi
          have hxwi := hxw2.trans hxi
          obtain ⟨sx, hsx⟩ : ∃ sx, sx = T.toTr.cel col p i k := ⟨_, rfl⟩
          rw [← hsx]
          have HSX := Lib.hid hsx
          clear hsx
          by_cases hie : i < T.en p
          ·have hie' : (i : Int) < (T.en p : Int) := by omega
           obtain ⟨hrv, gl, gc⟩ := HROW.out i hie
           try subst hrv
           obtain ⟨cz, hcz⟩ : ∃ cz, cz = col p i := ⟨_, rfl⟩
           rw [← hcz] at gc
           have gc2 : ∀ w', Ext w2 w' → w'.cell? ⟨rg, i, none⟩ = some (.int .i64 cz) := fun w' x => x.cell gc
           have gl2 : ∀ w', Ext w2 w' → rg < w'.heap.size := fun w' x => Nat.lt_of_lt_of_le gl x.le
           have HCZ := Lib.hid hcz
           have hea := HT.out.E.ea p hpn (by omega)
           obtain rfl : ea = some ⟨T.eb p, T.eo p, none⟩ := by rw [HEA.out]; exact hea
           have eb := HT.out.E.eb p hpn (by omega)
           have e0 : ∀ w', Ext w w' → w'.cell? ⟨T.eb p, T.eo p + i * 5, none⟩ = some (.int .i64 (T.kind p i)) := fun w' x => HT.out.E.e0 w' x p i hpn hie
           have e1 : ∀ w', Ext w w' → w'.cell? ⟨T.eb p, T.eo p + i * 5 + 1, none⟩ = some (.int .i64 (T.peer p i)) := fun w' x => HT.out.E.e1 w' x p i hpn hie
           have e2 : ∀ w', Ext w w' → w'.cell? ⟨T.eb p, T.eo p + i * 5 + 2, none⟩ = some (.int .i64 (T.msg p i)) := fun w' x => HT.out.E.e2 w' x p i hpn hie
           have e3 : ∀ w', Ext w w' → w'.cell? ⟨T.eb p, T.eo p + i * 5 + 3, none⟩ = some (.int .i64 (T.time p i)) := fun w' x => HT.out.E.e3 w' x p i hpn hie
           have e4 : ∀ w', Ext w w' → w'.cell? ⟨T.eb p, T.eo p + i * 5 + 4, none⟩ = some (.slice (T.aa p i) (T.an p i) (T.ac p i)) := fun w' x => HT.out.E.e4 w' x p i hpn hie
           have HLA := Lib.hid (fun W => rlabel_any W (T.kind p i) (T.peer p i) (T.msg p i) (T.time p i) (.slice (T.aa p i) (T.an p i) (T.ac p i)) (HM.out p i hpn hie))
           clear hcz gc gl hea
           by_cases heq : cz = (k : Int)
           ·have d1 : (cz == (k : Int)) = true := by simpa using heq
            have HCL := Lib.hid (show T.toTr.cel col p (i + 1) k = labL (T.kind p i) (T.msg p i) from by show (if col p i = (k : Int) then T.toTr.lab p i else _) = _; rw [if_pos (by rw [← HCZ.out]; exact heq)]; rfl)
            clear heq
            go_wp2_with (go_at_call 44; refine (HLA.out _).mono ?_; rintro e w5 ⟨rfl, hx5⟩)
            go_roundg (T.en p - (i + 1))
            case rel => exact ⟨i + 1, by omega, rfl, by rw [HCL.out], by go_num, hxi.trans hx5⟩
            case measure => omega
           ·have d1 : (cz == (k : Int)) = false := by simpa using heq
            have HCL := Lib.hid (show T.toTr.cel col p (i + 1) k = sx from by show (if col p i = (k : Int) then _ else T.toTr.cel col p i k) = _; rw [if_neg (by rw [← HCZ.out]; exact heq), HSX.out])
            clear heq
            go_wp2_with fail
            go_roundg (T.en p - (i + 1))
            case rel => exact ⟨i + 1, by omega, rfl, by rw [HCL.out], by go_num, hxi⟩
            case measure => omega
          ·have hie' : ¬ (i : Int) < (T.en p : Int) := by omega
           obtain rfl : i = T.en p := by omega
           have hsl : sx.length ≤ wk := by rw [HSX.out, HNS.out.2]; exact Tr.cel_len fun j hj => Tr.wd_lab hj hpn
           have hwb := HW2.out
           have hYl := HY.out.2
           have hsub : IntKind.i64.wrap ((wk : Int) - (sx.length : Int)) = ((wk - sx.length : Nat) : Int) := by rw [IntWalk.i64_in _ (by omega)]; omega
           have HRP := Lib.hid (fun W => rrepeat_any W 45 (wk - sx.length) (by omega))
           obtain ⟨rr, hrr⟩ : ∃ rr, rr = List.replicate (wk - sx.length) (45 : UInt8) := ⟨_, rfl⟩
           have hrl : rr.length ≤ 201 := by rw [hrr, List.length_replicate]; omega
           rw [← hrr] at HRP
           have hz1 := bts_size Y
           have hz2 := bts_size sx
           have hz3 := bts_size rr
           have hk1 : ¬ 9223372036854775807 < Y.length + sx.length := by omega
           have hk2 : ¬ 9223372036854775807 < Y.length + sx.length + rr.length := by omega
           have HEN := Lib.hid (show E ++ refL (T.toTr.cel col p (T.en p)) wk (-1) (k + 1) = Y ++ sx ++ rr from by
            show E ++ (refL (T.toTr.cel col p (T.en p)) wk (-1) k ++ ((if 0 < k then [fil (-1) k] else []) ++ padL (T.toTr.cel col p (T.en p) k) (fil (-1) k) wk)) = _
            rw [hrr, HY.out.1, HSX.out, show fil (-1) k = 45 from HFL.out]
            unfold padL
            simp only [List.append_assoc])
           clear hrr hsl
           go_wp2_with (go_at_call 45; refine (HRP.out _).mono ?_; rintro e w5 ⟨rfl, hx5⟩)
           go_roundg (mN - (k + 1))
           case rel => exact ⟨k + 1, by omega, rfl, by rw [HEN.out]; exact congrArg Value.string (by rw [bts_append, bts_append]), by go_num, hxi.trans hx5⟩
           case measure => omega
       ·have hkm' : ¬ (k : Int) < (mN : Int) := by omega
        obtain rfl : k = mN := by omega
        have hz1 := bts_size X
        have hk1 : ¬ 9223372036854775807 < X.length + 2 := by omega
        have HEN := Lib.hid (show T.toTr.refD col k nk wk v (p + 1) = X ++ [124, 10] from by
         rw [hX, HE.out.1]
         show T.toTr.refD col k nk wk v p ++ (padL (T.name p).data.toList 32 nk ++ [32, 124] ++ refL (T.toTr.cel col p (T.en p)) wk (lastC col v p) k ++ [124, 10]) = _
         rw [HLAST.out]
         simp only [List.append_assoc])
        clear hX
        go_wp2_with fail
        go_roundg (T.n - (p + 1))
        case rel => exact ⟨p + 1, by omega, rfl, by rw [HEN.out]; exact congrArg Value.string (bts_append X [124, 10]), by go_num, hxk⟩
        case measure => omega
    ·have hpn' : ¬ (p : Int) < (T.n : Int) := by omega
     obtain rfl : p = T.n := by omega
     have HDD := Lib.hid hD
     clear hD
     go_wp2_with fail
     go_ret
     exact ⟨by rw [← HNS.out.1, ← HNS.out.2, ← HDD.out]; rfl, hxwo⟩
end Go.Proofs.YtmhapcnlpoilpaaGreatDoor
