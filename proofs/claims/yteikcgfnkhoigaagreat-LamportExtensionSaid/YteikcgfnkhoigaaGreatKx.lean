/- Contract of antecederef14.Skipped. Stamps and processes place the events apart. Plain. -/
import Derived.Test.YteikcgfnkhoigaaGreatKt
import Derived.Test.YteikcgfnkhoigaaGreatKw
import Derived.Test.YteikcgfnkhoigaaGreatKk
import Derived.Test.YteikcgfnkhoigaaGreatKo
import Derived.Test.YteikcgfnkhoigaaGreatKv
import Derived.Test.YteikcgfnkhoigaaGreatKg
import Derived.Test.YteikcgfnkhoigaaGreatKq
namespace Go.Proofs.YteikcgfnkhoigaaGreat
open Go.RowKit Go.Shelf

theorem sum_add {α : Type} (f g : α → Nat) (l : List α) : (l.map fun x => f x + g x).sum = (l.map f).sum + (l.map g).sum := by
  induction l with
  | nil => rfl
  | cons x l ih => simp only [List.map_cons, List.sum_cons, ih]; omega
theorem sum_nil {α : Type} (l : List α) : (l.map fun _ => 0).sum = 0 := by
  induction l with
  | nil => rfl
  | cons x l ih => simp only [List.map_cons, List.sum_cons, ih]
theorem sum_swap {α β : Type} (F : α → β → Nat) (l : List α) (m : List β) : (l.map fun x => (m.map fun y => F x y).sum).sum = (m.map fun y => (l.map fun x => F x y).sum).sum := by
  induction l with
  | nil => simp [sum_nil]
  | cons x l ih => simp only [List.map_cons, List.sum_cons]; rw [sum_add, ih]
theorem sum_cong {α : Type} {f g : α → Nat} {l : List α} (h : ∀ x ∈ l, f x = g x) : (l.map f).sum = (l.map g).sum := by
  rw [List.map_congr_left h]
theorem sum_small {α : Type} {f : α → Nat} {c : Nat} {l : List α} (h : ∀ x, f x ≤ c) : (l.map f).sum ≤ l.length * c := by
  induction l with
  | nil => simp
  | cons x l ih => simp only [List.map_cons, List.sum_cons, List.length_cons]; have := h x; rw [Nat.add_mul]; omega
theorem tot_take {α : Type} (G : Nat → Nat) (H : α → Nat) (l : List α) (h : ∀ k (hk : k < l.length), G k = H l[k]) : ∀ m, m ≤ l.length → tot G m = ((l.take m).map H).sum
  | 0, _ => by simp [tot]
  | m + 1, hm => by
    rw [tot_succ, tot_take G H l h m (by omega), h m (by omega), List.take_succ_eq_append_getElem (by omega), List.map_append, List.sum_append]
    simp
theorem tot_list {α : Type} (G : Nat → Nat) (H : α → Nat) (l : List α) (h : ∀ k (hk : k < l.length), G k = H l[k]) : tot G l.length = (l.map H).sum := by
  have := tot_take G H l h l.length (Nat.le_refl _)
  rwa [List.take_length] at this

open Classical in
/-- y has a smaller stamp than x, and is not in its past -/
noncomputable def Tr.skE (T : Tr) (rows : Nat → List Int) (y x : NN) : Nat := if stOf rows y < stOf rows x ∧ ¬ T.SP x y then 1 else 0
noncomputable def Tr.skR (T : Tr) (rows : Nat → List Int) (x : NN) (l : List T.Id) : Nat := (l.map fun y => T.skE rows y.1 x).sum
noncomputable def Tr.skT (T : Tr) (rows : Nat → List Int) (l : List T.Id) : Nat := (l.map fun x => T.skR rows x.1 T.evs).sum
theorem Tr.skE_le (T : Tr) (rows : Nat → List Int) (y x : NN) : T.skE rows y x ≤ 1 := by unfold Tr.skE; split <;> omega
theorem Tr.skE_yes {T : Tr} {rows : Nat → List Int} {y x : NN} (h1 : stOf rows y < stOf rows x) (h2 : ¬ T.SP x y) : T.skE rows y x = 1 := by unfold Tr.skE; rw [if_pos ⟨h1, h2⟩]
theorem Tr.skE_no {T : Tr} {rows : Nat → List Int} {y x : NN} (h : ¬ (stOf rows y < stOf rows x ∧ ¬ T.SP x y)) : T.skE rows y x = 0 := by unfold Tr.skE; rw [if_neg h]
theorem Tr.skR_le (T : Tr) (rows : Nat → List Int) (x : NN) (l : List T.Id) : T.skR rows x l ≤ l.length := by
  have := sum_small (f := fun y : T.Id => T.skE rows y.1 x) (c := 1) (l := l) fun y => T.skE_le rows y.1 x
  unfold Tr.skR; omega
theorem Tr.skT_le (T : Tr) (rows : Nat → List Int) (l : List T.Id) : T.skT rows l ≤ l.length * T.evs.length :=
  sum_small fun x => T.skR_le rows x.1 T.evs
theorem Tr.skR_nil (T : Tr) (rows : Nat → List Int) (x : NN) : T.skR rows x [] = 0 := rfl
theorem Tr.skR_succ (T : Tr) (rows : Nat → List Int) (x : NN) {q j : Nat} (hq : q < T.n) (hj : j < T.en q) : T.skR rows x (T.evsTo q (j + 1)) = T.skR rows x (T.evsTo q j) + T.skE rows (q, j) x := by
  unfold Tr.skR; rw [T.evsTo_succ q j hq hj, List.map_append, List.sum_append]; simp
theorem Tr.skT_succ (T : Tr) (rows : Nat → List Int) {p i : Nat} (hp : p < T.n) (hi : i < T.en p) : T.skT rows (T.evsTo p (i + 1)) = T.skT rows (T.evsTo p i) + T.skR rows (p, i) T.evs := by
  unfold Tr.skT; rw [T.evsTo_succ p i hp hi, List.map_append, List.sum_append]; simp
/-- the program's number and the reference's are one -/
theorem Tr.skT_eq {T : Tr} (hV : T.Valid) (rows : Nat → List Int) : T.skT rows T.evs = T.skipN rows := by
  have h : T.skipN rows = (T.evs.map fun x => (T.evs.map fun y => T.skE rows x.1 y.1).sum).sum := by
    unfold Tr.skipN
    refine tot_list _ _ _ fun k hk => ?_
    refine tot_list _ _ _ fun j hj => ?_
    have e1 := T.evN_get k hk
    have e2 := T.evN_get j hj
    have e3 := hV.sp_iff (x := T.evs[j].1) (y := T.evs[k].1) T.evs[j].2
    unfold Tr.sk Tr.skE Tr.bef
    rw [e1, e2, e3]
  rw [h, sum_swap]; rfl
set_option maxRecDepth 100000 in
set_option maxHeartbeats 4000000 in
theorem rskip_any (w : World) (T : TM) (hT : T.At w) (hV : T.toTr.Valid) (rows : Nat → List Int) (hR : T.toTr.Stamps rows) :
    Calls Tryz.prog 41 #[T.val] w fun e w' => e = .returned (.int .i64 (T.toTr.skT rows T.toTr.evs)) ∧ Ext w w' := by
  have hn1 := hV.n1
  have hn8 := hV.n8
  have pa := hT.P.pa (by omega)
  have hS := fun W (h : Ext w W) => rstamps_any W T (hT.ext h) hV rows hR
  have hP := fun W (h : Ext w W) x (hx : T.toTr.V x) => rpast_any W T (hT.ext h) (Tr.valid_iff.1 hV).1 x hx
  have HE8 := Lib.hid (fun k (hk : k < T.n) => hV.en64 hk)
  have hel : T.toTr.evs.length ≤ 512 := by
    have h1 : tot T.en T.n ≤ T.n * 64 := tot_small (f := T.en) (n := T.n) (c := 64) fun k hk => hV.en64 hk
    have h2 : T.n * 64 ≤ 512 := by omega
    have h3 := T.toTr.evs_tot
    have h4 : T.toTr.evs.length = tot T.en T.n := h3
    omega
  have HSE := Lib.hid (show T.toTr.evsTo T.n 0 = T.toTr.evs from rfl)
  have HRL := Lib.hid (show ∀ x q j, q < T.n → j ≤ T.en q → T.toTr.skR rows x (T.toTr.evsTo q j) ≤ 512 from fun x q j hq hj => Nat.le_trans (T.toTr.skR_le rows x _) (Nat.le_trans (T.toTr.evsTo_prefix q j hq hj).length_le hel))
  have HTL := Lib.hid (show ∀ p i, p < T.n → i ≤ T.en p → T.toTr.skT rows (T.toTr.evsTo p i) ≤ 262144 from fun p i hp hi => Nat.le_trans (T.toTr.skT_le rows _) (Nat.le_trans (Nat.mul_le_mul (Nat.le_trans (T.toTr.evsTo_prefix p i hp hi).length_le hel) hel) (by decide)))
  simp only [TM.val, pa] at hS hP ⊢
  have HS := Lib.hid hS
  have HP := Lib.hid hP
  clear hS hP hV hR hT hel
  go_enter Tryz.func41, Tryz.ntmps41
  go_upto_region 1 with fail
  refine boxed1 (w := w) (G := fun x => Code.wp _ _ _ _ x) ?_
  intro w1 hx1 hs1 ⟨l0, c0, _, _⟩
  have hx11 : Ext w1 w1 := Ext.refl _
  clear hs1
  go_wp2_with fail
  go_at_call 95
  refine (HS.out _ hx1).mono ?_
  rintro e w2 ⟨hx2, g, c, rb, f, rfl, hio, hf, _, _⟩
  have hx12 : Ext w1 w2 := hx2
  have hxw2 := hx1.trans hx2
  have HIO := Lib.hid hio
  have HF := Lib.hid hf
  clear hio hf
  have hgb : ∀ w', Ext w2 w' → g < w'.heap.size := HIO.out.pb (by show 0 < T.n; omega)
  go_wp2_with fail
  go_loopg [4, 5] T.n (fun gg v4 v5 wr => ∃ p : Nat, p ≤ T.n ∧ gg = T.n - p ∧ v5 = .int .i64 p ∧ v4 = .int .i64 (T.toTr.skT rows (T.toTr.evsTo p 0)) ∧ Ext w2 wr)
  case atStart => exact ⟨0, by omega, rfl, rfl, rfl, Ext.refl _⟩
  case round =>
    obtain ⟨p, hp, rfl, rfl, hv4, hxr⟩ := hrel
    obtain ⟨n0, hn0⟩ : ∃ n, n = T.toTr.skT rows (T.toTr.evsTo p 0) := ⟨_, rfl⟩
    have HN0 := Lib.hid hn0
    rw [← hn0] at hv4
    subst hv4
    clear hn0
    by_cases hpn : p < T.n
    · have hpn' : (p : Int) < (T.n : Int) := by omega
      have hen := HE8.out p hpn
      have pr : ∀ w', Ext w2 w' → w'.cell? ⟨g, p, none⟩ = some (.slice (some ⟨rb p, 0, none⟩) (T.en p) (T.en p)) := fun w' h => by
        have := HIO.out.p0 w' h p hpn
        have e : (ioMM g T.n c T.en rb f).off + p = p := Nat.zero_add _
        rw [e] at this; exact this
      go_wp2_with fail
      go_loopg [4, 6] (T.en p) (fun gg v4 v6 wi => ∃ i : Nat, i ≤ T.en p ∧ gg = T.en p - i ∧ v6 = .int .i64 i ∧ v4 = .int .i64 (T.toTr.skT rows (T.toTr.evsTo p i)) ∧ Ext w2 wi)
      case atStart => exact ⟨0, by omega, rfl, rfl, by rw [← HN0.out], hxr⟩
      case round =>
        obtain ⟨i, hi, rfl, rfl, hv4, hxi⟩ := hrel
        have hn1l := HTL.out p i hpn hi
        obtain ⟨n1, hn1⟩ : ∃ n, n = T.toTr.skT rows (T.toTr.evsTo p i) := ⟨_, rfl⟩
        have HN1 := Lib.hid hn1
        rw [← hn1] at hv4 hn1l
        subst hv4
        clear hn1
        by_cases hie : i < T.en p
        · have hie' : (i : Int) < (T.en p : Int) := by omega
          have hx1i := hx12.trans hxi
          have hC := HP.out wr (hx1.trans hx1i) (p, i) ⟨hpn, hie⟩
          dsimp only at hC
          have pq : ∀ w', Ext w2 w' → rb p < w'.heap.size := HIO.out.rb p hpn (by show 0 < T.en p; omega)
          have pv : ∀ w', Ext w2 w' → w'.cell? ⟨rb p, i, none⟩ = some (.int .i64 (f p i)) := fun w' h => by
            have := HIO.out.r0 w' h p i hpn hie
            have e : (ioMM g T.n c T.en rb f).ro p + i = i := Nat.zero_add _
            rw [e] at this; exact this
          obtain ⟨sx, hsx⟩ : ∃ x, x = f p i := ⟨_, rfl⟩
          rw [← hsx] at pv
          have HSX := Lib.hid (show sx = stOf rows (p, i) from by rw [hsx]; exact HF.out p i hpn hie)
          clear hsx
          go_wp2_with fail
          go_at_call 96
          refine hC.mono ?_
          rintro e w3 ⟨hx3, pg, pcap, prb, pf, rfl, hcap, hbo, hpf⟩
          have HBO := Lib.hid hbo
          have HPF := Lib.hid hpf
          have hx23 := hxi.trans hx3
          have hx33 : Ext w3 w3 := Ext.refl _
          have pgl : ∀ w', Ext w3 w' → pg < w'.heap.size := fun w' h => Nat.lt_of_lt_of_le hbo.lt h.le
          clear hC hbo hpf hx1i
          go_wp2_with fail
          go_loopg [4, 8] T.n (fun gg v4 v8 wq => ∃ q : Nat, q ≤ T.n ∧ gg = T.n - q ∧ v8 = .int .i64 q ∧ v4 = .int .i64 ((n1 + T.toTr.skR rows (p, i) (T.toTr.evsTo q 0) : Nat) : Int) ∧ Ext w3 wq)
          case atStart => exact ⟨0, by omega, rfl, rfl, rfl, hx33⟩
          case round =>
            obtain ⟨q, hq, rfl, rfl, hv4, hxq⟩ := hrel
            obtain ⟨n2, hn2⟩ : ∃ n, n = n1 + T.toTr.skR rows (p, i) (T.toTr.evsTo q 0) := ⟨_, rfl⟩
            have HN2 := Lib.hid hn2
            rw [← hn2] at hv4
            subst hv4
            clear hn2
            by_cases hqn : q < T.n
            · have hqn' : (q : Int) < (T.n : Int) := by omega
              have hqe := HE8.out q hqn
              have hx2q := hx23.trans hxq
              have qr : ∀ w', Ext w2 w' → w'.cell? ⟨g, q, none⟩ = some (.slice (some ⟨rb q, 0, none⟩) (T.en q) (T.en q)) := fun w' h => by
                have := HIO.out.p0 w' h q hqn
                have e : (ioMM g T.n c T.en rb f).off + q = q := Nat.zero_add _
                rw [e] at this; exact this
              go_wp2_with fail
              go_loopg [4, 9] (T.en q) (fun gg v4 v9 wj => ∃ j : Nat, j ≤ T.en q ∧ gg = T.en q - j ∧ v9 = .int .i64 j ∧ v4 = .int .i64 ((n1 + T.toTr.skR rows (p, i) (T.toTr.evsTo q j) : Nat) : Int) ∧ Ext w3 wj)
              case atStart => exact ⟨0, by omega, rfl, rfl, by rw [← HN2.out], hxq⟩
              case round =>
                obtain ⟨j, hj, rfl, rfl, hv4, hxj⟩ := hrel
                have hn3l := HRL.out (p, i) q j hqn hj
                obtain ⟨n3, hn3⟩ : ∃ n, n = n1 + T.toTr.skR rows (p, i) (T.toTr.evsTo q j) := ⟨_, rfl⟩
                have HN3 := Lib.hid hn3
                have hn3b : n3 ≤ 262656 := by omega
                rw [← hn3] at hv4
                subst hv4
                clear hn3 hn3l
                have hx2j := hx23.trans hxj
                have hrr : Ext wr wr := Ext.refl _
                by_cases hje : j < T.en q
                · have hje' : (j : Int) < (T.en q : Int) := by omega
                  have qq : ∀ w', Ext w2 w' → rb q < w'.heap.size := HIO.out.rb q hqn (by show 0 < T.en q; omega)
                  have qv : ∀ w', Ext w2 w' → w'.cell? ⟨rb q, j, none⟩ = some (.int .i64 (f q j)) := fun w' h => by
                    have := HIO.out.r0 w' h q j hqn hje
                    have e : (ioMM g T.n c T.en rb f).ro q + j = j := Nat.zero_add _
                    rw [e] at this; exact this
                  obtain ⟨sy, hsy⟩ : ∃ x, x = f q j := ⟨_, rfl⟩
                  rw [← hsy] at qv
                  have HSY := Lib.hid (show sy = stOf rows (q, j) from by rw [hsy]; exact HF.out q j hqn hje)
                  have b0 : ∀ w', Ext w3 w' → w'.cell? ⟨pg, q, none⟩ = some (.slice (some ⟨prb q, 0, none⟩) (T.en q + 1) (T.en q + 1)) := fun w' h => h.cell (HBO.out.c0 q hqn)
                  have b2 : ∀ w', Ext w3 w' → prb q < w'.heap.size := fun w' h => Nat.lt_of_lt_of_le (HBO.out.rl q hqn) h.le
                  obtain ⟨b, hb⟩ : ∃ b, b = pf q (j + 1) := ⟨_, rfl⟩
                  have b3 : ∀ w', Ext w3 w' → w'.cell? ⟨prb q, j + 1, none⟩ = some (.bool b) := fun w' h => by rw [hb]; exact h.cell (HBO.out.c1 q (j + 1) hqn (by show j + 1 < T.en q + 1; omega))
                  have HB := Lib.hid (show b = true ↔ T.toTr.SP (p, i) (q, j) from by rw [hb]; exact HPF.out q j)
                  have hi2 : (0 : Int) ≤ (j : Int) + 1 := by omega
                  have hi3 : ((j : Int) + 1).toNat = j + 1 := by omega
                  have hi4 : (j : Int) + 1 < (T.en q : Int) + 1 := by omega
                  clear hsy hb
                  by_cases hlt : sy < sx
                  · have dl : decide (sy < sx) = true := decide_eq_true hlt
                    cases b with
                    | true =>
                      have HE := Lib.hid (show n1 + T.toTr.skR rows (p, i) (T.toTr.evsTo q (j + 1)) = n3 from by
                        rw [T.toTr.skR_succ rows (p, i) hqn hje, Tr.skE_no (fun h => h.2 (HB.out.1 rfl)), HN3.out, Nat.add_zero])
                      go_upto_region 16 with fail
                      go_quiet (fail)
                      go_wp2_with fail
                      go_roundg (T.en q - (j + 1))
                      case rel => exact ⟨j + 1, by omega, rfl, by go_num, by rw [HE.out], by repeat (first | exact hxj | refine Ext.drewN ?_ _)⟩
                      case measure => omega
                    | false =>
                      have HE := Lib.hid (show n1 + T.toTr.skR rows (p, i) (T.toTr.evsTo q (j + 1)) = n3 + 1 from by
                        rw [T.toTr.skR_succ rows (p, i) hqn hje, Tr.skE_yes (by rw [← HSX.out, ← HSY.out]; exact hlt) (fun h => by have := HB.out.2 h; cases this), HN3.out, Nat.add_assoc])
                      go_upto_region 16 with fail
                      go_quiet (fail)
                      go_wp2_with fail
                      go_roundg (T.en q - (j + 1))
                      case rel => exact ⟨j + 1, by omega, rfl, by go_num, by rw [HE.out]; go_num, by repeat (first | exact hxj | refine Ext.drewN ?_ _)⟩
                      case measure => omega
                  · have dl : decide (sy < sx) = false := decide_eq_false hlt
                    have HE := Lib.hid (show n1 + T.toTr.skR rows (p, i) (T.toTr.evsTo q (j + 1)) = n3 from by
                      rw [T.toTr.skR_succ rows (p, i) hqn hje, Tr.skE_no (fun h => hlt (by rw [HSX.out, HSY.out]; exact h.1)), HN3.out, Nat.add_zero])
                    go_upto_region 16 with fail
                    go_quiet (fail)
                    go_wp2_with fail
                    go_roundg (T.en q - (j + 1))
                    case rel => exact ⟨j + 1, by omega, rfl, by go_num, by rw [HE.out], by repeat (first | exact hxj | refine Ext.drewN ?_ _)⟩
                    case measure => omega
                · obtain rfl : j = T.en q := by omega
                  have HE := Lib.hid (T.toTr.evsTo_next q)
                  go_wp2_with fail
                  go_roundg (T.n - (q + 1))
                  case rel => exact ⟨q + 1, by omega, rfl, by go_num, by rw [HN3.out, HE.out], hxj⟩
                  case measure => omega
            · obtain rfl : q = T.n := by omega
              have HE := Lib.hid (show T.toTr.skT rows (T.toTr.evsTo p (i + 1)) = n2 from by
                rw [T.toTr.skT_succ rows hpn hie, ← HN1.out, HN2.out, HSE.out])
              go_wp2_with fail
              go_roundg (T.en p - (i + 1))
              case rel => exact ⟨i + 1, by omega, rfl, by go_num, by rw [HE.out], hx23.trans hxq⟩
              case measure => omega
        · obtain rfl : i = T.en p := by omega
          have HE := Lib.hid (T.toTr.evsTo_next p)
          go_wp2_with fail
          go_roundg (T.n - (p + 1))
          case rel => exact ⟨p + 1, by omega, rfl, by go_num, by rw [HN1.out, HE.out], hxi⟩
          case measure => omega
    · obtain rfl : p = T.n := by omega
      go_wp2_with fail
      go_ret
      exact ⟨by rw [← HSE.out, ← HN0.out]; rfl, hxw2.trans hxr⟩

end Go.Proofs.YteikcgfnkhoigaaGreat

namespace Go.Proofs.YteikcgfnkhoigaaGreat
open Go.RowKit Go.Shelf

/-- the stamps and the processes place the events apart -/
theorem evs_apart {T : Tr} {rows : Nat → List Int} (hR : T.Stamps rows) : Apart (T.stI rows) T.prI T.evs := by
  have hlt : ∀ p i j, p < T.n → j < T.en p → i < j → stOf rows (p, i) < stOf rows (p, j) := by
    intro p i j hp hj hij
    induction j with
    | zero => omega
    | succ j ih =>
      have h1 := hR.dir_lt (x := (p, j + 1)) (y := (p, j)) ⟨hp, hj⟩ (.inl ⟨rfl, rfl⟩)
      by_cases e : i = j
      · subst e; exact h1
      · have := ih (by omega) (by omega); omega
  have key : ∀ p, p ≤ T.n → (T.evsTo p 0).Pairwise fun x y : T.Id => T.stI rows x = T.stI rows y → T.prI x < T.prI y := by
    intro p hp
    induction p with
    | zero => rw [T.evsTo_zero]; exact List.Pairwise.nil
    | succ p ih =>
      have hin : ∀ i, i ≤ T.en p → (T.evsTo p i).Pairwise fun x y : T.Id => T.stI rows x = T.stI rows y → T.prI x < T.prI y := by
        intro i hi
        induction i with
        | zero => exact ih (by omega)
        | succ i ih2 =>
          rw [T.evsTo_succ p i (by omega) (by omega), List.pairwise_append]
          refine ⟨ih2 (by omega), List.pairwise_singleton _ _, fun x hx y hy => ?_⟩
          obtain rfl := List.mem_singleton.1 hy
          intro hst
          rcases Tr.evsTo_mem hx with h | ⟨h1, h2⟩
          · show (x.1.1 : Int) < (p : Int); omega
          · exfalso
            have h3 := hlt p x.1.2 i (by omega) (by omega) h2
            have h4 : stOf rows x.1 = stOf rows (p, i) := hst
            have h5 : x.1 = (p, x.1.2) := Prod.ext h1 rfl
            rw [h5] at h4
            omega
      rw [← T.evsTo_next p]
      exact hin _ (Nat.le_refl _)
  exact key T.n (Nat.le_refl _)

end Go.Proofs.YteikcgfnkhoigaaGreat
