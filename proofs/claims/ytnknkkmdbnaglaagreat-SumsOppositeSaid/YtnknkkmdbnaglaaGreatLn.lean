/- Contracts of the reference: antecederef12.Cut, Consistent; antecederef23.Is; antecederef39.Cut. Lists of terms that a call makes. Sums that are opposite, added, multiplied. Plain. Contracts: antecederef39.Opposite; slices.Grow and slices.Concat at api.Term. Contracts: slices.Grow and slices.Concat at api.Term (two lists). -/
import Derived.Test.YtnknkkmdbnaglaaGreatLk
import Derived.Test.YtnknkkmdbnaglaaGreatKp
import Derived.Test.YtnknkkmdbnaglaaGreatLa
import Derived.Test.YtnknkkmdbnaglaaGreatKa
import Derived.Test.YtnknkkmdbnaglaaGreatLb
import Derived.Test.YtnknkkmdbnaglaaGreatLh
import Derived.Test.YtnknkkmdbnaglaaGreatLl
import Derived.Test.YtnknkkmdbnaglaaGreatKk
namespace Go.Proofs.YtnknkkmdbnaglaaGreat
open Go.RowKit Go.Shelf

set_option maxRecDepth 100000 in
set_option maxHeartbeats 1000000 in
theorem rcut12_any (w : World) (T : TM) (hT : T.At w) (a : Option Addr) (g o n cap : Nat) (v : Nat → Int) (hC : NumAt w n a g o v) :
    Calls Tryz.prog 117 #[T.val, .slice a n cap] w (BoolPost (n = T.n ∧ T.toTr.InR T.n v) w) := by
  generalize hP : (n = T.n ∧ T.toTr.InR T.n v) = P
  have HP := Lib.hid (show P ↔ (n = T.n ∧ T.toTr.InR T.n v) from by rw [← hP])
  clear hP
  have HT := Lib.hid hT
  have HC := Lib.hid hC
  have hn0 := hT.P.hn
  have hcn := hC.hn
  obtain ⟨ta, hta⟩ : ∃ z, z = T.a := ⟨_, rfl⟩
  have HTA := Lib.hid hta
  simp only [TM.val]
  rw [← hta]
  clear hT hC hta
  go_enter Tryz.func117, Tryz.ntmps117
  go_upto_region 1 with fail
  refine boxed1 (w := w) (G := fun x => Code.wp _ _ _ _ x) ?_
  intro w1 hx1 hs1 ⟨l0, c0, _, _⟩
  have hx11 : Ext w1 w1 := Ext.refl _
  clear hs1
  by_cases hnn : n = T.n
  case neg =>
    have d0 : ((n : Int) == (T.n : Int)) = false := by simpa using fun h : (n : Int) = T.n => hnn (by omega)
    have d0' : (n == T.n) = false := by simpa using hnn
    go_wp2_with fail
    go_ret
    exact ⟨false, rfl, ⟨fun h => (by cases h), fun h => absurd (HP.out.1 h).1 hnn⟩, hx1⟩
  subst hnn
  have d0 : ((T.n : Int) == (T.n : Int)) = true := by simp
  go_wp2_with fail
  go_loopg [5] T.n (fun gg v5 wr => ∃ k : Nat, k ≤ T.n ∧ gg = T.n - k ∧ v5 = .int .i64 k ∧ Ext w1 wr ∧ ∀ p, p < k → 0 ≤ v p ∧ v p ≤ T.en p)
  case atStart => exact ⟨0, by omega, rfl, rfl, hx11, fun p h => by omega⟩
  case round =>
    obtain ⟨k, hk, rfl, rfl, hxr, hall⟩ := hrel
    have HA := Lib.hid hall
    have hxw := hx1.trans hxr
    clear hall
    by_cases hlt : k < T.n
    · have hlt' : (k : Int) < (T.n : Int) := by omega
      obtain rfl : ta = some ⟨T.b, T.off, none⟩ := by rw [HTA.out]; exact HT.out.P.pa (by omega)
      have hen := HT.out.E.he k hlt
      have pb := HT.out.P.pb (by omega)
      have p2 : ∀ w', Ext w w' → w'.cell? ⟨T.b, T.off + k * 3 + 2, none⟩ = some (.slice (T.ea k) (T.en k) (T.ec k)) := fun w' h => HT.out.P.p2 w' h k hlt
      obtain rfl := HC.out.pa (by omega)
      have gb : ∀ w', Ext w w' → g < w'.heap.size := fun w' x => Nat.lt_of_lt_of_le (HC.out.pb (by omega)) x.le
      obtain ⟨vk, hvk⟩ : ∃ z, z = v k := ⟨_, rfl⟩
      have gc : ∀ w', Ext w w' → w'.cell? ⟨g, o + k, none⟩ = some (.int .i64 vk) := fun w' x => by rw [hvk]; exact x.cell (HC.out.c k hlt)
      have HVK := Lib.hid hvk
      clear hvk
      by_cases h0 : vk < 0
      · have d1 : decide (vk < 0) = true := decide_eq_true h0
        go_upto_region 6 with fail
        go_quiet (fail)
        have hq := hxw.drewN nq
        go_wp2_with fail
        go_ret
        exact ⟨false, rfl, ⟨fun h => (by cases h), fun h => absurd ((HP.out.1 h).2 k hlt).1 (by rw [← HVK.out]; omega)⟩, hq⟩
      · have d1 : decide (vk < 0) = false := decide_eq_false h0
        by_cases h1 : (T.en k : Int) < vk
        · have d2 : decide ((T.en k : Int) < vk) = true := decide_eq_true h1
          go_upto_region 6 with fail
          go_quiet (fail)
          have hq := hxw.drewN nq
          go_wp2_with fail
          go_ret
          exact ⟨false, rfl, ⟨fun h => (by cases h), fun h => absurd ((HP.out.1 h).2 k hlt).2 (by rw [← HVK.out]; omega)⟩, hq⟩
        · have d2 : decide ((T.en k : Int) < vk) = false := decide_eq_false h1
          go_upto_region 6 with fail
          go_quiet (fail)
          have hq := hxr.drewN nq
          go_wp2_with fail
          go_roundg (T.n - (k + 1))
          case rel => exact ⟨k + 1, by omega, rfl, by go_num, hq, fun p hp => by
            by_cases e : p = k
            · subst e; rw [← HVK.out]; omega
            · exact HA.out p (by omega)⟩
          case measure => omega
    · obtain rfl : k = T.n := by omega
      go_wp2_with fail
      go_ret
      exact ⟨true, rfl, ⟨fun _ => HP.out.2 ⟨by first | rfl | trivial, HA.out⟩, fun _ => rfl⟩, hxw⟩
set_option maxRecDepth 100000 in
set_option maxHeartbeats 4000000 in
theorem rcon12_any (w : World) (T : TM) (hT : T.At w) (hV : T.toTr.Valid) (a : Option Addr) (g o cap : Nat) (v : Nat → Int) (hC : NumAt w T.n a g o v) (hR : T.toTr.InR T.n v) :
    Calls Tryz.prog 166 #[T.val, .slice a T.n cap] w (BoolPost (T.toTr.ClC v) w) := by
  have HT := Lib.hid hT
  have HV := Lib.hid hV
  have HC := Lib.hid hC
  have HR := Lib.hid hR
  have hn8 := hV.n8
  have hn1 := hV.n1
  have HFI := Lib.hid (fun W (h : Ext w W) m => rfind_any W T (hT.ext h) (by omega) 2 m)
  obtain ⟨ta, hta⟩ : ∃ z, z = T.a := ⟨_, rfl⟩
  have HTA := Lib.hid hta
  simp only [TM.val] at HFI ⊢
  rw [← hta] at HFI
  rw [← hta]
  clear hT hV hC hR hta
  go_enter Tryz.func166, Tryz.ntmps166
  go_upto_region 1 with fail
  refine boxed1 (w := w) (G := fun x => Code.wp _ _ _ _ x) ?_
  intro w1 hx1 hs1 ⟨l0, c0, _, _⟩
  have hx11 : Ext w1 w1 := Ext.refl _
  clear hs1
  go_wp2_with fail
  go_loopg [5] T.n (fun gg v5 wr => ∃ k : Nat, k ≤ T.n ∧ gg = T.n - k ∧ v5 = .int .i64 k ∧ Ext w1 wr ∧ ∀ x, T.toTr.V x → x.1 < k → (x.2 : Int) < v x.1 → T.kind x.1 x.2 = 3 → ((T.toTr.sndN x).2 : Int) < v (T.toTr.sndN x).1)
  case atStart => exact ⟨0, by omega, rfl, rfl, hx11, fun x _ h => by omega⟩
  case round =>
    obtain ⟨k, hk, rfl, rfl, hxr, hall⟩ := hrel
    have HA := Lib.hid hall
    have hxw := hx1.trans hxr
    clear hall
    by_cases hlt : k < T.n
    · have hlt' : (k : Int) < (T.n : Int) := by omega
      obtain rfl : ta = some ⟨T.b, T.off, none⟩ := by rw [HTA.out]; exact HT.out.P.pa (by omega)
      have hen := HV.out.en64 hlt
      have pb := HT.out.P.pb (by omega)
      have p2 : ∀ w', Ext w w' → w'.cell? ⟨T.b, T.off + k * 3 + 2, none⟩ = some (.slice (T.ea k) (T.en k) (T.ec k)) := fun w' h => HT.out.P.p2 w' h k hlt
      obtain rfl := HC.out.pa (by omega)
      have gb : ∀ w', Ext w w' → g < w'.heap.size := fun w' x => Nat.lt_of_lt_of_le (HC.out.pb (by omega)) x.le
      have hrk := HR.out k hlt
      obtain ⟨ck, hck⟩ : ∃ ck : Nat, v k = ck := ⟨(v k).toNat, by omega⟩
      have gc : ∀ w', Ext w w' → w'.cell? ⟨g, o + k, none⟩ = some (.int .i64 (ck : Int)) := fun w' x => by rw [← hck]; exact x.cell (HC.out.c k hlt)
      rw [hck] at hrk
      have hck64 : ck ≤ T.en k := by omega
      have HCK := Lib.hid hck
      clear hck
      obtain ⟨ea, hea⟩ : ∃ z, z = T.ea k := ⟨_, rfl⟩
      rw [← hea] at p2
      have HEA := Lib.hid hea
      clear hea
      go_wp2_with fail
      go_loopg [6] ck (fun gg v6 wr => ∃ i : Nat, i ≤ ck ∧ gg = ck - i ∧ v6 = .int .i64 i ∧ Ext w1 wr ∧ ∀ x, T.toTr.V x → (x.1 < k ∨ (x.1 = k ∧ x.2 < i)) → (x.2 : Int) < v x.1 → T.kind x.1 x.2 = 3 → ((T.toTr.sndN x).2 : Int) < v (T.toTr.sndN x).1)
      case atStart => exact ⟨0, by omega, rfl, rfl, hxr, fun x hx h => HA.out x hx (by omega)⟩
      case round =>
        obtain ⟨i, hi, rfl, rfl, hxi, hall⟩ := hrel
        have HA2 := Lib.hid hall
        have hxwi := hx1.trans hxi
        clear hall
        by_cases hli : i < ck
        · have hli' : (i : Int) < (ck : Int) := by omega
          have hie : i < T.en k := by omega
          have hie' : (i : Int) < (T.en k : Int) := by omega
          obtain rfl : ea = some ⟨T.eb k, T.eo k, none⟩ := by rw [HEA.out]; exact HT.out.E.ea k hlt (by omega)
          have eb := HT.out.E.eb k hlt (by omega)
          have e0 : ∀ w', Ext w w' → w'.cell? ⟨T.eb k, T.eo k + i * 5, none⟩ = some (.int .i64 (T.kind k i)) := fun w' x => HT.out.E.e0 w' x k i hlt hie
          have e1 : ∀ w', Ext w w' → w'.cell? ⟨T.eb k, T.eo k + i * 5 + 1, none⟩ = some (.int .i64 (T.peer k i)) := fun w' x => HT.out.E.e1 w' x k i hlt hie
          have e2 : ∀ w', Ext w w' → w'.cell? ⟨T.eb k, T.eo k + i * 5 + 2, none⟩ = some (.int .i64 (T.msg k i)) := fun w' x => HT.out.E.e2 w' x k i hlt hie
          have e3 : ∀ w', Ext w w' → w'.cell? ⟨T.eb k, T.eo k + i * 5 + 3, none⟩ = some (.int .i64 (T.time k i)) := fun w' x => HT.out.E.e3 w' x k i hlt hie
          have e4 : ∀ w', Ext w w' → w'.cell? ⟨T.eb k, T.eo k + i * 5 + 4, none⟩ = some (.slice (T.aa k i) (T.an k i) (T.ac k i)) := fun w' x => HT.out.E.e4 w' x k i hlt hie
          obtain ⟨kd, hkd⟩ : ∃ z, z = T.kind k i := ⟨_, rfl⟩
          rw [← hkd] at e0
          have HKD := Lib.hid hkd
          clear hkd
          go_upto_region 8 with fail
          refine boxed1 (w := wr) (G := fun x => Code.wp _ _ _ _ x) ?_
          intro w4 hx4 hs4 ⟨l4, c4, _, _⟩
          have hx44 : Ext w4 w4 := Ext.refl _
          have hx14 := hxi.trans hx4
          have hxw4 := hx1.trans hx14
          clear hs4 e0 e1 e2 e3 e4 eb
          by_cases h3 : kd = 3
          · subst h3
            obtain ⟨⟨sp, si⟩, hsn⟩ : ∃ s, s = T.toTr.sndN (k, i) := ⟨_, rfl⟩
            have hsv := Tr.sndN_V (T := T.toTr) (y := (k, i)) ⟨hlt, hie⟩
            rw [← hsn] at hsv
            have hsp : sp < T.n := hsv.1
            have hsi : si < T.en sp := hsv.2
            have hse := HV.out.en64 hsp
            have hFi : Calls Tryz.prog 165 #[.agg #[.slice (some ⟨T.b, T.off, none⟩) T.n T.cap], .int .i64 2, .int .i64 (T.msg k i)] w4 fun e w' => e = .returned (.agg #[.int .i64 sp, .int .i64 (si + 1)]) ∧ Ext w4 w' := by
              have h1 := HFI.out w4 hxw4 (T.msg k i)
              have h2 := Tr.Pre.first_snd (T := T.toTr) (Tr.valid_iff.1 HV.out).1 ⟨(k, i), hlt, hie⟩ HKD.out.symm
              rw [h2, ← Tr.sndN_eq, ← hsn] at h1
              exact h1
            have HSN := Lib.hid hsn
            have hrs := HR.out sp hsp
            obtain ⟨cs, hcs⟩ : ∃ z : Int, z = v sp := ⟨_, rfl⟩
            have gs : ∀ w', Ext w w' → w'.cell? ⟨g, o + sp, none⟩ = some (.int .i64 cs) := fun w' x => by rw [hcs]; exact x.cell (HC.out.c sp hsp)
            have HCS := Lib.hid hcs
            have hsp' : (sp : Int) < (T.n : Int) := by omega
            clear hsn hsv hcs
            go_upto_region 10 with (go_at_call 165; refine hFi.mono ?_; rintro e w5 ⟨rfl, hx5⟩; have hx45 : Ext w4 w5 := hx5)
            refine boxed1 (w := w5) (G := fun x => Code.wp _ _ _ _ x) ?_
            intro w6 hx6 hs6 ⟨l6, c6, _, _⟩
            have hx46 := hx45.trans hx6
            have hx16 := hx14.trans hx46
            have hxw6 := hxw4.trans hx46
            have hx66 : Ext w6 w6 := Ext.refl _
            clear hs6 hFi
            by_cases hgt : cs < (si : Int) + 1
            · have d1 : decide (cs < (si : Int) + 1) = true := decide_eq_true hgt
              go_quiet (fail)
              have hq := hxw6.drewN nq
              go_wp2_with fail
              go_ret
              refine ⟨false, rfl, ⟨fun h => (by cases h), fun h => ?_⟩, hq⟩
              exfalso
              have h9 := h (k, i) ⟨hlt, hie⟩ (by rw [HCK.out]; exact hli') HKD.out.symm
              rw [← HSN.out] at h9
              dsimp only at h9
              rw [← HCS.out] at h9
              omega
            · have d1 : decide (cs < (si : Int) + 1) = false := decide_eq_false hgt
              go_quiet (fail)
              have hq := hx16.drewN nq
              go_wp2_with fail
              go_roundg (ck - (i + 1))
              case rel => exact ⟨i + 1, by omega, rfl, by go_num, hq, fun x hx h1 h2 h4 => by
                by_cases e : x = (k, i)
                · subst e
                  rw [← HSN.out]
                  dsimp only
                  rw [← HCS.out]; omega
                · refine HA2.out x hx ?_ h2 h4
                  rcases h1 with h1 | ⟨h1, h5⟩
                  · exact .inl h1
                  · refine .inr ⟨h1, ?_⟩
                    have h6 : x.2 ≠ i := fun h7 => e (Prod.ext h1 h7)
                    omega⟩
              case measure => omega
          · have d1 : (kd == 3) = false := by simpa using h3
            go_wp2_with fail
            go_roundg (ck - (i + 1))
            case rel => exact ⟨i + 1, by omega, rfl, by go_num, hx14, fun x hx h1 h2 h4 => by
              by_cases e : x = (k, i)
              · subst e
                exact absurd (HKD.out.trans h4) h3
              · refine HA2.out x hx ?_ h2 h4
                rcases h1 with h1 | ⟨h1, h5⟩
                · exact .inl h1
                · refine .inr ⟨h1, ?_⟩
                  have h6 : x.2 ≠ i := fun h7 => e (Prod.ext h1 h7)
                  omega⟩
            case measure => omega
        · obtain rfl : i = ck := by omega
          go_wp2_with fail
          go_roundg (T.n - (k + 1))
          case rel => exact ⟨k + 1, by omega, rfl, by go_num, hxi, fun x hx h1 h2 => HA2.out x hx (by
            rcases Nat.lt_or_ge x.1 k with h | h
            · exact .inl h
            · have e : x.1 = k := by omega
              refine .inr ⟨e, ?_⟩
              rw [e, HCK.out] at h2; omega) h2⟩
          case measure => omega
    · obtain rfl : k = T.n := by omega
      go_wp2_with fail
      go_ret
      exact ⟨true, rfl, ⟨fun _ x hx => HA.out x hx hx.1, fun _ => rfl⟩, hxw⟩
set_option maxRecDepth 100000 in
set_option maxHeartbeats 1000000 in
theorem ris23_any (w : World) (T : TM) (hT : T.At w) (hV : T.toTr.Valid) (a : Option Addr) (g o n cap : Nat) (v : Nat → Int) (hC : NumAt w n a g o v) :
    Calls Tryz.prog 93 #[T.val, .slice a n cap] w (BoolPost (T.toTr.IsCut n v) w) := by
  have HC1 := Lib.hid (fun W (h : Ext w W) => rcut12_any W T (hT.ext h) a g o n cap v (hC.ext h))
  have HC2 := Lib.hid (fun W (h : Ext w W) (hn : n = T.n) (hR : T.toTr.InR T.n v) => (show Calls Tryz.prog 166 #[T.val, .slice a n cap] W (BoolPost (T.toTr.ClC v) W) from by
    subst hn; exact rcon12_any W T (hT.ext h) hV a g o cap v (hC.ext h) hR))
  have HV := Lib.hid hV
  simp only [TM.val] at HC1 HC2 ⊢
  clear hT hC hV
  go_enter Tryz.func93, Tryz.ntmps93
  go_upto_region 1 with fail
  refine boxed1 (w := w) (G := fun x => Code.wp _ _ _ _ x) ?_
  intro w1 hx1 hs1 ⟨l0, c0, _, _⟩
  have hx11 : Ext w1 w1 := Ext.refl _
  clear hs1
  go_wp2_with fail
  go_at_call 117
  refine (HC1.out w1 hx1).mono ?_
  rintro e w2 ⟨b, rfl, hb, hx2⟩
  have HB := Lib.hid hb
  have hxw2 := hx1.trans hx2
  clear hb
  cases b with
  | false =>
    go_wp2_with fail
    go_ret
    exact ⟨false, rfl, ⟨fun h => (by cases h), fun h => absurd (HB.out.2 ⟨h.1.2, h.2.1⟩) (by decide)⟩, hxw2⟩
  | true =>
    have HR := Lib.hid (HB.out.1 (by first | rfl | trivial))
    have hc2 := HC2.out w2 hxw2 HR.out.1 HR.out.2
    go_wp2_with fail
    go_at_call 166
    refine hc2.mono ?_
    rintro e w3 ⟨b, rfl, hb, hx3⟩
    have HB2 := Lib.hid hb
    have hxw3 := hxw2.trans hx3
    clear hb hc2
    go_wp2_with fail
    go_ret
    exact ⟨b, rfl, ⟨fun h => ⟨⟨HV.out, HR.out.1⟩, HR.out.2, HB2.out.1 h⟩, fun h => HB2.out.2 h.2.2⟩, hxw3⟩
set_option maxRecDepth 100000 in
set_option maxHeartbeats 1000000 in
theorem rcut39_any (w : World) (T : TM) (hT : T.At w) (hV : T.toTr.Valid) (a : Option Addr) (g o n cap : Nat) (v : Nat → Int) (hC : NumAt w n a g o v) :
    Calls Tryz.prog 30 #[T.val, .slice a n cap] w (BoolPost (T.toTr.IsCut n v) w) := by
  have HC1 := Lib.hid (fun W (h : Ext w W) => ris23_any W T (hT.ext h) hV a g o n cap v (hC.ext h))
  simp only [TM.val] at HC1 ⊢
  clear hT hC hV
  go_enter Tryz.func30, Tryz.ntmps30
  go_upto_region 1 with fail
  refine boxed1 (w := w) (G := fun x => Code.wp _ _ _ _ x) ?_
  intro w1 hx1 hs1 ⟨l0, c0, _, _⟩
  have hx11 : Ext w1 w1 := Ext.refl _
  clear hs1
  go_wp2_with fail
  go_at_call 93
  refine (HC1.out w1 hx1).mono ?_
  rintro e w2 ⟨b, rfl, hb, hx2⟩
  have HB := Lib.hid hb
  have hxw2 := hx1.trans hx2
  clear hb
  go_wp2_with fail
  go_ret
  exact ⟨b, rfl, HB.out, hxw2⟩
end Go.Proofs.YtnknkkmdbnaglaaGreat

namespace Go.Proofs.YtnknkkmdbnaglaaGreat
open Go.RowKit Go.Shelf

def trmCells (l : List Trm) : List Value := l.flatMap fun x => [.int .i64 x.1, .string x.2.1, .int .i64 x.2.2]
theorem trmCells_len (l : List Trm) : (trmCells l).length = l.length * 3 := by
  induction l with
  | nil => rfl
  | cons x l ih => simp only [trmCells, List.flatMap_cons, List.length_append, List.length_cons, List.length_nil] at ih ⊢; omega
theorem trmCells_snoc (l : List Trm) (t : Trm) : trmCells (l ++ [t]) = trmCells l ++ [.int .i64 t.1, .string t.2.1, .int .i64 t.2.2] := by simp [trmCells]
theorem trmCells_append (l m : List Trm) : trmCells (l ++ m) = trmCells l ++ trmCells m := by simp [trmCells]
theorem trmCells_get : ∀ (l : List Trm) (i : Nat) (x : Trm), l[i]? = some x → (trmCells l)[i * 3]? = some (.int .i64 x.1) ∧ (trmCells l)[i * 3 + 1]? = some (.string x.2.1) ∧ (trmCells l)[i * 3 + 2]? = some (.int .i64 x.2.2)
  | [], i, x, h => by simp at h
  | y :: l, 0, x, h => by
    simp at h
    subst h
    exact ⟨rfl, rfl, rfl⟩
  | y :: l, i + 1, x, h => by
    obtain ⟨h1, h2, h3⟩ := trmCells_get l i x (by simpa using h)
    have e0 : (i + 1) * 3 = i * 3 + 1 + 1 + 1 := by omega
    have e1 : (i + 1) * 3 + 1 = i * 3 + 1 + 1 + 1 + 1 := by omega
    have e2 : (i + 1) * 3 + 2 = i * 3 + 2 + 1 + 1 + 1 := by omega
    rw [e2, e1, e0]
    exact ⟨h1, h2, h3⟩
theorem trmCells_one (l : List Trm) : ∀ u ∈ trmCells l, u.oneCell' = true := by
  intro u hu
  unfold trmCells at hu
  obtain ⟨t, _, h⟩ := List.mem_flatMap.1 hu
  simp at h
  rcases h with rfl | rfl | rfl <;> rfl
theorem infoTerm : (Tryz.prog.info? 62).map (fun i => (i.zero, i.size, i.bytes)) = some (some (.agg #[.int .i64 0, .string ⟨#[]⟩, .int .i64 0]), 3, 32) := by kernel_rfl
/-- what may lie in memory -/
def trmOk (l : List Trm) : Prop := ∀ x ∈ l, okI x.1 ∧ x.2.1.size ≤ 9223372036854775807 ∧ okI x.2.2
abbrev TmOwn (w : World) (base : Nat) (v : Value) (l : List Trm) : Prop := Que w base 3 v l.length (trmCells l)
theorem TmOwn.tmd {w : World} {base : Nat} {v : Value} {l : List Trm} (h : TmOwn w base v l) (hn : l.length ≤ 100000) (hk : trmOk l) : ∃ D : TmD, v = .slice D.s.a D.s.n D.s.c ∧ D.l = l ∧ D.At w := by
  have hl : ∀ a g off cap, (TmD.l ⟨⟨a, l.length, cap, g, off⟩, fun i => (l.getD i (0, ⟨#[]⟩, 0)).1, fun i => (l.getD i (0, ⟨#[]⟩, 0)).2.1, fun i => (l.getD i (0, ⟨#[]⟩, 0)).2.2⟩) = l := fun a g off cap => by
    apply List.ext_getElem?
    intro i
    by_cases hi : i < l.length
    · rw [TmD.get _ hi]
      simp [TmD.at, List.getD_eq_getElem?_getD, List.getElem?_eq_getElem hi]
    · rw [List.getElem?_eq_none (by rw [TmD.len]; exact Nat.le_of_not_lt hi), List.getElem?_eq_none (Nat.le_of_not_lt hi)]
  have hg : ∀ i, i < l.length → l[i]? = some (l.getD i (0, ⟨#[]⟩, 0)) ∧ l.getD i (0, ⟨#[]⟩, 0) ∈ l := fun i hi => by
    rw [List.getD_eq_getElem?_getD, List.getElem?_eq_getElem hi]
    exact ⟨rfl, List.getElem_mem hi⟩
  rcases h.val with ⟨ao, hv, h0, ha⟩ | ⟨g, off, cap, hv, h1, h2, h3, h4, h5, h6⟩
  · refine ⟨_, ?_, hl ao 0 0 0, ⟨by show l.length ≤ _; omega, fun h => ?_, fun h => ?_, fun i hi => ?_, fun i hi => ?_, fun i hi => ?_, fun i hi => ?_, fun i hi => ?_, fun i hi => ?_⟩⟩
    · rw [hv, h0]
    all_goals (first | (have h' : 0 < l.length := h; omega) | (have h' : i < l.length := hi; omega))
  · have c : ∀ j u, (trmCells l)[j]? = some u → w.cell? ⟨g, off + j, none⟩ = some u := fun j u hu => by
      have hj := (List.getElem?_eq_some_iff.1 hu).1
      rw [trmCells_len] at hj
      exact (h5 j hj).trans hu
    refine ⟨_, hv, hl (some ⟨g, off, none⟩) g off cap, ⟨by show l.length ≤ _; omega, fun _ => rfl, fun _ => h2, fun i hi => ?_, fun i hi => ?_, fun i hi => ?_, fun i hi => (hk _ (hg i hi).2).1, fun i hi => (hk _ (hg i hi).2).2.1, fun i hi => (hk _ (hg i hi).2).2.2⟩⟩
    · exact c _ _ (trmCells_get l i _ (hg i hi).1).1
    · show w.cell? ⟨g, off + i * 3 + 1, none⟩ = _
      rw [Nat.add_assoc]; exact c _ _ (trmCells_get l i _ (hg i hi).1).2.1
    · show w.cell? ⟨g, off + i * 3 + 2, none⟩ = _
      rw [Nat.add_assoc]; exact c _ _ (trmCells_get l i _ (hg i hi).1).2.2
theorem TmD.At.ok {D : TmD} {w : World} (h : D.At w) : trmOk D.l := by
  intro x hx
  obtain ⟨i, hi, rfl⟩ := TmD.mem.1 hx
  exact ⟨h.o0 i hi, h.o1 i hi, h.o2 i hi⟩
theorem trm_one (a : Int) (b : ByteArray) (c : Int) : ∀ u ∈ [Value.int .i64 a, .string b, .int .i64 c], u.oneCell' = true := by
  intro u hu
  simp at hu
  rcases hu with rfl | rfl | rfl <;> rfl
theorem TmD.At.cells {D : TmD} {w : World} (h : D.At w) (j : Nat) (u : Value) (hu : (trmCells D.l)[j]? = some u) : w.cell? ⟨D.s.b, D.s.o + j, none⟩ = some u := by
  have hj := (List.getElem?_eq_some_iff.1 hu).1
  rw [trmCells_len, D.len] at hj
  have hi : j / 3 < D.s.n := by omega
  obtain ⟨g0, g1, g2⟩ := trmCells_get D.l (j / 3) _ (D.get hi)
  have e : j = j / 3 * 3 ∨ j = j / 3 * 3 + 1 ∨ j = j / 3 * 3 + 2 := by omega
  rcases e with e | e | e
  · rw [e] at hu ⊢
    rw [g0] at hu; cases hu
    exact h.c0 _ hi
  · rw [e] at hu ⊢
    rw [g1] at hu; cases hu
    rw [← Nat.add_assoc]; exact h.c1 _ hi
  · rw [e] at hu ⊢
    rw [g2] at hu; cases hu
    rw [← Nat.add_assoc]; exact h.c2 _ hi
theorem TmD.At.src {D : TmD} {w : World} (h : D.At w) : Src Tryz.prog 3 25 (.slice D.s.a D.s.n D.s.c) D.s.n (trmCells D.l) w := by
  by_cases h0 : 0 < D.s.n
  · rw [h.ha h0]
    refine Src.ofSlice w Tryz.underlying25 ⟨D.s.b, D.s.o, none⟩ D.s.n D.s.c _ (by rw [trmCells_len, D.len]) (fun j u hu => ?_) (trmCells_one _)
    rw [Addr.add_lit]; exact h.cells j u hu
  · have h1 : D.s.n = 0 := by omega
    have h2 : D.l = [] := List.eq_nil_of_length_eq_zero (by rw [D.len, h1])
    rw [h1, h2]
    cases D.s.a with
    | none => exact Src.ofNil w Tryz.underlying25 _
    | some a => exact Src.ofSlice w Tryz.underlying25 a 0 _ [] (by simp) (by intro _ _ h'; simp at h') (by intro u hu; cases hu)
end Go.Proofs.YtnknkkmdbnaglaaGreat

namespace Go.Proofs.YtnknkkmdbnaglaaGreat
open Go.RowKit

/-- the opposite terms -/
def oppL (l : List Trm) : List Trm := l.map fun x => (x.1, x.2.1, - x.2.2)
/-- terms times a number -/
def timL (k : Int) (l : List Trm) : List Trm := l.map fun x => (x.1, x.2.1, x.2.2 * k)
theorem Tr.sumAt_cons (T : Tr) (x : Trm) (l : List Trm) (c : Nat → Nat) : T.sumAt (x :: l) c = x.2.2 * T.st (T.tedg x).1 (T.tedg x).2.1 (c (T.tedg x).1) + T.sumAt l c := rfl
theorem Tr.wt_cons (T : Tr) (x : Trm) (l : List Trm) (p i : Nat) : T.wt (x :: l) p i = (if (T.tedg x).1 = p then x.2.2 * (T.st p (T.tedg x).2.1 (i + 1) - T.st p (T.tedg x).2.1 i) else 0) + T.wt l p i := rfl
theorem Tr.sumAt_opp (T : Tr) (c : Nat → Nat) : ∀ l : List Trm, T.sumAt (oppL l) c = - T.sumAt l c
  | [] => rfl
  | x :: l => by
    have ih := T.sumAt_opp c l
    have e : oppL (x :: l) = (x.1, x.2.1, - x.2.2) :: oppL l := rfl
    rw [e, Tr.sumAt_cons, Tr.sumAt_cons, ih, Int.neg_add]
    congr 1
    exact Int.neg_mul _ _
theorem Tr.wt_opp (T : Tr) (p i : Nat) : ∀ l : List Trm, T.wt (oppL l) p i = - T.wt l p i
  | [] => rfl
  | x :: l => by
    have ih := T.wt_opp p i l
    have e : oppL (x :: l) = (x.1, x.2.1, - x.2.2) :: oppL l := rfl
    have e1 : (T.tedg (x.1, x.2.1, - x.2.2)).1 = (T.tedg x).1 := rfl
    have e2 : (T.tedg (x.1, x.2.1, - x.2.2)).2.1 = (T.tedg x).2.1 := rfl
    rw [e, Tr.wt_cons, Tr.wt_cons, ih, Int.neg_add, e1, e2]
    congr 1
    split
    · exact Int.neg_mul _ _
    · rfl
theorem Tr.sumAt_tim (T : Tr) (k : Int) (c : Nat → Nat) : ∀ l : List Trm, T.sumAt (timL k l) c = k * T.sumAt l c
  | [] => by show (0 : Int) = k * 0; simp
  | x :: l => by
    have ih := T.sumAt_tim k c l
    have e : timL k (x :: l) = (x.1, x.2.1, x.2.2 * k) :: timL k l := rfl
    rw [e, Tr.sumAt_cons, Tr.sumAt_cons, ih, Int.mul_add]
    congr 1
    show x.2.2 * k * _ = k * (x.2.2 * _)
    rw [Int.mul_comm x.2.2 k, Int.mul_assoc]; rfl
theorem Tr.sumAt_append (T : Tr) (c : Nat → Nat) (m : List Trm) : ∀ l : List Trm, T.sumAt (l ++ m) c = T.sumAt l c + T.sumAt m c
  | [] => by show T.sumAt m c = 0 + T.sumAt m c; omega
  | x :: l => by
    rw [List.cons_append, Tr.sumAt_cons, Tr.sumAt_cons, T.sumAt_append c m l, Int.add_assoc]
theorem iabs_neg (x : Int) : iabs (- x) = iabs x := by unfold iabs; split <;> split <;> omega
theorem Tr.SumOk.opp {T : Tr} {l : List Trm} (h : T.SumOk l) : T.SumOk (oppL l) := by
  refine ⟨h.v, by unfold oppL; rw [List.length_map]; exact h.len, fun x hx => ?_, fun x hx => ?_, h.few, ?_⟩
  · obtain ⟨y, hy, rfl⟩ := List.mem_map.1 hx
    exact h.known y hy
  · obtain ⟨y, hy, rfl⟩ := List.mem_map.1 hx
    have := h.coef y hy
    show -1048576 ≤ - y.2.2 ∧ - y.2.2 ≤ 1048576
    omega
  · have e : T.mass (oppL l) T.n 0 = T.mass l T.n 0 := by
      unfold Tr.mass
      rw [Tr.sumAt_opp, iabs_neg]
      congr 1
      congr 1
      refine isum_congr fun p hp => isum_congr fun i hi => ?_
      rw [Tr.wt_opp, iabs_neg]
    rw [e]; exact h.mass
theorem Tr.wfn_opp {T : Tr} {l : List Trm} : T.wfn (oppL l) = fun v => - T.wfn l v := by
  funext v
  unfold Tr.wfn
  split
  · rw [Tr.wt_opp]
  · rfl
theorem Tr.SumOk.small {T : Tr} {l : List Trm} (h : T.SumOk l) {c : Nat → Nat} (hc : ∀ p, p < T.n → c p ≤ T.en p) : -562949953421312 ≤ T.sumAt l c ∧ T.sumAt l c ≤ 562949953421312 := by
  have h1 := (Tr.wfn_ok h).part (T.inCut c) (Nat.le_refl _)
  rw [Tr.atC_wsum hc fun x hx => Tr.inCut_iff hx, ← Tr.sumAt_atC h.known hc] at h1
  exact h1
theorem trmOk_tim {l : List Trm} (h : trmOk l) (hc : coefs l) {k : Int} (h1 : -128 ≤ k) (h2 : k ≤ 127) : trmOk (timL k l) := by
  intro x hx
  obtain ⟨y, hy, rfl⟩ := List.mem_map.1 hx
  refine ⟨(h y hy).1, (h y hy).2.1, ?_⟩
  have h3 := mul_abs (a := y.2.2) (b := k) (A := 1048576) (B := 128) (by have := hc y hy; omega) (by omega)
  show okI (y.2.2 * k)
  unfold okI
  omega
theorem trmOk_opp {l : List Trm} (h : trmOk l) (hc : coefs l) : trmOk (oppL l) := by
  intro x hx
  obtain ⟨y, hy, rfl⟩ := List.mem_map.1 hx
  refine ⟨(h y hy).1, (h y hy).2.1, ?_⟩
  have := hc y hy
  show okI (- y.2.2)
  unfold okI
  omega
theorem trmOk_append {l m : List Trm} (h : trmOk l) (k : trmOk m) : trmOk (l ++ m) := by
  intro x hx
  rcases List.mem_append.1 hx with hx | hx
  · exact h x hx
  · exact k x hx
end Go.Proofs.YtnknkkmdbnaglaaGreat

namespace Go.Proofs.YtnknkkmdbnaglaaGreat
open Go.RowKit Go.Shelf

def RoppPost (l : List Trm) (w : World) (e : Ending) (w' : World) : Prop := Ext w w' ∧ ∃ v, e = .returned v ∧ TmOwn w' w.heap.size v l
set_option maxRecDepth 100000 in
set_option maxHeartbeats 4000000 in
theorem ropp_any (w : World) (D : TmD) (hD : D.At w) (hc : coefs D.l) (hl : D.l.length ≤ 64) : Calls Tryz.prog 35 #[.slice D.s.a D.s.n D.s.c] w (RoppPost (oppL D.l) w) := by
  obtain ⟨i1, hi1, hz0, hz1, hz2⟩ := info_parts infoTerm
  have HD := Lib.hid hD
  have HCF := Lib.hid hc
  unfold RoppPost
  obtain ⟨da, hda⟩ : ∃ z, z = D.s.a := ⟨_, rfl⟩
  have HDA := Lib.hid hda
  obtain ⟨n, hn⟩ : ∃ n, n = D.s.n := ⟨_, rfl⟩
  have HN := Lib.hid hn
  have hn64 : n ≤ 64 := by rw [D.len] at hl; omega
  have HLN := Lib.hid (show D.l.length = n from by rw [D.len, hn])
  rw [← hda, ← hn]
  clear hD hc hl hda hn
  have hww : Ext w w := Ext.refl _
  go_enter Tryz.func35, Tryz.ntmps35
  go_wp2_with fail
  go_loopg [3, 4] n (fun gg v3 v4 wr => ∃ k : Nat, k ≤ n ∧ gg = n - k ∧ v4 = .int .i64 k ∧ wr.ownsRow w.heap.size 62 3 v3 k (trmCells (oppL (D.l.take k))) ∧ Ext w wr)
  case atStart => exact ⟨0, by omega, rfl, rfl, World.ownsRow_nil _ _ _ _, hww⟩
  case round =>
    obtain ⟨k, hk, rfl, rfl, hq, hxr⟩ := hrel
    obtain ⟨a6, c6, rfl⟩ := own_form hq
    have HQ := Lib.hid hq
    clear hq
    by_cases hlt : k < n
    · have hlt' : (k : Int) < (n : Int) := by omega
      have hjs : k < D.s.n := by rw [← HN.out]; exact hlt
      obtain rfl : da = some ⟨D.s.b, D.s.o, none⟩ := by rw [HDA.out]; exact HD.out.ha (by omega)
      have hdb : ∀ w', Ext w w' → D.s.b < w'.heap.size := fun w' x => Nat.lt_of_lt_of_le (HD.out.hb (by omega)) x.le
      obtain ⟨pp, hpp⟩ : ∃ z, z = D.p k := ⟨_, rfl⟩
      obtain ⟨nm, hnm⟩ : ∃ z, z = D.nm k := ⟨_, rfl⟩
      obtain ⟨cc, hcc⟩ : ∃ z, z = D.c k := ⟨_, rfl⟩
      have q0 : ∀ w', Ext w w' → w'.cell? ⟨D.s.b, D.s.o + k * 3, none⟩ = some (.int .i64 pp) := fun w' x => by rw [hpp]; exact (HD.out.ext x).c0 k hjs
      have q1 : ∀ w', Ext w w' → w'.cell? ⟨D.s.b, D.s.o + k * 3 + 1, none⟩ = some (.string nm) := fun w' x => by rw [hnm]; exact (HD.out.ext x).c1 k hjs
      have q2 : ∀ w', Ext w w' → w'.cell? ⟨D.s.b, D.s.o + k * 3 + 2, none⟩ = some (.int .i64 cc) := fun w' x => by rw [hcc]; exact (HD.out.ext x).c2 k hjs
      have hcb := HCF.out (D.at k) (TmD.mem.2 ⟨k, hjs, rfl⟩)
      have e22 : (D.at k).2.2 = cc := hcc.symm
      rw [e22] at hcb
      have hw1 : IntKind.i64.wrap (- cc) = - cc := IntWalk.i64_in _ (by omega)
      have HNX := Lib.hid (show trmCells (oppL (D.l.take (k + 1))) = trmCells (oppL (D.l.take k)) ++ [.int .i64 pp, .string nm, .int .i64 (- cc)] from by
        rw [List.take_add_one, D.get hjs]
        show trmCells (oppL (D.l.take k ++ [D.at k])) = _
        have : oppL (D.l.take k ++ [D.at k]) = oppL (D.l.take k) ++ [(pp, nm, - cc)] := by simp [oppL, TmD.at, hpp, hnm, hcc]
        rw [this, trmCells_snoc])
      clear hpp hnm hcc e22
      go_upto_region 5 with fail
      refine wp_region_held_drew (S := fun w' => Ext w w') (by kernel_rfl) hxr.drew (fun hHeld => ?_)
      refine heldTake 0 (v := ?_) rfl (by kernel_rfl) (by kernel_rfl) (by kernel_rfl) (fun _ _ _ h => h) (Or.inl ⟨by rfl, ?_⟩) (by assumption) ?_
      rotate_left
      · (intro w' hSw; (try dsimp only at hSw); go_simp; try with_reducible rfl)
      try simp only [Act.put, List.setIfInBounds_toArray, List.set_cons_zero, List.set_cons_succ]
      refine heldTake 1 (v := ?_) rfl (by kernel_rfl) (by kernel_rfl) (by kernel_rfl) (fun _ _ _ h => h) (Or.inl ⟨by rfl, ?_⟩) (by assumption) ?_
      rotate_left
      · (intro w' hSw; (try dsimp only at hSw); go_simp; try with_reducible rfl)
      try simp only [Act.put, List.setIfInBounds_toArray, List.set_cons_zero, List.set_cons_succ]
      refine heldTake 2 (v := ?_) rfl (by kernel_rfl) (by kernel_rfl) (by kernel_rfl) (fun _ _ _ h => h) (Or.inl ⟨by rfl, ?_⟩) (by assumption) ?_
      rotate_left
      · (intro w' hSw; (try dsimp only at hSw); go_simp; try with_reducible rfl)
      try simp only [Act.put, List.setIfInBounds_toArray, List.set_cons_zero, List.set_cons_succ]
      refine heldTake 3 (v := ?_) rfl (by kernel_rfl) (by kernel_rfl) (by kernel_rfl) (fun _ _ _ h => h) (Or.inl ⟨by rfl, ?_⟩) (by assumption) ?_
      rotate_left
      · (intro w' hSw; (try dsimp only at hSw); go_simp; try with_reducible rfl)
      try simp only [Act.put, List.setIfInBounds_toArray, List.set_cons_zero, List.set_cons_succ]
      refine heldTake 4 (v := ?_) rfl (by kernel_rfl) (by kernel_rfl) (by kernel_rfl) (fun _ _ _ h => h) (Or.inl ⟨by rfl, ?_⟩) (by assumption) ?_
      rotate_left
      · (intro w' hSw; (try dsimp only at hSw); go_simp; try with_reducible rfl)
      try simp only [Act.put, List.setIfInBounds_toArray, List.set_cons_zero, List.set_cons_succ]
      refine heldTake 5 (v := ?_) rfl (by kernel_rfl) (by kernel_rfl) (by kernel_rfl) (fun _ _ _ h => h) (Or.inl ⟨by rfl, ?_⟩) (by assumption) ?_
      rotate_left
      · (intro w' hSw; (try dsimp only at hSw); go_simp; try with_reducible rfl)
      try simp only [Act.put, List.setIfInBounds_toArray, List.set_cons_zero, List.set_cons_succ]
      refine heldTake 6 (v := ?_) rfl (by kernel_rfl) (by kernel_rfl) (by kernel_rfl) (fun _ _ _ h => h) (Or.inl ⟨by rfl, ?_⟩) (by assumption) ?_
      rotate_left
      · (intro w' hSw; (try dsimp only at hSw); go_simp; try with_reducible rfl)
      try simp only [Act.put, List.setIfInBounds_toArray, List.set_cons_zero, List.set_cons_succ]
      refine heldTake 7 (v := ?_) rfl (by kernel_rfl) (by kernel_rfl) (by kernel_rfl) (fun _ _ _ h => h) (Or.inl ⟨by rfl, ?_⟩) (by assumption) ?_
      rotate_left
      · (intro w' hSw; (try dsimp only at hSw); go_simp; try with_reducible rfl)
      try simp only [Act.put, List.setIfInBounds_toArray, List.set_cons_zero, List.set_cons_succ]
      refine heldTake 8 (v := ?_) rfl (by kernel_rfl) (by kernel_rfl) (by kernel_rfl) (fun _ _ _ h => h) (Or.inl ⟨by rfl, ?_⟩) (by assumption) ?_
      rotate_left
      · (intro w' hSw; (try dsimp only at hSw); go_simp; try with_reducible rfl)
      try simp only [Act.put, List.setIfInBounds_toArray, List.set_cons_zero, List.set_cons_succ]
      refine heldTake 9 (v := ?_) rfl (by kernel_rfl) (by kernel_rfl) (by kernel_rfl) (fun _ _ _ h => h) (Or.inl ⟨by rfl, ?_⟩) (by assumption) ?_
      rotate_left
      · (intro w' hSw; (try dsimp only at hSw); go_simp; try with_reducible rfl)
      try simp only [Act.put, List.setIfInBounds_toArray, List.set_cons_zero, List.set_cons_succ]
      refine heldTake 10 (v := ?_) rfl (by kernel_rfl) (by kernel_rfl) (by kernel_rfl) (fun _ _ _ h => h) (Or.inl ⟨by rfl, ?_⟩) (by assumption) ?_
      rotate_left
      · (intro w' hSw; (try dsimp only at hSw); go_simp; try with_reducible rfl)
      try simp only [Act.put, List.setIfInBounds_toArray, List.set_cons_zero, List.set_cons_succ]
      refine heldTake 11 (v := ?_) rfl (by kernel_rfl) (by kernel_rfl) (by kernel_rfl) (fun _ _ _ h => h) (Or.inl ⟨by rfl, ?_⟩) (by assumption) ?_
      rotate_left
      · (intro w' hSw; (try dsimp only at hSw); go_simp; try with_reducible rfl)
      try simp only [Act.put, List.setIfInBounds_toArray, List.set_cons_zero, List.set_cons_succ]
      refine heldTake 12 (v := ?_) rfl (by kernel_rfl) (by kernel_rfl) (by kernel_rfl) (fun _ _ _ h => h) (Or.inl ⟨by rfl, ?_⟩) (by assumption) ?_
      rotate_left
      · (intro w' hSw; (try dsimp only at hSw); go_simp; try with_reducible rfl)
      try simp only [Act.put, List.setIfInBounds_toArray, List.set_cons_zero, List.set_cons_succ]
      refine heldTake 13 (v := ?_) rfl (by kernel_rfl) (by kernel_rfl) (by kernel_rfl) (fun _ _ _ h => h) (Or.inl ⟨by rfl, ?_⟩) (by assumption) ?_
      rotate_left
      · (intro w' hSw; (try dsimp only at hSw); go_simp; try with_reducible rfl)
      try simp only [Act.put, List.setIfInBounds_toArray, List.set_cons_zero, List.set_cons_succ]
      refine heldTake 14 (v := ?_) rfl (by kernel_rfl) (by kernel_rfl) (by kernel_rfl) (fun _ _ _ h => h) (Or.inl ⟨by rfl, ?_⟩) (by assumption) ?_
      rotate_left
      · (intro w' hSw; (try dsimp only at hSw); go_simp; try with_reducible rfl)
      try simp only [Act.put, List.setIfInBounds_toArray, List.set_cons_zero, List.set_cons_succ]
      refine heldTake 15 (v := ?_) rfl (by kernel_rfl) (by kernel_rfl) (by kernel_rfl) (fun _ _ _ h => h) (Or.inl ⟨by rfl, ?_⟩) (by assumption) ?_
      rotate_left
      · (intro w' hSw; (try dsimp only at hSw); go_simp; try with_reducible rfl)
      try simp only [Act.put, List.setIfInBounds_toArray, List.set_cons_zero, List.set_cons_succ]
      refine heldTake 16 (v := ?_) rfl (by kernel_rfl) (by kernel_rfl) (by kernel_rfl) (fun _ _ _ h => h) (Or.inl ⟨by rfl, ?_⟩) (by assumption) ?_
      rotate_left
      · (intro w' hSw; (try dsimp only at hSw); go_simp; try with_reducible rfl)
      try simp only [Act.put, List.setIfInBounds_toArray, List.set_cons_zero, List.set_cons_succ]
      refine heldTake 17 (v := ?_) rfl (by kernel_rfl) (by kernel_rfl) (by kernel_rfl) (fun _ _ _ h => h) (Or.inl ⟨by rfl, ?_⟩) (by assumption) ?_
      rotate_left
      · (intro w' hSw; (try dsimp only at hSw); go_simp; try with_reducible rfl)
      try simp only [Act.put, List.setIfInBounds_toArray, List.set_cons_zero, List.set_cons_succ]
      refine wpAnyH_ready (rs := [18]) (by kernel_rfl) (by simp) ?_
      refine AllReadyH.cons rfl (fun K hK => ?_) AllReadyH.nil
      go_simp
      refine hK.out _ _ ?_ (fun hHeld3 => ?_)
      · exact hxr.drew.alloc' _
      clear hK K
      try simp only [Act.put, List.setIfInBounds_toArray, List.set_cons_zero, List.set_cons_succ]
      refine wpAnyH_ready (rs := [19]) (by kernel_rfl) (by simp) ?_
      refine AllReadyH.cons rfl (fun K hK => ?_) AllReadyH.nil
      refine step_append_lies _ (by exact rfl) (.tmp 11) (.tmp 29) 25 (by exact rfl) w.heap.size 62 i1 (.agg #[.int .i64 0, .string ⟨#[]⟩, .int .i64 0]) 3 32 Tryz.underlying25 hi1 hz0 hz1 hz2 rfl (by decide) (.slice a6 k c6) k (trmCells (oppL (D.l.take k))) (by exact rfl) (by exact own_ext HQ.out ((Ext.refl wr).drew.alloc' _)) ⟨wr.heap.size, 0, none⟩ 1 1 [.int .i64 pp, .string nm, .int .i64 (- cc)] (by exact rfl) rfl (by intro j u hj; exact news_ok wr [_, _, _] _ j u hj) (trm_one _ _ _) (by decide) (by unfold maxLen; omega) (by omega) (by have := hxr.le; simp; omega) _ rfl ?_
      rintro g8 c8 w8 hown8 hg8 hor8 hlt8
      have hx8 : Ext w w8 := (hxr.alloc' (.cells #[.int .i64 pp, .string nm, .int .i64 (- cc)] 62)).drew.below.grown hg8 (by have := hxr.le; simp; omega) (fun g e => (own_lt HQ.out g e).1)
      have HO8 := Lib.hid (show w8.ownsRow w.heap.size 62 3 (.slice (some ⟨g8, 0, none⟩) (k + 1) c8) (k + 1) (trmCells (oppL (D.l.take (k + 1)))) from by rw [HNX.out]; exact hown8)
      clear hown8 hg8 hor8 hlt8
      refine hK.out _ _ ?_ (fun hHeld4 => ?_)
      · exact hx8
      clear hK K
      try simp only [Act.put, List.setIfInBounds_toArray]
      refine wpAnyH_ready (rs := [20]) (by kernel_rfl) (by simp) ?_
      refine AllReadyH.cons rfl (fun K hK => ?_) AllReadyH.nil
      go_simp
      refine hK.out _ _ ?_ (fun hHeld5 => ?_)
      · exact hx8
      clear hK K
      try simp only [Act.put, List.setIfInBounds_toArray, List.set_cons_zero, List.set_cons_succ]
      refine wpAnyH_done (by kernel_rfl) ?_ _
      clear hHeld hHeld3 hHeld4 hHeld5
      go_wp2_with fail
      go_roundg (n - (k + 1))
      case rel => exact ⟨k + 1, by omega, rfl, by go_num, HO8.out, hx8⟩
      case measure => omega
    · obtain rfl : k = n := by omega
      have HF := Lib.hid (show TmOwn wr w.heap.size (.slice a6 k c6) (oppL D.l) from by
        have h1 := Que.own HQ.out
        rw [List.take_of_length_le (by rw [HLN.out]; exact Nat.le_refl _)] at h1
        have e : (oppL D.l).length = k := by rw [← HLN.out]; simp [oppL]
        unfold TmOwn
        rw [e]; exact h1)
      go_wp2_with fail
      go_ret
      exact ⟨hxr, _, rfl, HF.out⟩
end Go.Proofs.YtnknkkmdbnaglaaGreat

namespace Go.Proofs.YtnknkkmdbnaglaaGreat
open Go.RowKit Go.Shelf

theorem growT_own {w : World} (n cap : Nat) (z : Array Value) (hz : z.size = 3) (hc : n ≤ cap) (hm : cap ≤ maxLen) : (w.drew.alloc (.cells (Builtin.zeroCells z n ++ Builtin.zeroCells z (cap - n)) 62)).ownsRow w.heap.size 62 3 (.slice (some ⟨w.heap.size, 0, none⟩) 0 cap) 0 [] := by
  refine ⟨rfl, .inr ⟨w.heap.size, cap, Builtin.zeroCells z n ++ Builtin.zeroCells z (cap - n), rfl, Nat.le_refl _, ?_, Nat.zero_le _, hm, ?_, by simp⟩⟩
  · show (w.heap.push _)[w.heap.size]? = _
    simp
  · rw [Array.size_append, size_zeroCells, size_zeroCells, hz, ← Nat.add_mul]
    congr 1; omega
set_option maxRecDepth 100000 in
set_option maxHeartbeats 1000000 in
theorem growT_any (n : Nat) (hn : n ≤ 1000000) (w : World) :
    Calls Tryz.prog 100 #[.slice none 0 0, .int .i64 n] w fun e w' => ∃ v, e = .returned v ∧ w'.ownsRow w.heap.size 62 3 v 0 [] ∧ Ext w w' := by
  obtain ⟨i1, hi1, hz0, hz1, hz2⟩ := info_parts infoTerm
  have d0 : decide ((n : Int) < 0) = false := decide_eq_false (by omega)
  by_cases h0 : n = 0
  · subst h0
    go_enter Tryz.func100, Tryz.ntmps100
    go_wp2_with fail
    go_ret
    exact ⟨_, rfl, World.ownsRow_nil _ _ _ _, Ext.refl _⟩
  · have d1 : decide ((0 : Int) < (n : Int)) = true := decide_eq_true (by omega)
    have hr := fun W => Lib.run_append_nil_zeros (P := Tryz.prog) W 25 3 25 62 i1 (.agg #[.int .i64 0, .string ⟨#[]⟩, .int .i64 0]) .i64 .i64 Tryz.underlying25 Tryz.underlying3 hi1 hz0 n (by omega) (by rw [hz1]; omega) (by omega) (by rw [hz2]; omega)
    go_enter Tryz.func100, Tryz.ntmps100
    go_wp2_with (at_builtin; refine Lib.wpList_append_run _ rfl _ _ 25 3 rfl (.slice none 0 0) (.int .i64 n) rfl rfl _ _ (hr _) ?_)
    go_ret
    exact ⟨_, rfl, growT_own n _ _ rfl (grownCap_ge _ _ _ _) (grownCap_le_maxLen _ _ _ _ (by unfold maxLen; omega)), (Ext.alloc _ _).drew⟩
def CatTPost (l : List Trm) (w : World) (e : Ending) (w' : World) : Prop := Ext w w' ∧ ∃ v, e = .returned v ∧ TmOwn w' w.heap.size v l
set_option maxRecDepth 100000 in
set_option maxHeartbeats 2000000 in
theorem catT_any (w : World) (D1 D2 : TmD) (h1 : D1.At w) (h2 : D2.At w) (n1 : D1.s.n ≤ 1000) (n2 : D2.s.n ≤ 1000) (g : Nat) (hg : Hold w g #[.slice D1.s.a D1.s.n D1.s.c, .slice D2.s.a D2.s.n D2.s.c]) :
    Calls Tryz.prog 36 #[.slice (some ⟨g, 0, none⟩) 2 2] w (CatTPost (D1.l ++ D2.l) w) := by
  obtain ⟨i1, hi1, hz0, hz1, hz2⟩ := info_parts infoTerm
  have H1 := Lib.hid h1
  have H2 := Lib.hid h2
  have hgl : ∀ w', Ext w w' → g < w'.heap.size := fun w' x => Nat.lt_of_lt_of_le hg.lt x.le
  have hg0 : ∀ w', Ext w w' → w'.cell? ⟨g, 0, none⟩ = some (.slice D1.s.a D1.s.n D1.s.c) := fun w' x => (Hold.ext hg x).cell0 0
  have hg1 : ∀ w', Ext w w' → w'.cell? ⟨g, 1, none⟩ = some (.slice D2.s.a D2.s.n D2.s.c) := fun w' x => (Hold.ext hg x).cell0 1
  have hww : Ext w w := Ext.refl _
  have HLL := Lib.hid (show (D1.l ++ D2.l).length = D1.s.n + D2.s.n from by rw [List.length_append, D1.len, D2.len])
  have hwa : IntKind.i64.wrap ((0 : Int) + (D1.s.n : Int)) = (D1.s.n : Int) := by rw [IntWalk.i64_in _ (by omega)]; omega
  have hwa' : IntKind.i64.wrap (D1.s.n : Int) = (D1.s.n : Int) := IntWalk.i64_in _ (by omega)
  have hwb : IntKind.i64.wrap ((D1.s.n : Int) + (D2.s.n : Int)) = ((D1.s.n + D2.s.n : Nat) : Int) := by rw [IntWalk.i64_in _ (by omega)]; omega
  have dn1 : decide ((D1.s.n : Int) < 0) = false := decide_eq_false (by omega)
  have dn2 : decide (((D1.s.n + D2.s.n : Nat) : Int) < 0) = false := decide_eq_false (by omega)
  unfold CatTPost
  clear h1 h2 hg
  go_enter Tryz.func36, Tryz.ntmps36
  go_wp2_with fail
  go_loopg [3, 11] 2 (fun gg v3 v11 wr => ∃ k : Nat, k ≤ 2 ∧ gg = 2 - k ∧ v11 = .int .i64 k ∧ v3 = .int .i64 ((if k = 0 then 0 else if k = 1 then D1.s.n else D1.s.n + D2.s.n : Nat) : Int) ∧ Ext w wr)
  case atStart => exact ⟨0, by omega, rfl, rfl, rfl, hww⟩
  case round =>
    obtain ⟨k, hk, rfl, rfl, rfl, hxr⟩ := hrel
    rcases (show k = 0 ∨ k = 1 ∨ k = 2 by omega) with rfl | rfl | rfl
    · go_wp2_with fail
      go_roundg (1 : Nat)
      case rel => exact ⟨1, by omega, rfl, rfl, rfl, hxr⟩
      case measure => omega
    · rw [if_neg (by decide), if_pos rfl]
      go_wp2_with fail
      go_roundg (0 : Nat)
      case rel => exact ⟨2, by omega, rfl, rfl, rfl, hxr⟩
      case measure => omega
    · rw [if_neg (by decide), if_neg (by decide)]
      go_wp2_with fail
      go_at_call 100
      refine (growT_any (D1.s.n + D2.s.n) (by omega) wr).mono ?_
      rintro e w2 ⟨v2, rfl, hown2, hx2⟩
      have hx02 := hxr.trans hx2
      have HQ2 := Lib.hid (Que.mono (Que.own hown2) hxr.le)
      clear hown2 hx2 hxr
      go_wp2_with fail
      go_loopg [6, 27] 2 (fun gg v6 v27 wr => ∃ k : Nat, k ≤ 2 ∧ gg = 2 - k ∧ v27 = .int .i64 k ∧ Que wr w.heap.size 3 v6 (if k = 0 then 0 else if k = 1 then D1.s.n else D1.s.n + D2.s.n) (if k = 0 then [] else if k = 1 then trmCells D1.l else trmCells (D1.l ++ D2.l)) ∧ Ext w wr)
      case atStart => exact ⟨0, by omega, rfl, rfl, HQ2.out, hx02⟩
      case round =>
        obtain ⟨k, hk, rfl, rfl, hq, hxr⟩ := hrel
        clear hx02
        rcases (show k = 0 ∨ k = 1 ∨ k = 2 by omega) with rfl | rfl | rfl
        · have hq' : Que wr w.heap.size 3 _ 0 [] := hq
          obtain ⟨a5, c5, rfl⟩ := hq'.slice
          have HQ := Lib.hid hq'
          clear hq hq'
          go_upto_region 14 with (at_builtin; refine wpList_append_que _ rfl _ _ 25 25 rfl (base := w.heap.size) (e := 62) (size := 3) i1 (.agg #[.int .i64 0, .string ⟨#[]⟩, .int .i64 0]) 32 Tryz.underlying25 hi1 hz0 hz1 hz2 rfl (v := .slice a5 0 c5) (n := 0) (xs := []) rfl (by exact HQ.out) (by have := hxr.le; omega) (.slice D1.s.a D1.s.n D1.s.c) D1.s.n (trmCells D1.l) rfl (by exact (H1.out.ext hxr).src) (by unfold maxLen; omega) (by omega) ?_; rintro v7 w7 hq7 hg7 -; obtain ⟨a9, c9, rfl⟩ := hq7.slice)
          have hx7 : Ext w w7 := hxr.below.grown hg7 (by have := hxr.le; omega) (fun g e => by have := HQ.out.block g e; omega)
          have HQ7 := Lib.hid hq7
          clear hq7 hg7
          go_wp2_with fail
          go_roundg (1 : Nat)
          case rel => exact ⟨1, by omega, rfl, rfl, by have h := HQ7.out; rw [Nat.zero_add, List.nil_append] at h; rw [if_neg (by decide), if_pos rfl, if_neg (by decide), if_pos rfl, ← Nat.zero_add D1.s.n]; first | exact HQ7.out | exact h, hx7⟩
          case measure => omega
        · have hq' : Que wr w.heap.size 3 _ D1.s.n (trmCells D1.l) := hq
          obtain ⟨a5, c5, rfl⟩ := hq'.slice
          have HQ := Lib.hid hq'
          clear hq hq'
          go_upto_region 14 with (at_builtin; refine wpList_append_que _ rfl _ _ 25 25 rfl (base := w.heap.size) (e := 62) (size := 3) i1 (.agg #[.int .i64 0, .string ⟨#[]⟩, .int .i64 0]) 32 Tryz.underlying25 hi1 hz0 hz1 hz2 rfl (v := .slice a5 D1.s.n c5) (n := D1.s.n) (xs := (trmCells D1.l)) rfl (by exact HQ.out) (by have := hxr.le; omega) (.slice D2.s.a D2.s.n D2.s.c) D2.s.n (trmCells D2.l) rfl (by exact (H2.out.ext hxr).src) (by unfold maxLen; omega) (by omega) ?_; rintro v7 w7 hq7 hg7 -; obtain ⟨a9, c9, rfl⟩ := hq7.slice)
          have hx7 : Ext w w7 := hxr.below.grown hg7 (by have := hxr.le; omega) (fun g e => by have := HQ.out.block g e; omega)
          have HQ7 := Lib.hid hq7
          clear hq7 hg7
          go_wp2_with fail
          go_roundg (0 : Nat)
          case rel => exact ⟨2, by omega, rfl, rfl, by rw [if_neg (by decide), if_neg (by decide), if_neg (by decide), if_neg (by decide), trmCells_append]; exact HQ7.out, hx7⟩
          case measure => omega
        · have HQ := Lib.hid (show TmOwn wr w.heap.size _ (D1.l ++ D2.l) from by unfold TmOwn; rw [HLL.out]; exact hq)
          clear hq
          go_wp2_with fail
          go_ret
          exact ⟨hxr, _, rfl, HQ.out⟩
end Go.Proofs.YtnknkkmdbnaglaaGreat
