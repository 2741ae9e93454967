/- The least and the greatest value of a variable as the reference folds them. Plain. Contracts of antecederef28: proc, Var, Resolved. Contracts of antecederef28: Range, sent, times. -/
import Derived.Test.YtdplphoohnnbcaaGreatDoorHp
import Derived.Test.YtdplphoohnnbcaaGreatDoorHv
import Derived.Test.YtdplphoohnnbcaaGreatDoorId
namespace Go.Proofs.YtdplphoohnnbcaaGreatDoor
open Go.RowKit

/-- the initial value, and those that were assigned before assignment k of event i -/
def Tr.ValTo (T : Tr) (p v i k : Nat) (x : Int) : Prop := x = T.vinit p v ∨ ∃ a j, ((a < i ∧ j < T.an p a) ∨ (a = i ∧ j < k)) ∧ T.avar p a j = (v : Int) ∧ T.aval p a j = x
theorem Tr.valTo_zero (T : Tr) (p v : Nat) : LowHigh (T.ValTo p v 0 0) (T.vinit p v) (T.vinit p v) := by
  refine ⟨.inl rfl, .inl rfl, fun x hx => ?_⟩
  rcases hx with rfl | ⟨a, j, h, _⟩
  · exact ⟨Int.le_refl _, Int.le_refl _⟩
  · omega
theorem LowHigh.congr {P Q : Int → Prop} {l h : Int} (a : LowHigh P l h) (hq : ∀ x, Q x ↔ P x) : LowHigh Q l h := ⟨(hq _).2 a.low, (hq _).2 a.high, fun x hx => a.all x ((hq x).1 hx)⟩
theorem LowHigh.more {P Q : Int → Prop} {l h c l' h' : Int} (a : LowHigh P l h) (hq : ∀ x, Q x ↔ P x ∨ x = c) (e1 : l' = if c < l then c else l) (e2 : h' = if h < c then c else h) : LowHigh Q l' h' := by
  subst e1 e2
  refine ⟨(hq _).2 ?_, (hq _).2 ?_, fun x hx => ?_⟩
  · split
    · exact .inr rfl
    · exact .inl a.low
  · split
    · exact .inr rfl
    · exact .inl a.high
  · rcases (hq x).1 hx with h1 | h1
    · have := a.all x h1
      constructor <;> split <;> omega
    · constructor <;> split <;> omega
theorem Tr.valTo_hit {T : Tr} {p v i k : Nat} (e : T.avar p i k = (v : Int)) (x : Int) : T.ValTo p v i (k + 1) x ↔ T.ValTo p v i k x ∨ x = T.aval p i k := by
  unfold Tr.ValTo
  constructor
  · rintro (h | ⟨a, j, h, h1, h2⟩)
    · exact .inl (.inl h)
    · by_cases ea : a = i ∧ j = k
      · obtain ⟨rfl, rfl⟩ := ea; exact .inr h2.symm
      · exact .inl (.inr ⟨a, j, by omega, h1, h2⟩)
  · rintro ((h | ⟨a, j, h, h1, h2⟩) | rfl)
    · exact .inl h
    · exact .inr ⟨a, j, by omega, h1, h2⟩
    · exact .inr ⟨i, k, by omega, e, rfl⟩
theorem Tr.valTo_miss {T : Tr} {p v i k : Nat} (e : T.avar p i k ≠ (v : Int)) (x : Int) : T.ValTo p v i (k + 1) x ↔ T.ValTo p v i k x := by
  unfold Tr.ValTo
  constructor
  · rintro (h | ⟨a, j, h, h1, h2⟩)
    · exact .inl h
    · by_cases ea : a = i ∧ j = k
      · obtain ⟨rfl, rfl⟩ := ea; exact absurd h1 e
      · exact .inr ⟨a, j, by omega, h1, h2⟩
  · rintro (h | ⟨a, j, h, h1, h2⟩)
    · exact .inl h
    · exact .inr ⟨a, j, by omega, h1, h2⟩
theorem Tr.valTo_next (T : Tr) (p v i : Nat) (x : Int) : T.ValTo p v (i + 1) 0 x ↔ T.ValTo p v i (T.an p i) x := by
  unfold Tr.ValTo
  constructor
  · rintro (h | ⟨a, j, h, h1, h2⟩)
    · exact .inl h
    · by_cases ea : a = i
      · subst ea; exact .inr ⟨a, j, .inr ⟨rfl, by omega⟩, h1, h2⟩
      · exact .inr ⟨a, j, .inl (by omega), h1, h2⟩
  · rintro (h | ⟨a, j, h, h1, h2⟩)
    · exact .inl h
    · rcases h with h | ⟨rfl, h⟩
      · exact .inr ⟨a, j, .inl (by omega), h1, h2⟩
      · exact .inr ⟨a, j, .inl (by omega), h1, h2⟩
theorem Tr.valTo_end (T : Tr) (p v : Nat) (x : Int) : T.ValOf p v x ↔ T.ValTo p v (T.en p) 0 x := by
  unfold Tr.ValTo Tr.ValOf
  constructor
  · rintro (h | ⟨a, j, h, h0, h1, h2⟩)
    · exact .inl h
    · exact .inr ⟨a, j, .inl ⟨h, h0⟩, h1, h2⟩
  · rintro (h | ⟨a, j, h, h1, h2⟩)
    · exact .inl h
    · exact .inr ⟨a, j, by omega, by omega, h1, h2⟩
/-- the product as the reference has it -/
theorem prodV_zero {a b : Int} (h : a = 0 ∨ b = 0) : prodV a b = 0 := if_pos h
/-- a variable that is known has an index -/
theorem Tr.hasV_varI (T : Tr) (p : Nat) (nm : ByteArray) : T.hasV p nm = true ↔ 0 ≤ T.varI p nm := by
  unfold Tr.hasV Tr.varI
  rw [← idxI_anyB]; simp
theorem Tr.varI_lt {T : Tr} {p : Nat} {nm : ByteArray} (h : T.hasV p nm = true) : ∃ v : Nat, v < T.vn p ∧ T.varI p nm = v := by
  rcases idxI_cases (fun v => strEq (T.vname p v) nm) (T.vn p) with ⟨h1, _⟩ | ⟨k, hk, _, h2⟩
  · have := (T.hasV_varI p nm).1 h
    have h3 : T.varI p nm = -1 := h1
    omega
  · exact ⟨k, hk, h2⟩

end Go.Proofs.YtdplphoohnnbcaaGreatDoor

namespace Go.Proofs.YtdplphoohnnbcaaGreatDoor
open Go.RowKit Go.Shelf

set_option maxHeartbeats 400000 in
theorem rproc_any (w : World) (T : Tr) (a : Option Addr) (cap : Nat) (p : Int) :
    Calls Tryz.prog 74 #[.agg #[.slice a T.n cap], .int .i64 p] w fun e w' => e = .returned (.bool (T.isPB p)) ∧ Ext w w' := by
  obtain ⟨b, hb⟩ : ∃ b, b = T.isPB p := ⟨_, rfl⟩
  rw [← hb]
  have HB := Lib.hid hb
  clear hb
  go_enter Tryz.func74, Tryz.ntmps74
  go_wp2
  all_goals go_ret
  all_goals refine ⟨ret_bool ?_, Ext.alloc _ _⟩
  all_goals (rw [HB.out, Bool.eq_iff_iff]; simp [Tr.isPB]; try omega)
set_option maxRecDepth 100000 in
set_option maxHeartbeats 1000000 in
theorem rVar_any (w : World) (T : TM) (hT : T.At w) (p : Nat) (hp : p < T.n) (nm : ByteArray) :
    Calls Tryz.prog 59 #[T.val, .int .i64 p, .string nm] w fun e w' => e = .returned (.int .i64 (T.toTr.varI p nm)) ∧ Ext w w' := by
  have hvn := hT.V.hv p hp
  have hp' : (p : Int) < (T.n : Int) := by omega
  have pa := hT.P.pa (by omega)
  have pb := hT.P.pb (by omega)
  obtain ⟨va, hva⟩ : ∃ a, a = T.va p := ⟨_, rfl⟩
  have p1 : ∀ w', Ext w w' → w'.cell? ⟨T.b, T.off + p * 3 + 1, none⟩ = some (.slice va (T.vn p) (T.vc p)) := fun w' h => by rw [hva]; exact hT.P.p1 w' h p hp
  have HVA := Lib.hid hva
  have HT := Lib.hid hT
  clear hT hva
  go_enter Tryz.func59, Tryz.ntmps59
  go_upto_region 1 with fail
  refine boxed1 (w := w) (G := fun x => Code.wp _ _ _ _ x) ?_
  intro w1 hx1 hs1 ⟨l0, c0, _, _⟩
  have hx11 : Ext w1 w1 := Ext.refl _
  clear hs1
  go_wp2_with fail
  go_loopg [7] (T.vn p) (fun gg v wr => ∃ i : Nat, i ≤ T.vn p ∧ gg = T.vn p - i ∧ v = .int .i64 i ∧ Ext w1 wr ∧ ∀ j, j < i → strEq (T.vname p j) nm = false)
  case atStart => exact ⟨0, by omega, rfl, rfl, hx11, fun j hj => by omega⟩
  case round =>
    obtain ⟨i, hi, rfl, rfl, hxr, hno⟩ := hrel
    have HNO := Lib.hid hno
    clear hno
    have hx0r := hx1.trans hxr
    by_cases hlt : i < T.vn p
    · have hlt' : (i : Int) < (T.vn p : Int) := by omega
      obtain rfl : va = some ⟨T.vb p, T.vo p, none⟩ := by rw [HVA.out]; exact HT.out.V.va p hp (by omega)
      have vb := HT.out.V.vb p hp (by omega)
      have v0 : ∀ w', Ext w w' → w'.cell? ⟨T.vb p, T.vo p + i * 2, none⟩ = some (.string (T.vname p i)) := fun w' h => HT.out.V.v0 w' h p i hp hlt
      have v1 : ∀ w', Ext w w' → w'.cell? ⟨T.vb p, T.vo p + i * 2 + 1, none⟩ = some (.int .i64 (T.vinit p i)) := fun w' h => HT.out.V.v1 w' h p i hp hlt
      cases he : ((T.vname p i).toList == nm.toList) with
      | true =>
        have HE := Lib.hid (show strEq (T.vname p i) nm = true from he)
        go_wp2_with fail
        go_ret
        exact ⟨ret_int (idxI_hit hlt HE.out HNO.out).symm, hx0r⟩
      | false =>
        have HE := Lib.hid (show strEq (T.vname p i) nm = false from he)
        go_wp2_with fail
        go_roundg (T.vn p - (i + 1))
        case rel => exact ⟨i + 1, by omega, rfl, by go_num, hxr, fun j hj => by
          by_cases e : j = i
          · subst e; exact HE.out
          · exact HNO.out j (by omega)⟩
        case measure => omega
    · have hie : i = T.vn p := by omega
      have HR := Lib.hid (show T.toTr.varI p nm = -1 from idxI_none (by rw [← hie]; exact HNO.out))
      subst hie
      go_wp2_with fail
      go_ret
      exact ⟨ret_int HR.out.symm, hx0r⟩
set_option maxRecDepth 100000 in
set_option maxHeartbeats 4000000 in
theorem rResolved_any (w0 : World) (T : TM) (hT : T.At w0) : ∀ p : Pr, p.At w0 → ∀ (w : World), Ext w0 w → Calls Tryz.prog 33 #[T.val, p.val] w (BoolPost (p.All T.toTr.ResN) w) := by
  intro p
  induction p using Pr.ind with
  | h p ih =>
    intro hp w hx
    have HP := Lib.hid hp
    have HIH := Lib.hid ih
    have HT := Lib.hid hT
    have hn := hp.here.hn
    clear hp ih hT
    by_cases h2 : p.kind = 2
    · have d2 : (p.kind == 2) = true := by simp [h2]
      have d3 : (p.kind == 3) = false := by simp [h2]
      have d4 : (p.kind == 4) = false := by simp [h2]
      have H2 := Lib.hid h2
      clear h2
      simp only [Pr.val, TM.val]
      obtain ⟨pa, hpa⟩ : ∃ a, a = p.a := ⟨_, rfl⟩
      rw [← hpa]
      have HA := Lib.hid hpa
      clear hpa
      go_enter Tryz.func33, Tryz.ntmps33
      go_upto_region 1 with fail
      refine boxed2 (w := w) (G := fun x => Code.wp _ _ _ _ x) ?_
      intro w1 hx1 hs1 ⟨l0, c0, _, _⟩ ⟨l1, c1, _, _⟩
      have hx11 : Ext w1 w1 := Ext.refl _
      have hx01 := hx.trans hx1
      have hIP := fun W p => rproc_any W T.toTr T.a T.cap p
      have HIP := Lib.hid hIP
      clear hs1 hIP
      go_wp2_with fail
      go_at_call 74
      refine (HIP.out _ _).mono ?_
      rintro e w2 ⟨rfl, hx2⟩
      have hx12 := hx11.trans hx2
      have hxw2 := hx1.trans hx12
      cases hpB : T.toTr.isPB p.proc with
      | false =>
        have HN := Lib.hid (show ¬ T.toTr.IsP p.proc from fun h => by rw [(T.toTr.isPB_iff p.proc).2 h] at hpB; cases hpB)
        clear hpB
        go_wp2_with fail
        go_ret
        exact BoolPost.n (fun h => by have h := h.here; unfold Tr.ResN Tr.ResP at h; (exact HN.out (h.1 H2.out).1)) hxw2
      | true =>
        have hisp := (T.toTr.isPB_iff p.proc).1 hpB
        clear hpB
        obtain ⟨k, hk0⟩ : ∃ k : Nat, p.proc = k := ⟨p.proc.toNat, by have := hisp.1; omega⟩
        have hk : k < T.n := by have := hisp.2; omega
        have HIS := Lib.hid hisp
        clear hisp
        by_cases h3 : p.peer = 0
        · have e3 : (p.peer != 0) = false := by simp [h3]
          have H3 := Lib.hid h3
          clear h3
          have hK := rVar_any w2 T (HT.out.ext (hx.trans hxw2)) k hk p.name
          have HV := Lib.hid (T.toTr.hasV_varI k p.name)
          have HK0 := Lib.hid hk0
          simp only [TM.val] at hK
          rw [← hk0] at hK
          clear hk0
          generalize T.toTr.varI k p.name = vi at hK HV
          go_wp2_with fail
          go_at_call 59
          refine hK.mono ?_
          rintro e w3 ⟨rfl, hx3⟩
          have hx13 := hx12.trans hx3
          have hxw2 := hxw2.trans hx3
          clear hK
          by_cases hv : vi < 0
          · have e4 : decide (vi < 0) = true := decide_eq_true hv
            go_wp2_with fail
            go_ret
            exact BoolPost.n (fun h => by have h := h.here; unfold Tr.ResN Tr.ResP at h; (have h9 := (h.1 H2.out).2.2; rw [HK0.out, Int.toNat_natCast] at h9; have := HV.out.1 h9; omega)) hxw2
          · have e4 : decide (vi < 0) = false := decide_eq_false hv
            have HND := Lib.hid (show T.toTr.ResN p from ⟨fun _ => ⟨HIS.out, H3.out, by rw [HK0.out, Int.toNat_natCast]; exact HV.out.2 (by omega)⟩, (fun h => by have := H2.out; omega), (fun h => by have := H2.out; omega)⟩)
            go_wp2_with fail
            go_loopg [5] p.len (fun gg v wr => ∃ i : Nat, i ≤ p.len ∧ gg = p.len - i ∧ v = .int .i64 i ∧ (∀ j, j < i → (p.kid j).All T.toTr.ResN) ∧ Ext w1 wr)
            case atStart => exact ⟨0, by omega, rfl, rfl, fun j hj => absurd hj (Nat.not_lt_zero _), by exact hx13⟩
            case round =>
              obtain ⟨i, hi, rfl, rfl, hall, hxr⟩ := hrel
              have HALL := Lib.hid hall
              have hx0r := hx01.trans hxr
              clear hall
              by_cases hlt : i < p.len
              · skip
                have hlt' : (i : Int) < (p.len : Int) := by omega
                obtain rfl : pa = some ⟨p.b, p.off, none⟩ := by rw [HA.out]; exact HP.out.here.ha (by omega)
                have kb : ∀ w', Ext w0 w' → p.b < w'.heap.size := HP.out.here.hb (by omega)
                have k0 := fun w' h => HP.out.here.c0 w' h i hlt
                have k1 := fun w' h => HP.out.here.c1 w' h i hlt
                have k2 := fun w' h => HP.out.here.c2 w' h i hlt
                have k3 := fun w' h => HP.out.here.c3 w' h i hlt
                have k4 := fun w' h => HP.out.here.c4 w' h i hlt
                have k5 := fun w' h => HP.out.here.c5 w' h i hlt
                have hc := HIH.out i hlt (HP.out.kid hlt) wr.drew hx0r.drew
                simp only [Pr.val, TM.val] at hc
                have hxd := hxr.drew
                go_upto_region 10 with fail
                refine wp_region_reads 6 (by kernel_rfl) (by kernel_rfl) ?_
                simp only [List.take_succ_cons, List.take_zero]
                repeat still_step
                refine wpStill_nil ?_
                refine wpAny_ready (rs := [6]) (by kernel_rfl) (by simp) ?_
                refine AllReady.cons rfl (fun K hK => ?_) AllReady.nil
                go_simp
                go_at_call 33
                refine hc.mono ?_
                rintro e w9 ⟨b, rfl, hb, hx9⟩
                refine hK _ _ ?_; clear hK K
                have hx19 := hxd.trans hx9
                refine wpAny_take (i := 7) (v := ?_) rfl (by kernel_rfl) (by kernel_rfl) (by kernel_rfl) (fun _ _ _ h => h) (Or.inl ⟨by rfl, ?_⟩) ?_
                rotate_left
                · intro w; go_simp; try with_reducible rfl
                refine wpAny_done (by kernel_rfl) ?_ _
                have HB := Lib.hid hb
                clear hc k0 k1 k2 k3 k4 k5 kb hb
                cases b with
                | false =>
                  go_wp2_with fail
                  go_ret
                  exact BoolPost.n (fun h => by have := HB.out.2 (h.kid hlt); cases this) (hx1.trans hx19)
                | true =>
                  have HB1 := Lib.hid (HB.out.1 rfl)
                  clear HB
                  go_wp2_with fail
                  go_roundg (p.len - (i + 1))
                  case rel => exact ⟨i + 1, by omega, rfl, by go_num, fun j hj => by
                    by_cases e : j = i
                    · subst e; exact HB1.out
                    · exact HALL.out j (by omega), hx19⟩
                  case measure => omega
              · have hie : i = p.len := by omega
                subst hie
                go_wp2_with fail
                go_ret
                exact BoolPost.y ((Pr.All_eq _ _).2 ⟨HND.out, HALL.out⟩) (hx1.trans hxr)
        · have e3 : (p.peer != 0) = true := by simp [h3]
          have H3 := Lib.hid h3
          clear h3
          go_wp2_with fail
          go_ret
          exact BoolPost.n (fun h => by have h := h.here; unfold Tr.ResN Tr.ResP at h; (exact H3.out (h.1 H2.out).2.1)) hxw2
    · have d2 : (p.kind == 2) = false := by simp [h2]
      by_cases h3 : p.kind = 3
      · have d3 : (p.kind == 3) = true := by simp [h3]
        have d4 : (p.kind == 4) = false := by simp [h3]
        have H2 := Lib.hid h3
        clear h2 h3
        simp only [Pr.val, TM.val]
        obtain ⟨pa, hpa⟩ : ∃ a, a = p.a := ⟨_, rfl⟩
        rw [← hpa]
        have HA := Lib.hid hpa
        clear hpa
        go_enter Tryz.func33, Tryz.ntmps33
        go_upto_region 1 with fail
        refine boxed2 (w := w) (G := fun x => Code.wp _ _ _ _ x) ?_
        intro w1 hx1 hs1 ⟨l0, c0, _, _⟩ ⟨l1, c1, _, _⟩
        have hx11 : Ext w1 w1 := Ext.refl _
        have hx01 := hx.trans hx1
        have hIP := fun W p => rproc_any W T.toTr T.a T.cap p
        have HIP := Lib.hid hIP
        clear hs1 hIP
        go_wp2_with fail
        go_at_call 74
        refine (HIP.out _ _).mono ?_
        rintro e w2 ⟨rfl, hx2⟩
        have hx12 := hx11.trans hx2
        have hxw2 := hx1.trans hx12
        cases hpB : T.toTr.isPB p.proc with
        | false =>
          have HN := Lib.hid (show ¬ T.toTr.IsP p.proc from fun h => by rw [(T.toTr.isPB_iff p.proc).2 h] at hpB; cases hpB)
          clear hpB
          go_wp2_with fail
          go_ret
          exact BoolPost.n (fun h => by have h := h.here; unfold Tr.ResN Tr.ResP at h; (exact HN.out (h.2.1 H2.out).1)) hxw2
        | true =>
          have HIS := Lib.hid ((T.toTr.isPB_iff p.proc).1 hpB)
          clear hpB
          by_cases h3 : p.peer = 0
          · have e3 : (p.peer != 0) = false := by simp [h3]
            have H3 := Lib.hid h3
            clear h3
            by_cases q3 : p.name.toList = []
            · have e4 : p.name.toList.isEmpty = true := by simp [q3]
              have e5 : (!p.name.toList.isEmpty) = false := by simp [q3]
              have HND := Lib.hid (show T.toTr.ResN p from ⟨(fun h => by have := H2.out; omega), fun _ => ⟨HIS.out, H3.out, q3⟩, (fun h => by have := H2.out; omega)⟩)
              clear q3
              go_wp2_with fail
              go_loopg [5] p.len (fun gg v wr => ∃ i : Nat, i ≤ p.len ∧ gg = p.len - i ∧ v = .int .i64 i ∧ (∀ j, j < i → (p.kid j).All T.toTr.ResN) ∧ Ext w1 wr)
              case atStart => exact ⟨0, by omega, rfl, rfl, fun j hj => absurd hj (Nat.not_lt_zero _), by exact hx12⟩
              case round =>
                obtain ⟨i, hi, rfl, rfl, hall, hxr⟩ := hrel
                have HALL := Lib.hid hall
                have hx0r := hx01.trans hxr
                clear hall
                by_cases hlt : i < p.len
                · skip
                  have hlt' : (i : Int) < (p.len : Int) := by omega
                  obtain rfl : pa = some ⟨p.b, p.off, none⟩ := by rw [HA.out]; exact HP.out.here.ha (by omega)
                  have kb : ∀ w', Ext w0 w' → p.b < w'.heap.size := HP.out.here.hb (by omega)
                  have k0 := fun w' h => HP.out.here.c0 w' h i hlt
                  have k1 := fun w' h => HP.out.here.c1 w' h i hlt
                  have k2 := fun w' h => HP.out.here.c2 w' h i hlt
                  have k3 := fun w' h => HP.out.here.c3 w' h i hlt
                  have k4 := fun w' h => HP.out.here.c4 w' h i hlt
                  have k5 := fun w' h => HP.out.here.c5 w' h i hlt
                  have hc := HIH.out i hlt (HP.out.kid hlt) wr.drew hx0r.drew
                  simp only [Pr.val, TM.val] at hc
                  have hxd := hxr.drew
                  go_upto_region 10 with fail
                  refine wp_region_reads 6 (by kernel_rfl) (by kernel_rfl) ?_
                  simp only [List.take_succ_cons, List.take_zero]
                  repeat still_step
                  refine wpStill_nil ?_
                  refine wpAny_ready (rs := [6]) (by kernel_rfl) (by simp) ?_
                  refine AllReady.cons rfl (fun K hK => ?_) AllReady.nil
                  go_simp
                  go_at_call 33
                  refine hc.mono ?_
                  rintro e w9 ⟨b, rfl, hb, hx9⟩
                  refine hK _ _ ?_; clear hK K
                  have hx19 := hxd.trans hx9
                  refine wpAny_take (i := 7) (v := ?_) rfl (by kernel_rfl) (by kernel_rfl) (by kernel_rfl) (fun _ _ _ h => h) (Or.inl ⟨by rfl, ?_⟩) ?_
                  rotate_left
                  · intro w; go_simp; try with_reducible rfl
                  refine wpAny_done (by kernel_rfl) ?_ _
                  have HB := Lib.hid hb
                  clear hc k0 k1 k2 k3 k4 k5 kb hb
                  cases b with
                  | false =>
                    go_wp2_with fail
                    go_ret
                    exact BoolPost.n (fun h => by have := HB.out.2 (h.kid hlt); cases this) (hx1.trans hx19)
                  | true =>
                    have HB1 := Lib.hid (HB.out.1 rfl)
                    clear HB
                    go_wp2_with fail
                    go_roundg (p.len - (i + 1))
                    case rel => exact ⟨i + 1, by omega, rfl, by go_num, fun j hj => by
                      by_cases e : j = i
                      · subst e; exact HB1.out
                      · exact HALL.out j (by omega), hx19⟩
                    case measure => omega
                · have hie : i = p.len := by omega
                  subst hie
                  go_wp2_with fail
                  go_ret
                  exact BoolPost.y ((Pr.All_eq _ _).2 ⟨HND.out, HALL.out⟩) (hx1.trans hxr)
            · have e4 : p.name.toList.isEmpty = false := by simp [q3]
              have e5 : (!p.name.toList.isEmpty) = true := by simp [q3]
              have Q3 := Lib.hid q3
              clear q3
              go_wp2_with fail
              go_ret
              exact BoolPost.n (fun h => by have h := h.here; unfold Tr.ResN Tr.ResP at h; (exact Q3.out (h.2.1 H2.out).2.2)) hxw2
          · have e3 : (p.peer != 0) = true := by simp [h3]
            have H3 := Lib.hid h3
            clear h3
            go_wp2_with fail
            go_ret
            exact BoolPost.n (fun h => by have h := h.here; unfold Tr.ResN Tr.ResP at h; (exact H3.out (h.2.1 H2.out).2.1)) hxw2
      · have d3 : (p.kind == 3) = false := by simp [h3]
        by_cases h4 : p.kind = 4
        · have d4 : (p.kind == 4) = true := by simp [h4]
          have H2 := Lib.hid h4
          clear h2 h3 h4
          simp only [Pr.val, TM.val]
          obtain ⟨pa, hpa⟩ : ∃ a, a = p.a := ⟨_, rfl⟩
          rw [← hpa]
          have HA := Lib.hid hpa
          clear hpa
          go_enter Tryz.func33, Tryz.ntmps33
          go_upto_region 1 with fail
          refine boxed2 (w := w) (G := fun x => Code.wp _ _ _ _ x) ?_
          intro w1 hx1 hs1 ⟨l0, c0, _, _⟩ ⟨l1, c1, _, _⟩
          have hx11 : Ext w1 w1 := Ext.refl _
          have hx01 := hx.trans hx1
          have hIP := fun W p => rproc_any W T.toTr T.a T.cap p
          have HIP := Lib.hid hIP
          clear hs1 hIP
          go_wp2_with fail
          go_at_call 74
          refine (HIP.out _ _).mono ?_
          rintro e w2 ⟨rfl, hx2⟩
          have hx12 := hx11.trans hx2
          have hxw2 := hx1.trans hx12
          cases hpB : T.toTr.isPB p.proc with
          | false =>
            have HN := Lib.hid (show ¬ T.toTr.IsP p.proc from fun h => by rw [(T.toTr.isPB_iff p.proc).2 h] at hpB; cases hpB)
            clear hpB
            go_wp2_with fail
            go_ret
            exact BoolPost.n (fun h => by have h := h.here; unfold Tr.ResN Tr.ResP at h; (exact HN.out (h.2.2 H2.out).1)) hxw2
          | true =>
            have HIS := Lib.hid ((T.toTr.isPB_iff p.proc).1 hpB)
            clear hpB
            go_wp2_with fail
            go_at_call 74
            refine (HIP.out _ _).mono ?_
            rintro e w3 ⟨rfl, hx3⟩
            have hx12 := hx12.trans hx3
            have hxw2 := hxw2.trans hx3
            cases hpB : T.toTr.isPB p.peer with
            | false =>
              have HN := Lib.hid (show ¬ T.toTr.IsP p.peer from fun h => by rw [(T.toTr.isPB_iff p.peer).2 h] at hpB; cases hpB)
              clear hpB
              go_wp2_with fail
              go_ret
              exact BoolPost.n (fun h => by have h := h.here; unfold Tr.ResN Tr.ResP at h; (exact HN.out (h.2.2 H2.out).2.1)) hxw2
            | true =>
              have HIS2 := Lib.hid ((T.toTr.isPB_iff p.peer).1 hpB)
              clear hpB
              by_cases h5 : p.proc = p.peer
              · have e5 : (p.proc == p.peer) = true := by simp [h5]
                have H5 := Lib.hid h5
                clear h5
                go_wp2_with fail
                go_ret
                exact BoolPost.n (fun h => by have h := h.here; unfold Tr.ResN Tr.ResP at h; (exact (h.2.2 H2.out).2.2.1 H5.out)) hxw2
              · have e5 : (p.proc == p.peer) = false := by simp [h5]
                have H5 := Lib.hid h5
                clear h5
                by_cases q3 : p.name.toList = []
                · have e6 : p.name.toList.isEmpty = true := by simp [q3]
                  have e7 : (!p.name.toList.isEmpty) = false := by simp [q3]
                  have HND := Lib.hid (show T.toTr.ResN p from ⟨(fun h => by have := H2.out; omega), (fun h => by have := H2.out; omega), fun _ => ⟨HIS.out, HIS2.out, H5.out, q3⟩⟩)
                  clear q3
                  go_wp2_with fail
                  go_loopg [5] p.len (fun gg v wr => ∃ i : Nat, i ≤ p.len ∧ gg = p.len - i ∧ v = .int .i64 i ∧ (∀ j, j < i → (p.kid j).All T.toTr.ResN) ∧ Ext w1 wr)
                  case atStart => exact ⟨0, by omega, rfl, rfl, fun j hj => absurd hj (Nat.not_lt_zero _), by exact hx12⟩
                  case round =>
                    obtain ⟨i, hi, rfl, rfl, hall, hxr⟩ := hrel
                    have HALL := Lib.hid hall
                    have hx0r := hx01.trans hxr
                    clear hall
                    by_cases hlt : i < p.len
                    · skip
                      have hlt' : (i : Int) < (p.len : Int) := by omega
                      obtain rfl : pa = some ⟨p.b, p.off, none⟩ := by rw [HA.out]; exact HP.out.here.ha (by omega)
                      have kb : ∀ w', Ext w0 w' → p.b < w'.heap.size := HP.out.here.hb (by omega)
                      have k0 := fun w' h => HP.out.here.c0 w' h i hlt
                      have k1 := fun w' h => HP.out.here.c1 w' h i hlt
                      have k2 := fun w' h => HP.out.here.c2 w' h i hlt
                      have k3 := fun w' h => HP.out.here.c3 w' h i hlt
                      have k4 := fun w' h => HP.out.here.c4 w' h i hlt
                      have k5 := fun w' h => HP.out.here.c5 w' h i hlt
                      have hc := HIH.out i hlt (HP.out.kid hlt) wr.drew hx0r.drew
                      simp only [Pr.val, TM.val] at hc
                      have hxd := hxr.drew
                      go_upto_region 10 with fail
                      refine wp_region_reads 6 (by kernel_rfl) (by kernel_rfl) ?_
                      simp only [List.take_succ_cons, List.take_zero]
                      repeat still_step
                      refine wpStill_nil ?_
                      refine wpAny_ready (rs := [6]) (by kernel_rfl) (by simp) ?_
                      refine AllReady.cons rfl (fun K hK => ?_) AllReady.nil
                      go_simp
                      go_at_call 33
                      refine hc.mono ?_
                      rintro e w9 ⟨b, rfl, hb, hx9⟩
                      refine hK _ _ ?_; clear hK K
                      have hx19 := hxd.trans hx9
                      refine wpAny_take (i := 7) (v := ?_) rfl (by kernel_rfl) (by kernel_rfl) (by kernel_rfl) (fun _ _ _ h => h) (Or.inl ⟨by rfl, ?_⟩) ?_
                      rotate_left
                      · intro w; go_simp; try with_reducible rfl
                      refine wpAny_done (by kernel_rfl) ?_ _
                      have HB := Lib.hid hb
                      clear hc k0 k1 k2 k3 k4 k5 kb hb
                      cases b with
                      | false =>
                        go_wp2_with fail
                        go_ret
                        exact BoolPost.n (fun h => by have := HB.out.2 (h.kid hlt); cases this) (hx1.trans hx19)
                      | true =>
                        have HB1 := Lib.hid (HB.out.1 rfl)
                        clear HB
                        go_wp2_with fail
                        go_roundg (p.len - (i + 1))
                        case rel => exact ⟨i + 1, by omega, rfl, by go_num, fun j hj => by
                          by_cases e : j = i
                          · subst e; exact HB1.out
                          · exact HALL.out j (by omega), hx19⟩
                        case measure => omega
                    · have hie : i = p.len := by omega
                      subst hie
                      go_wp2_with fail
                      go_ret
                      exact BoolPost.y ((Pr.All_eq _ _).2 ⟨HND.out, HALL.out⟩) (hx1.trans hxr)
                · have e6 : p.name.toList.isEmpty = false := by simp [q3]
                  have e7 : (!p.name.toList.isEmpty) = true := by simp [q3]
                  have Q3 := Lib.hid q3
                  clear q3
                  go_wp2_with fail
                  go_ret
                  exact BoolPost.n (fun h => by have h := h.here; unfold Tr.ResN Tr.ResP at h; (exact Q3.out (h.2.2 H2.out).2.2.2)) hxw2
        · have d4 : (p.kind == 4) = false := by simp [h4]
          have HND := Lib.hid (show T.toTr.ResN p from ⟨fun h => absurd h h2, fun h => absurd h h3, fun h => absurd h h4⟩)
          clear h2 h3 h4
          simp only [Pr.val, TM.val]
          obtain ⟨pa, hpa⟩ : ∃ a, a = p.a := ⟨_, rfl⟩
          rw [← hpa]
          have HA := Lib.hid hpa
          clear hpa
          go_enter Tryz.func33, Tryz.ntmps33
          go_upto_region 1 with fail
          refine boxed2 (w := w) (G := fun x => Code.wp _ _ _ _ x) ?_
          intro w1 hx1 hs1 ⟨l0, c0, _, _⟩ ⟨l1, c1, _, _⟩
          have hx11 : Ext w1 w1 := Ext.refl _
          have hx01 := hx.trans hx1
          have hIP := fun W p => rproc_any W T.toTr T.a T.cap p
          have HIP := Lib.hid hIP
          clear hs1 hIP
          go_wp2_with fail
          go_loopg [5] p.len (fun gg v wr => ∃ i : Nat, i ≤ p.len ∧ gg = p.len - i ∧ v = .int .i64 i ∧ (∀ j, j < i → (p.kid j).All T.toTr.ResN) ∧ Ext w1 wr)
          case atStart => exact ⟨0, by omega, rfl, rfl, fun j hj => absurd hj (Nat.not_lt_zero _), by exact hx11⟩
          case round =>
            obtain ⟨i, hi, rfl, rfl, hall, hxr⟩ := hrel
            have HALL := Lib.hid hall
            have hx0r := hx01.trans hxr
            clear hall
            by_cases hlt : i < p.len
            · skip
              have hlt' : (i : Int) < (p.len : Int) := by omega
              obtain rfl : pa = some ⟨p.b, p.off, none⟩ := by rw [HA.out]; exact HP.out.here.ha (by omega)
              have kb : ∀ w', Ext w0 w' → p.b < w'.heap.size := HP.out.here.hb (by omega)
              have k0 := fun w' h => HP.out.here.c0 w' h i hlt
              have k1 := fun w' h => HP.out.here.c1 w' h i hlt
              have k2 := fun w' h => HP.out.here.c2 w' h i hlt
              have k3 := fun w' h => HP.out.here.c3 w' h i hlt
              have k4 := fun w' h => HP.out.here.c4 w' h i hlt
              have k5 := fun w' h => HP.out.here.c5 w' h i hlt
              have hc := HIH.out i hlt (HP.out.kid hlt) wr.drew hx0r.drew
              simp only [Pr.val, TM.val] at hc
              have hxd := hxr.drew
              go_upto_region 10 with fail
              refine wp_region_reads 6 (by kernel_rfl) (by kernel_rfl) ?_
              simp only [List.take_succ_cons, List.take_zero]
              repeat still_step
              refine wpStill_nil ?_
              refine wpAny_ready (rs := [6]) (by kernel_rfl) (by simp) ?_
              refine AllReady.cons rfl (fun K hK => ?_) AllReady.nil
              go_simp
              go_at_call 33
              refine hc.mono ?_
              rintro e w9 ⟨b, rfl, hb, hx9⟩
              refine hK _ _ ?_; clear hK K
              have hx19 := hxd.trans hx9
              refine wpAny_take (i := 7) (v := ?_) rfl (by kernel_rfl) (by kernel_rfl) (by kernel_rfl) (fun _ _ _ h => h) (Or.inl ⟨by rfl, ?_⟩) ?_
              rotate_left
              · intro w; go_simp; try with_reducible rfl
              refine wpAny_done (by kernel_rfl) ?_ _
              have HB := Lib.hid hb
              clear hc k0 k1 k2 k3 k4 k5 kb hb
              cases b with
              | false =>
                go_wp2_with fail
                go_ret
                exact BoolPost.n (fun h => by have := HB.out.2 (h.kid hlt); cases this) (hx1.trans hx19)
              | true =>
                have HB1 := Lib.hid (HB.out.1 rfl)
                clear HB
                go_wp2_with fail
                go_roundg (p.len - (i + 1))
                case rel => exact ⟨i + 1, by omega, rfl, by go_num, fun j hj => by
                  by_cases e : j = i
                  · subst e; exact HB1.out
                  · exact HALL.out j (by omega), hx19⟩
                case measure => omega
            · have hie : i = p.len := by omega
              subst hie
              go_wp2_with fail
              go_ret
              exact BoolPost.y ((Pr.All_eq _ _).2 ⟨HND.out, HALL.out⟩) (hx1.trans hxr)

end Go.Proofs.YtdplphoohnnbcaaGreatDoor

namespace Go.Proofs.YtdplphoohnnbcaaGreatDoor
open Go.RowKit Go.Shelf

set_option maxRecDepth 100000 in
set_option maxHeartbeats 2000000 in
theorem rsent_any (w : World) (T : TM) (hT : T.At w) (p : Nat) (hp : p < T.n) (q : Int) :
    Calls Tryz.prog 60 #[T.val, .int .i64 p, .int .i64 q] w (IntPost (T.toTr.sentTo p q (T.en p)) w) := by
  have hn := hT.P.hn
  have hen := hT.E.he p hp
  have hp' : (p : Int) < (T.n : Int) := by omega
  have pa := hT.P.pa (by omega)
  have pb := hT.P.pb (by omega)
  obtain ⟨ea, hea⟩ : ∃ a, a = T.ea p := ⟨_, rfl⟩
  have p2 : ∀ w', Ext w w' → w'.cell? ⟨T.b, T.off + p * 3 + 2, none⟩ = some (.slice ea (T.en p) (T.ec p)) := fun w' h => by rw [hea]; exact hT.P.p2 w' h p hp
  have HEA := Lib.hid hea
  have HT := Lib.hid hT
  clear hT hea
  go_enter Tryz.func60, Tryz.ntmps60
  go_upto_region 1 with fail
  refine boxed1 (w := w) (G := fun x => Code.wp _ _ _ _ x) ?_
  intro w1 hx1 hs1 ⟨l0, c0, _, _⟩
  have hx11 : Ext w1 w1 := Ext.refl _
  clear hs1
  go_wp2_with fail
  go_loopg [7, 8] (T.en p) (fun gg v7 v8 wr => ∃ i : Nat, i ≤ T.en p ∧ gg = T.en p - i ∧ v8 = .int .i64 i ∧ v7 = .int .i64 (T.toTr.sentTo p q i : Nat) ∧ Ext w1 wr)
  case atStart => exact ⟨0, by omega, rfl, rfl, rfl, hx11⟩
  case round =>
    obtain ⟨i, hi, rfl, rfl, rfl, hxr⟩ := hrel
    have hx0r := hx1.trans hxr
    by_cases hlt : i < T.en p
    · have hlt' : (i : Int) < (T.en p : Int) := by omega
      obtain rfl : ea = some ⟨T.eb p, T.eo p, none⟩ := by rw [HEA.out]; exact HT.out.E.ea p hp (by omega)
      have eb : ∀ w', Ext w w' → T.eb p < w'.heap.size := HT.out.E.eb p hp (by omega)
      have e0 : ∀ w', Ext w w' → w'.cell? ⟨T.eb p, T.eo p + i * 5, none⟩ = some (.int .i64 (T.kind p i)) := fun w' h => HT.out.E.e0 w' h p i hp hlt
      have e1 : ∀ w', Ext w w' → w'.cell? ⟨T.eb p, T.eo p + i * 5 + 1, none⟩ = some (.int .i64 (T.peer p i)) := fun w' h => HT.out.E.e1 w' h p i hp hlt
      have e2 : ∀ w', Ext w w' → w'.cell? ⟨T.eb p, T.eo p + i * 5 + 2, none⟩ = some (.int .i64 (T.msg p i)) := fun w' h => HT.out.E.e2 w' h p i hp hlt
      have e3 : ∀ w', Ext w w' → w'.cell? ⟨T.eb p, T.eo p + i * 5 + 3, none⟩ = some (.int .i64 (T.time p i)) := fun w' h => HT.out.E.e3 w' h p i hp hlt
      have e4 : ∀ w', Ext w w' → w'.cell? ⟨T.eb p, T.eo p + i * 5 + 4, none⟩ = some (.slice (T.aa p i) (T.an p i) (T.ac p i)) := fun w' h => HT.out.E.e4 w' h p i hp hlt
      have hle := T.toTr.sentTo_le p q i
      have HS := Lib.hid (show T.toTr.sentTo p q (i + 1) = T.toTr.sentTo p q i + if T.kind p i = 2 ∧ T.peer p i = q then 1 else 0 from rfl)
      obtain ⟨m, hm⟩ : ∃ m, m = T.toTr.sentTo p q i := ⟨_, rfl⟩
      rw [← hm] at HS hle ⊢
      clear hm
      go_upto_region 6 with fail
      refine boxed1 (w := wr) (G := fun x => Code.wp _ _ _ _ x) ?_
      intro w2 hx2 hs2 ⟨l2, c2, _, _⟩
      have hx22 : Ext w2 w2 := Ext.refl _
      have hx12 := hxr.trans hx2
      clear hs2 e0 e1 e2 e3 e4 eb
      by_cases k1 : T.kind p i = 2
      · have d1 : (T.kind p i == 2) = true := by simp [k1]
        have HK1 := Lib.hid k1
        clear k1
        by_cases k2 : T.peer p i = q
        · have d2 : (T.peer p i == q) = true := by simp [k2]
          have HK2 := Lib.hid k2
          clear k2
          go_wp2_with fail
          go_roundg (T.en p - (i + 1))
          case rel => exact ⟨i + 1, by omega, rfl, by go_num, by rw [HS.out, if_pos ⟨HK1.out, HK2.out⟩]; go_num, hx12⟩
          case measure => omega
        · have d2 : (T.peer p i == q) = false := by simp [k2]
          have HK2 := Lib.hid k2
          clear k2
          go_wp2_with fail
          go_roundg (T.en p - (i + 1))
          case rel => exact ⟨i + 1, by omega, rfl, by go_num, by rw [HS.out, if_neg (fun h => HK2.out h.2)]; rfl, hx12⟩
          case measure => omega
      · have d1 : (T.kind p i == 2) = false := by simp [k1]
        have HK1 := Lib.hid k1
        clear k1
        go_wp2_with fail
        go_roundg (T.en p - (i + 1))
        case rel => exact ⟨i + 1, by omega, rfl, by go_num, by rw [HS.out, if_neg (fun h => HK1.out h.1)]; rfl, hx12⟩
        case measure => omega
    · have hie : i = T.en p := by omega
      subst hie
      go_wp2_with fail
      go_ret
      exact ⟨rfl, hx0r⟩

def TwoPost (x y : Int) (w : World) (e : Ending) (w' : World) : Prop := e = .returned (.tuple #[.int .i64 x, .int .i64 y]) ∧ Ext w w'
set_option maxRecDepth 100000 in
set_option maxHeartbeats 2000000 in
theorem rRange_any (w : World) (T : TM) (hT : T.At w) (hV : T.toTr.Valid) (p : Nat) (hp : p < T.n) (v : Nat) (hv : v < T.vn p) :
    Calls Tryz.prog 58 #[T.val, .int .i64 p, .int .i64 v] w (TwoPost (T.toTr.low p v) (T.toTr.high p v) w) := by
  have hn := hT.P.hn
  have hen := hT.E.he p hp
  have hvn := hT.V.hv p hp
  have hp' : (p : Int) < (T.n : Int) := by omega
  have hv' : (v : Int) < (T.vn p : Int) := by omega
  have pa := hT.P.pa (by omega)
  have pb := hT.P.pb (by omega)
  obtain ⟨ea, hea⟩ : ∃ a, a = T.ea p := ⟨_, rfl⟩
  have p1 : ∀ w', Ext w w' → w'.cell? ⟨T.b, T.off + p * 3 + 1, none⟩ = some (.slice (some ⟨T.vb p, T.vo p, none⟩) (T.vn p) (T.vc p)) := fun w' h => by rw [← hT.V.va p hp (by omega)]; exact hT.P.p1 w' h p hp
  have p2 : ∀ w', Ext w w' → w'.cell? ⟨T.b, T.off + p * 3 + 2, none⟩ = some (.slice ea (T.en p) (T.ec p)) := fun w' h => by rw [hea]; exact hT.P.p2 w' h p hp
  have vb := hT.V.vb p hp (by omega)
  have v1 : ∀ w', Ext w w' → w'.cell? ⟨T.vb p, T.vo p + v * 2 + 1, none⟩ = some (.int .i64 (T.vinit p v)) := fun w' h => hT.V.v1 w' h p v hp hv
  have HLH := Lib.hid (hV.lowHigh (p := p) (v := v) hp)
  have HEA := Lib.hid hea
  have HT := Lib.hid hT
  clear hT hea hV
  go_enter Tryz.func58, Tryz.ntmps58
  go_upto_region 1 with fail
  refine boxed1 (w := w) (G := fun x => Code.wp _ _ _ _ x) ?_
  intro w1 hx1 hs1 ⟨l0, c0, _, _⟩
  have hx11 : Ext w1 w1 := Ext.refl _
  clear hs1
  go_wp2_with fail
  go_loopg [8, 9, 10, 11, 12] (T.en p) (fun gg v8 v9 v10 v11 v12 wr => ∃ (i : Nat) (lo hi : Int), i ≤ T.en p ∧ gg = T.en p - i ∧ v10 = .int .i64 i ∧ v8 = .int .i64 lo ∧ v9 = .int .i64 hi ∧ (∃ u, v11 = u) ∧ (∃ u, v12 = u) ∧ LowHigh (T.toTr.ValTo p v i 0) lo hi ∧ Ext w1 wr)
  case atStart => exact ⟨0, _, _, by omega, rfl, rfl, rfl, rfl, ⟨_, rfl⟩, ⟨_, rfl⟩, T.toTr.valTo_zero p v, hx11⟩
  case round =>
    obtain ⟨i, lo, hi, hi0, rfl, rfl, rfl, rfl, ⟨u1, rfl⟩, ⟨u2, rfl⟩, hlh, hxr⟩ := hrel
    have HI := Lib.hid hlh
    have hx0r := hx1.trans hxr
    clear hlh
    by_cases hlt : i < T.en p
    · have hlt' : (i : Int) < (T.en p : Int) := by omega
      obtain rfl : ea = some ⟨T.eb p, T.eo p, none⟩ := by rw [HEA.out]; exact HT.out.E.ea p hp (by omega)
      have eb : ∀ w', Ext w w' → T.eb p < w'.heap.size := HT.out.E.eb p hp (by omega)
      obtain ⟨aa, haa⟩ : ∃ a, a = T.aa p i := ⟨_, rfl⟩
      have e4 : ∀ w', Ext w w' → w'.cell? ⟨T.eb p, T.eo p + i * 5 + 4, none⟩ = some (.slice aa (T.an p i) (T.ac p i)) := fun w' h => by rw [haa]; exact HT.out.E.e4 w' h p i hp hlt
      have han := HT.out.A.ha p i hp hlt
      have HAA := Lib.hid haa
      clear haa
      go_wp2_with fail
      go_loopg [8, 9, 12] (T.an p i) (fun gg v8 v9 v12 wr => ∃ (k : Nat) (lo hi : Int), k ≤ T.an p i ∧ gg = T.an p i - k ∧ v12 = .int .i64 k ∧ v8 = .int .i64 lo ∧ v9 = .int .i64 hi ∧ LowHigh (T.toTr.ValTo p v i k) lo hi ∧ Ext w1 wr)
      case atStart => exact ⟨0, _, _, by omega, rfl, rfl, rfl, rfl, HI.out, hxr⟩
      case round =>
        obtain ⟨k, lo, hi, hk0, rfl, rfl, rfl, rfl, hlh, hxr⟩ := hrel
        have HI2 := Lib.hid hlh
        have hx0r := hx1.trans hxr
        clear hlh
        by_cases hlk : k < T.an p i
        · have hlk' : (k : Int) < (T.an p i : Int) := by omega
          obtain rfl : aa = some ⟨T.ab p i, T.ao p i, none⟩ := by rw [HAA.out]; exact HT.out.A.aa p i hp hlt (by omega)
          have ab : ∀ w', Ext w w' → T.ab p i < w'.heap.size := HT.out.A.ab p i hp hlt (by omega)
          have a0 : ∀ w', Ext w w' → w'.cell? ⟨T.ab p i, T.ao p i + k * 2, none⟩ = some (.int .i64 (T.avar p i k)) := fun w' h => HT.out.A.a0 w' h p i k hp hlt hlk
          have a1 : ∀ w', Ext w w' → w'.cell? ⟨T.ab p i, T.ao p i + k * 2 + 1, none⟩ = some (.int .i64 (T.aval p i k)) := fun w' h => HT.out.A.a1 w' h p i k hp hlt hlk
          by_cases ha : T.avar p i k = (v : Int)
          · have d1 : (T.avar p i k == (v : Int)) = true := by simp [ha]
            have HIT := Lib.hid (fun x => Tr.valTo_hit (T := T.toTr) ha x)
            clear ha
            by_cases m1 : T.aval p i k < lo
            · have D1 := Lib.hid m1
              by_cases m2 : hi < T.aval p i k
              · have D2 := Lib.hid m2
                go_wp2_with fail
                go_quiet (fail)
                go_wp2_with fail
                go_roundg (T.an p i - (k + 1))
                case rel => exact ⟨k + 1, _, _, by omega, rfl, by go_num, rfl, rfl, HI2.out.more HIT.out (if_pos D1.out).symm (if_pos D2.out).symm, hxr.drewN _⟩
                case measure => omega
              · have D2 := Lib.hid m2
                go_wp2_with fail
                go_quiet (fail)
                go_wp2_with fail
                go_roundg (T.an p i - (k + 1))
                case rel => exact ⟨k + 1, _, _, by omega, rfl, by go_num, rfl, rfl, HI2.out.more HIT.out (if_pos D1.out).symm (if_neg (Int.not_lt.2 D2.out)).symm, hxr.drewN _⟩
                case measure => omega
            · have D1 := Lib.hid m1
              by_cases m2 : hi < T.aval p i k
              · have D2 := Lib.hid m2
                go_wp2_with fail
                go_quiet (fail)
                go_wp2_with fail
                go_roundg (T.an p i - (k + 1))
                case rel => exact ⟨k + 1, _, _, by omega, rfl, by go_num, rfl, rfl, HI2.out.more HIT.out (if_neg (Int.not_lt.2 D1.out)).symm (if_pos D2.out).symm, hxr.drewN _⟩
                case measure => omega
              · have D2 := Lib.hid m2
                go_wp2_with fail
                go_quiet (fail)
                go_wp2_with fail
                go_roundg (T.an p i - (k + 1))
                case rel => exact ⟨k + 1, _, _, by omega, rfl, by go_num, rfl, rfl, HI2.out.more HIT.out (if_neg (Int.not_lt.2 D1.out)).symm (if_neg (Int.not_lt.2 D2.out)).symm, hxr.drewN _⟩
                case measure => omega
          · have d1 : (T.avar p i k == (v : Int)) = false := by simp [ha]
            have HIT := Lib.hid (fun x => Tr.valTo_miss (T := T.toTr) ha x)
            clear ha
            go_wp2_with fail
            go_roundg (T.an p i - (k + 1))
            case rel => exact ⟨k + 1, _, _, by omega, rfl, by go_num, rfl, rfl, HI2.out.congr HIT.out, hxr⟩
            case measure => omega
        · have hie : k = T.an p i := by omega
          have HN := Lib.hid (fun x => T.toTr.valTo_next p v i x)
          subst hie
          go_wp2_with fail
          go_roundg (T.en p - (i + 1))
          case rel => exact ⟨i + 1, _, _, by omega, rfl, by go_num, rfl, rfl, ⟨_, rfl⟩, ⟨_, rfl⟩, HI2.out.congr HN.out, hxr⟩
          case measure => omega
    · have hie : i = T.en p := by omega
      obtain ⟨e1, e2⟩ := (HI.out.congr (Q := T.toTr.ValOf p v) (fun x => by rw [hie]; exact T.toTr.valTo_end p v x)).uniq HLH.out
      subst hie e1 e2
      go_wp2_with fail
      go_ret2
      exact ⟨rfl, hx0r⟩
theorem tdq {b : Int} (h : b < 0) : wrap64 (-Int.tdiv 1125899906842624 b) = 1125899906842624 / (-b) := by
  have e : Int.tdiv 1125899906842624 b = -(1125899906842624 / (-b)) := by
    have : b = -(-b) := by omega
    rw [this, Int.tdiv_neg, Int.tdiv_eq_ediv_of_nonneg (by decide), Int.neg_neg]
  have h1 : 0 ≤ 1125899906842624 / (-b) := Int.ediv_nonneg (by decide) (by omega)
  have h2 : 1125899906842624 / (-b) ≤ 1125899906842624 := Int.ediv_le_self _ (by decide)
  rw [e, Int.neg_neg, IntWalk.wrap64_in _ (by omega)]
set_option maxRecDepth 100000 in
set_option maxHeartbeats 2000000 in
theorem rtimes_any (a b : Int) (w : World) (h1 : -1125899906842624 ≤ a) (h2 : a ≤ 1125899906842624) (h3 : -1125899906842624 ≤ b) (h4 : b ≤ 1125899906842624) :
    Calls Tryz.prog 61 #[.int .i64 a, .int .i64 b] w fun e w' => e = .returned (.int .i64 (prodV a b)) ∧ w = w' := by
  by_cases ha : a = 0
  · have d1 : (a != 0) = false := by simp [ha]
    have HR := Lib.hid (show prodV a b = 0 from if_pos (.inl ha))
    have HM := Lib.hid (show a * b = 0 from by rw [ha, Int.zero_mul])
    clear ha
    go_enter Tryz.func61, Tryz.ntmps61
    go_wp2
    go_ret
    exact ⟨ret_int (by rw [HR.out, HM.out]; exact IntWalk.wrap64_in 0 (by omega)), rfl⟩
  · have d1 : (a != 0) = true := by simp [ha]
    by_cases hb : b = 0
    · have d2 : (b != 0) = false := by simp [hb]
      have HR := Lib.hid (show prodV a b = 0 from if_pos (.inr hb))
      have HM := Lib.hid (show a * b = 0 from by rw [hb, Int.mul_zero])
      clear ha hb
      go_enter Tryz.func61, Tryz.ntmps61
      go_wp2
      go_ret
      exact ⟨ret_int (by rw [HR.out, HM.out]; exact IntWalk.wrap64_in 0 (by omega)), rfl⟩
    · have d2 : (b != 0) = true := by simp [hb]
      have hr : prodV a b = if 1125899906842624 / absV b < absV a then (if (a < 0) = (b < 0) then 1125899906842625 else -1125899906842625) else a * b := if_neg (by omega)
      have hs := prod_small (a := a) hb
      by_cases n1 : a < 0
      · by_cases n2 : b < 0
        · skip
          skip
          have ea : absV a = (-a) := if_pos n1
          have eb : absV b = (-b) := if_pos n2
          rw [ea, eb] at hr hs
          have g1 : decide (a < 0) = _ := decide_eq_true n1
          have g2 : decide (b < 0) = _ := decide_eq_true n2
          have m1 : ¬ (-a) < 0 := by omega
          have m2 : 1 ≤ (-b) := by omega
          have hq : wrap64 (-Int.tdiv 1125899906842624 b) = 1125899906842624 / (-b) := by exact tdq n2
          by_cases n3 : 1125899906842624 / (-b) < (-a)
          · rw [if_pos n3, (if_pos (by simp [n1, n2]))] at hr
            have d3 : decide (wrap64 (-Int.tdiv 1125899906842624 b) < (-a)) = true := decide_eq_true (by rw [hq]; exact n3)
            have HR := Lib.hid hr
            clear hr hs ha hb n3 hq
            go_enter Tryz.func61, Tryz.ntmps61
            go_wp2
            go_ret
            exact ⟨ret_int HR.out.symm, rfl⟩
          · rw [if_neg n3] at hr
            have d3 : decide (wrap64 (-Int.tdiv 1125899906842624 b) < (-a)) = false := decide_eq_false (by rw [hq]; exact n3)
            have hs2 := hs n3
            have HR := Lib.hid hr
            clear hr hs ha hb n3 hq
            go_enter Tryz.func61, Tryz.ntmps61
            go_wp2
            go_ret
            exact ⟨ret_int HR.out.symm, rfl⟩
        · skip
          skip
          have ea : absV a = (-a) := if_pos n1
          have eb : absV b = b := if_neg n2
          rw [ea, eb] at hr hs
          have g1 : decide (a < 0) = _ := decide_eq_true n1
          have g2 : decide (b < 0) = _ := decide_eq_false n2
          have m1 : ¬ (-a) < 0 := by omega
          have m2 : 1 ≤ b := by omega
          have hq : (1125899906842624 : Int) / b = 1125899906842624 / b := by rfl
          by_cases n3 : 1125899906842624 / b < (-a)
          · rw [if_pos n3, (if_neg (by simp [n1, n2]))] at hr
            have d3 : decide ((1125899906842624 : Int) / b < (-a)) = true := decide_eq_true (by rw [hq]; exact n3)
            have HR := Lib.hid hr
            clear hr hs ha hb n3 hq
            go_enter Tryz.func61, Tryz.ntmps61
            go_wp2
            go_ret
            exact ⟨ret_int HR.out.symm, rfl⟩
          · rw [if_neg n3] at hr
            have d3 : decide ((1125899906842624 : Int) / b < (-a)) = false := decide_eq_false (by rw [hq]; exact n3)
            have hs2 := hs n3
            have HR := Lib.hid hr
            clear hr hs ha hb n3 hq
            go_enter Tryz.func61, Tryz.ntmps61
            go_wp2
            go_ret
            exact ⟨ret_int HR.out.symm, rfl⟩
      · by_cases n2 : b < 0
        · skip
          skip
          have ea : absV a = a := if_neg n1
          have eb : absV b = (-b) := if_pos n2
          rw [ea, eb] at hr hs
          have g1 : decide (a < 0) = _ := decide_eq_false n1
          have g2 : decide (b < 0) = _ := decide_eq_true n2
          have m1 : ¬ a < 0 := by omega
          have m2 : 1 ≤ (-b) := by omega
          have hq : wrap64 (-Int.tdiv 1125899906842624 b) = 1125899906842624 / (-b) := by exact tdq n2
          by_cases n3 : 1125899906842624 / (-b) < a
          · rw [if_pos n3, (if_neg (by simp [n1, n2]))] at hr
            have d3 : decide (wrap64 (-Int.tdiv 1125899906842624 b) < a) = true := decide_eq_true (by rw [hq]; exact n3)
            have HR := Lib.hid hr
            clear hr hs ha hb n3 hq
            go_enter Tryz.func61, Tryz.ntmps61
            go_wp2
            go_ret
            exact ⟨ret_int HR.out.symm, rfl⟩
          · rw [if_neg n3] at hr
            have d3 : decide (wrap64 (-Int.tdiv 1125899906842624 b) < a) = false := decide_eq_false (by rw [hq]; exact n3)
            have hs2 := hs n3
            have HR := Lib.hid hr
            clear hr hs ha hb n3 hq
            go_enter Tryz.func61, Tryz.ntmps61
            go_wp2
            go_ret
            exact ⟨ret_int HR.out.symm, rfl⟩
        · skip
          skip
          have ea : absV a = a := if_neg n1
          have eb : absV b = b := if_neg n2
          rw [ea, eb] at hr hs
          have g1 : decide (a < 0) = _ := decide_eq_false n1
          have g2 : decide (b < 0) = _ := decide_eq_false n2
          have m1 : ¬ a < 0 := by omega
          have m2 : 1 ≤ b := by omega
          have hq : (1125899906842624 : Int) / b = 1125899906842624 / b := by rfl
          by_cases n3 : 1125899906842624 / b < a
          · rw [if_pos n3, (if_pos (by simp [n1, n2]))] at hr
            have d3 : decide ((1125899906842624 : Int) / b < a) = true := decide_eq_true (by rw [hq]; exact n3)
            have HR := Lib.hid hr
            clear hr hs ha hb n3 hq
            go_enter Tryz.func61, Tryz.ntmps61
            go_wp2
            go_ret
            exact ⟨ret_int HR.out.symm, rfl⟩
          · rw [if_neg n3] at hr
            have d3 : decide ((1125899906842624 : Int) / b < a) = false := decide_eq_false (by rw [hq]; exact n3)
            have hs2 := hs n3
            have HR := Lib.hid hr
            clear hr hs ha hb n3 hq
            go_enter Tryz.func61, Tryz.ntmps61
            go_wp2
            go_ret
            exact ⟨ret_int HR.out.symm, rfl⟩

end Go.Proofs.YtdplphoohnnbcaaGreatDoor
