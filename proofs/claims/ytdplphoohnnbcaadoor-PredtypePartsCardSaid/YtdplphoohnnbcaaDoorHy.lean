/- Contract of antecedelaw28.small: it says yes or no. Bounds of negations, sums, differences and squares. Plain. Negations, sums, differences and products of trees in memory; their bounds. -/
import Derived.Test.YtdplphoohnnbcaaDoorHb
import Derived.Test.YtdplphoohnnbcaaDoorHx
import Derived.Deep.LoopGhost
import Derived.Test.YtdplphoohnnbcaaDoorHp
import Derived.Test.YtdplphoohnnbcaaDoorHw
namespace Go.Proofs.YtdplphoohnnbcaaDoor
open Go.RowKit Go.Shelf

set_option maxHeartbeats 400000 in
theorem sml1_any (w : World) (a b c d : Int) (e : Option Addr) (n cap : Nat) :
    Calls Tryd.prog 27 #[.agg #[.int .i64 a, .int .i64 b, .int .i64 c, .int .i64 d, .slice e n cap]] w fun r w' => r = .returned (.bool (decide (12 < (n : Int)))) ∧ Ext w w' := by
  go_enter Tryd.func27, Tryd.ntmps27
  go_wp2
  go_ret
  exact ⟨ret_bool (by simp), Ext.alloc _ _⟩
def SomeB (w : World) (e : Ending) (w' : World) : Prop := Ext w w' ∧ ∃ b : Bool, e = .returned (.bool b)
set_option maxRecDepth 100000 in
set_option maxHeartbeats 2000000 in
theorem sml_any (w : World) (T : TM) (hT : T.At w) : Calls Tryd.prog 9 #[T.val] w (SomeB w) := by
  have hn := hT.P.hn
  have HT := Lib.hid hT
  clear hT
  go_enter Tryd.func9, Tryd.ntmps9
  go_upto_region 1 with fail
  refine boxed1 (w := w) (G := fun x => Code.wp _ _ _ _ x) ?_
  intro w1 hx1 hs1 ⟨l0, c0, _, _⟩
  have hx11 : Ext w1 w1 := Ext.refl _
  clear hs1
  obtain ⟨ta, hta⟩ : ∃ a, a = T.a := ⟨_, rfl⟩
  rw [← hta] at c0
  have HTA := Lib.hid hta
  clear hta
  by_cases h10 : 10 < T.n
  · have b1 : decide ((10 : Int) < (T.n : Int)) = true := decide_eq_true (by omega)
    have b1' : decide (10 < T.n) = true := decide_eq_true h10
    go_wp2_with fail
    go_ret
    exact ⟨hx1, _, rfl⟩
  · have b1 : decide ((10 : Int) < (T.n : Int)) = false := decide_eq_false (by omega)
    have b1' : decide (10 < T.n) = false := decide_eq_false h10
    go_wp2_with fail
    clear b1 b1'
    go_loopg [3, 13] T.n (fun gg v3 v13 wr => ∃ k s : Nat, k ≤ T.n ∧ gg = T.n - k ∧ v3 = .int .i64 s ∧ v13 = .int .i64 k ∧ s ≤ k * 140737488355328 ∧ Ext w1 wr)
    case atStart => exact ⟨0, 0, by omega, rfl, rfl, rfl, by omega, hx11⟩
    case round =>
      obtain ⟨k, s, hk, rfl, rfl, rfl, ht, hxr⟩ := hrel
      have hxw := hx1.trans hxr
      by_cases hlt : k < T.n
      · have hlt' : (k : Int) < (T.n : Int) := by omega
        obtain rfl : ta = some ⟨T.b, T.off, none⟩ := by rw [HTA.out]; exact HT.out.P.pa (by omega)
        have pb := HT.out.P.pb (by omega)
        have p0 : ∀ w', Ext w w' → w'.cell? ⟨T.b, T.off + k * 3, none⟩ = some (.string (T.name k)) := fun w' h => HT.out.P.p0 w' h k hlt
        have p1 : ∀ w', Ext w w' → w'.cell? ⟨T.b, T.off + k * 3 + 1, none⟩ = some (.slice (T.va k) (T.vn k) (T.vc k)) := fun w' h => HT.out.P.p1 w' h k hlt
        have p2 : ∀ w', Ext w w' → w'.cell? ⟨T.b, T.off + k * 3 + 2, none⟩ = some (.slice (T.ea k) (T.en k) (T.ec k)) := fun w' h => HT.out.P.p2 w' h k hlt
        have hen := HT.out.E.he k hlt
        have hvn := HT.out.V.hv k hlt
        go_upto_region 7 with fail
        refine boxed1 (w := wr) (G := fun x => Code.wp _ _ _ _ x) ?_
        intro w2 hx2 hs2 ⟨l2, c2, _, _⟩
        have hx22 : Ext w2 w2 := Ext.refl _
        have hxw2 := hxw.trans hx2
        have hx12 := hxr.trans hx2
        clear hs2 p0 p1 p2 pb
        generalize wr.heap.size = xb at l2 c2 ⊢
        obtain ⟨m, hm⟩ : ∃ m : Nat, m = s + T.en k := ⟨_, rfl⟩
        have HM := Lib.hid (show m ≤ (k + 1) * 140737488355328 by omega)
        have hmw : IntKind.i64.wrap ((s : Int) + (T.en k : Int)) = (m : Int) := by rw [IntWalk.i64_in _ (by omega)]; omega
        have hadd : ((s : Int) + (T.en k : Int)) = (m : Int) := by omega
        clear hm
        by_cases h12 : 12 < T.vn k
        · have b2 : decide ((12 : Int) < (T.vn k : Int)) = true := decide_eq_true (by omega)
          have b2' : decide (12 < T.vn k) = true := decide_eq_true h12
          go_wp2_with fail
          go_ret
          exact ⟨hxw2, _, rfl⟩
        · have b2 : decide ((12 : Int) < (T.vn k : Int)) = false := decide_eq_false (by omega)
          have b2' : decide (12 < T.vn k) = false := decide_eq_false h12
          have hEv := has_Event w2 (T.ea k) (T.eb k) (T.eo k) (T.en k) (T.ec k) (fun i => .int .i64 (T.kind k i)) (fun i => .int .i64 (T.peer k i)) (fun i => .int .i64 (T.msg k i)) (fun i => .int .i64 (T.time k i)) (fun i => .slice (T.aa k i) (T.an k i) (T.ac k i))
            27 #[] (fun i => decide (12 < (T.an k i : Int))) hen (fun h => HT.out.E.ea k hlt h) (fun w' hx i hi => HT.out.E.e0 w' (hxw2.trans hx) k i hlt hi) (fun w' hx i hi => HT.out.E.e1 w' (hxw2.trans hx) k i hlt hi) (fun w' hx i hi => HT.out.E.e2 w' (hxw2.trans hx) k i hlt hi) (fun w' hx i hi => HT.out.E.e3 w' (hxw2.trans hx) k i hlt hi) (fun w' hx i hi => HT.out.E.e4 w' (hxw2.trans hx) k i hlt hi)
            (enters_of Tryd.func27 (by kernel_rfl) rfl) (fun i hi w' hx => sml1_any w' _ _ _ _ _ _ _)
          cases hE : anyB (fun i => decide (12 < (T.an k i : Int))) (T.en k) with
          | true =>
            rw [hE] at hEv
            clear hE
            go_wp2_with fail
            go_at_call 26
            refine hEv.mono ?_
            rintro e w3 ⟨rfl, hx3⟩
            have hx33 := hxw2.trans hx3
            clear hEv
            go_wp2_with fail
            go_ret
            exact ⟨hx33, _, rfl⟩
          | false =>
            rw [hE] at hEv
            clear hE
            go_wp2_with fail
            go_at_call 26
            refine hEv.mono ?_
            rintro e w3 ⟨rfl, hx3⟩
            have hx33 := hxw2.trans hx3
            have hx13 := hx12.trans hx3
            clear hEv
            go_wp2_with fail
            go_roundg (T.n - (k + 1))
            case rel => exact ⟨k + 1, m, by omega, rfl, rfl, by go_num, HM.out, hx13⟩
            case measure => omega
      · have hke : k = T.n := by omega
        subst hke
        go_wp2_with fail
        go_ret
        exact ⟨hxw, _, rfl⟩

end Go.Proofs.YtdplphoohnnbcaaDoor

namespace Go.Proofs.YtdplphoohnnbcaaDoor
open Go.RowKit

def ansL : Option (Int × Int) → Int | some y => y.1 | none => 0
def ansH : Option (Int × Int) → Int | some y => y.2 | none => 0
def ansC : Option (Int × Int) → Int | some _ => 0 | none => 9
theorem typed_int {T : Tr} {p : Pr} (h : p.All T.IntN) : p.Typed := by
  induction p using Pr.ind with
  | h p ih =>
    refine (Pr.All_eq _ p).2 ⟨fun i hi => ?_, fun i hi => ih i hi (h.kid hi)⟩
    have h1 := (h.kid hi).here.2.2
    have h2 := h.here.2.2
    unfold resT needT
    rw [if_pos h1, if_pos (by omega)]
theorem bound_int {T : Tr} {p : Pr} (hV : T.Valid) (hc : p.cnt ≤ 200) (hd : p.dep ≤ 20) (h : p.All T.IntN) : T.BoundIs p (ansL (T.ival p)) (ansH (T.ival p)) (ansC (T.ival p)) := by
  have hF : p.Formed := ⟨hc, hd, Pr.All.mono (fun _ h => h.1) h⟩
  have hR : p.All T.ResN := Pr.All.mono (fun _ h => h.2.1) h
  have h8 := h.here.2.2
  cases hx : T.ival p with
  | none => exact ⟨9, .inr (.inr (.inr (.inl ⟨hV, hF, hR, typed_int h, fun hs => ((Tr.SmallP_eq _ _).1 hs).1 h8 hx, rfl⟩))), .inl ⟨by decide, rfl, rfl, rfl⟩⟩
  | some x => exact ⟨0, .inr (.inr (.inr (.inr ⟨hV, hF, hR, typed_int h, (Tr.SmallP_eq _ _).2 ⟨fun _ => by rw [hx]; simp, fun h => absurd h8 h⟩, rfl⟩))), .inr (.inr ⟨rfl, h8, hx, rfl⟩)⟩
theorem Tr.BoundIs.int {T : Tr} {p : Pr} {a b : Int} (h : T.BoundIs p a b 0) : T.Valid ∧ p.All T.IntN ∧ T.ival p = some (a, b) := by
  obtain ⟨d, hd, h⟩ := h
  rcases h with ⟨h1, _, _, h2⟩ | ⟨_, _, _, _, h2⟩ | ⟨rfl, h8, hx, _⟩
  · exact absurd h2.symm h1
  · cases h2
  · rcases hd with ⟨_, h⟩ | ⟨_, _, _, h⟩ | ⟨_, _, _, _, h⟩ | ⟨_, _, _, _, _, h⟩ | ⟨hV, hF, hR, hT, _, _⟩
    · cases h
    · cases h
    · cases h
    · cases h
    · exact ⟨hV, Tr.intTree hF.2.2 hR hT h8, hx⟩
def n1 (g : Nat) (q : Pr) : Pr := .mk 5 0 0 0 ⟨#[]⟩ (some ⟨g, 0, none⟩) g 0 1 1 fun _ => q
def n2 (k : Int) (g : Nat) (p q : Pr) : Pr := .mk k 0 0 0 ⟨#[]⟩ (some ⟨g, 0, none⟩) g 0 2 2 fun i => if i = 0 then p else q
theorem n1_cnt (g : Nat) (q : Pr) : (n1 g q).cnt = 1 + q.cnt := by
  rw [Pr.cnt_eq]; show 1 + (0 + q.cnt) = _; omega
theorem n1_dep (g : Nat) (q : Pr) : (n1 g q).dep = 1 + q.dep := by
  rw [Pr.dep_eq]; show 1 + max 0 q.dep = _; omega
theorem n2_cnt (k : Int) (g : Nat) (p q : Pr) : (n2 k g p q).cnt = 1 + (p.cnt + q.cnt) := by
  rw [Pr.cnt_eq]; show 1 + (0 + p.cnt + q.cnt) = _; omega
theorem n2_dep (k : Int) (g : Nat) (p q : Pr) : (n2 k g p q).dep = 1 + max p.dep q.dep := by
  rw [Pr.dep_eq]; show 1 + max (max 0 p.dep) q.dep = _; omega
theorem resP_no {T : Tr} {k a b : Int} {s : ByteArray} (h : 5 ≤ k) : T.ResP k a b s := ⟨fun h => by omega, fun h => by omega, fun h => by omega⟩
theorem n1_int {T : Tr} {q : Pr} (g : Nat) (h : q.All T.IntN) : (n1 g q).All T.IntN := by
  refine (Pr.All_eq _ _).2 ⟨⟨?_, resP_no (by show (5 : Int) ≤ 5; decide), by show (5 : Int) ≤ 8; decide⟩, fun i _ => h⟩
  exact ⟨by show (1 : Int) ≤ 5; decide, by show (5 : Int) ≤ 21; decide, rfl, by show (0 : Int) ≤ 0; decide, by show (0 : Int) ≤ 1125899906842624; decide, fun h => absurd rfl h, .inr ⟨rfl, rfl, noName⟩⟩
theorem n2_int {T : Tr} {p q : Pr} {k : Int} (h6 : 6 ≤ k) (h8 : k ≤ 8) (g : Nat) (hp : p.All T.IntN) (hq : q.All T.IntN) : (n2 k g p q).All T.IntN := by
  refine (Pr.All_eq _ _).2 ⟨⟨?_, resP_no (by show (5 : Int) ≤ k; omega), h8⟩, fun i _ => ?_⟩
  · exact ⟨by show (1 : Int) ≤ k; omega, by show k ≤ (21 : Int); omega, by show (2 : Int) = partsI k; rw [partsI_2 (.inl ⟨h6, by omega⟩)], by show (0 : Int) ≤ 0; decide, by show (0 : Int) ≤ 1125899906842624; decide, fun h => absurd rfl h, .inr ⟨rfl, rfl, noName⟩⟩
  · show (if i = 0 then p else q).All _
    split
    · exact hp
    · exact hq
theorem n1_ival {T : Tr} {q : Pr} {y : Int × Int} (g : Nat) (h : T.ival q = some y) : T.ival (n1 g q) = chkI (-y.2, -y.1) := by
  rw [Tr.ival_eq]
  show T.nodeI 5 0 0 0 ⟨#[]⟩ 1 (T.ival q) (T.ival q) = _
  rw [h]
  rfl
theorem n2_ival {T : Tr} {p q : Pr} {x y : Int × Int} (k : Int) (g : Nat) (hp : T.ival p = some x) (hq : T.ival q = some y) : T.ival (n2 k g p q) = chkI (combI k x y) := by
  rw [Tr.ival_eq]
  show T.nodeI k 0 0 0 ⟨#[]⟩ 2 (T.ival p) (T.ival q) = _
  rw [hp, hq]
  rfl
theorem prodV_neg (x y : Int) : prodV (-x) y = -prodV x y := by
  unfold prodV
  by_cases h0 : x = 0 ∨ y = 0
  · rw [if_pos h0, if_pos (by omega)]; rfl
  · rw [if_neg h0, if_neg (by omega)]
    have e : absV (-x) = absV x := by unfold absV; split <;> split <;> omega
    rw [e]
    by_cases h1 : 1125899906842624 / absV y < absV x
    · rw [if_pos h1, if_pos h1]
      by_cases hx : x < 0
      · have : ¬ -x < 0 := by omega
        by_cases hy : y < 0
        · rw [if_neg (by rw [eq_false this, eq_true hy]; simp), if_pos (by rw [eq_true hx, eq_true hy])]
        · rw [if_pos (by rw [eq_false this, eq_false hy]), if_neg (by rw [eq_true hx, eq_false hy]; simp)]; rfl
      · have : -x < 0 := by omega
        by_cases hy : y < 0
        · rw [if_pos (by rw [eq_true this, eq_true hy]), if_neg (by rw [eq_false hx, eq_true hy]; simp)]; rfl
        · rw [if_neg (by rw [eq_true this, eq_false hy]; simp), if_pos (by rw [eq_false hx, eq_false hy])]
    · rw [if_neg h1, if_neg h1, Int.neg_mul]
theorem prodV_sq (x : Int) : 0 ≤ prodV x x := by
  unfold prodV
  split
  · decide
  · split
    · rw [if_pos rfl]; decide
    · by_cases h : x < 0
      · have := Int.mul_pos_of_neg_of_neg h h; omega
      · exact Int.mul_nonneg (by omega) (by omega)
theorem comb_sq (x : Int × Int) : combI 8 (-x.2, -x.1) x = (-(combI 8 x x).2, -(combI 8 x x).1) ∧ (combI 8 x x).1 ≤ (combI 8 x x).2 ∧ 0 ≤ (combI 8 x x).2 := by
  have h := prodV_sq x.1
  unfold combI
  simp only [show ¬ (8 : Int) = 5 by decide, show ¬ (8 : Int) = 6 by decide, show ¬ (8 : Int) = 7 by decide, if_false, prodV_neg]
  refine ⟨Prod.ext ?_ ?_, ?_, ?_⟩ <;> (try simp only) <;> omega
theorem chk_neg {x y : Int × Int} (h : y = (-x.2, -x.1)) : (chkI x = some x ∧ chkI y = some (-x.2, -x.1)) ∨ (chkI x = none ∧ chkI y = none) := by
  subst h
  unfold chkI
  by_cases h : -1125899906842624 ≤ x.1 ∧ x.2 ≤ 1125899906842624
  · left; rw [if_pos h, if_pos (by show _ ≤ -x.2 ∧ -x.1 ≤ _; omega)]; exact ⟨rfl, rfl⟩
  · right; rw [if_neg h, if_neg (by show ¬ (_ ≤ -x.2 ∧ -x.1 ≤ _); omega)]; exact ⟨rfl, rfl⟩

end Go.Proofs.YtdplphoohnnbcaaDoor

namespace Go.Proofs.YtdplphoohnnbcaaDoor
open Go.RowKit Go.Shelf

theorem n1_at {q : Pr} {g : Nat} {w : World} (h : Hold w g #[.int .i64 q.kind, .int .i64 q.num, .int .i64 q.proc, .int .i64 q.peer, .string q.name, .slice q.a q.len q.cap]) (hq : q.At w) : (n1 g q).At w := by
  have b := h.box
  refine (Pr.All_eq _ _).2 ⟨⟨okI_of (by show (-1000 : Int) ≤ 5; decide) (by show (5 : Int) ≤ 1000; decide), ok0, ok0, ok0, by show (0 : Nat) ≤ _; decide, by show (1 : Nat) ≤ _; decide, Nat.le_refl _, fun _ => rfl, fun _ => b.lt,
    fun w' x i hi => ?_, fun w' x i hi => ?_, fun w' x i hi => ?_, fun w' x i hi => ?_, fun w' x i hi => ?_, fun w' x i hi => ?_⟩, fun i hi => hq⟩
  · obtain rfl := lt1 hi; exact b.cell w' x 0
  · obtain rfl := lt1 hi; exact b.cell w' x 1
  · obtain rfl := lt1 hi; exact b.cell w' x 2
  · obtain rfl := lt1 hi; exact b.cell w' x 3
  · obtain rfl := lt1 hi; exact b.cell w' x 4
  · obtain rfl := lt1 hi; exact b.cell w' x 5
theorem n2_at {p q : Pr} {g : Nat} {w : World} {k : Int} (h1 : 1 ≤ k) (h2 : k ≤ 21) (h : Hold w g #[.int .i64 p.kind, .int .i64 p.num, .int .i64 p.proc, .int .i64 p.peer, .string p.name, .slice p.a p.len p.cap, .int .i64 q.kind, .int .i64 q.num, .int .i64 q.proc, .int .i64 q.peer, .string q.name, .slice q.a q.len q.cap]) (hp : p.At w) (hq : q.At w) : (n2 k g p q).At w := by
  have b := h.box
  refine (Pr.All_eq _ _).2 ⟨⟨okI_of (by show (-1000 : Int) ≤ k; omega) (by show k ≤ (1000 : Int); omega), ok0, ok0, ok0, by show (0 : Nat) ≤ _; decide, by show (2 : Nat) ≤ _; decide, Nat.le_refl _, fun _ => rfl, fun _ => b.lt,
    fun w' x i hi => ?_, fun w' x i hi => ?_, fun w' x i hi => ?_, fun w' x i hi => ?_, fun w' x i hi => ?_, fun w' x i hi => ?_⟩, fun i _ => ?_⟩
  rotate_right
  · show (if i = 0 then p else q).All _
    split
    · exact hp
    · exact hq
  · rcases lt2 hi with rfl | rfl
    · exact b.cell w' x 0
    · exact b.cell w' x 6
  · rcases lt2 hi with rfl | rfl
    · exact b.cell w' x 1
    · exact b.cell w' x 7
  · rcases lt2 hi with rfl | rfl
    · exact b.cell w' x 2
    · exact b.cell w' x 8
  · rcases lt2 hi with rfl | rfl
    · exact b.cell w' x 3
    · exact b.cell w' x 9
  · rcases lt2 hi with rfl | rfl
    · exact b.cell w' x 4
    · exact b.cell w' x 10
  · rcases lt2 hi with rfl | rfl
    · exact b.cell w' x 5
    · exact b.cell w' x 11
/-- the bounds of an expression, called -/
theorem bound_of_int (W : World) (hTab : TabAt W) (T : TM) (hT : T.At W) (p : Pr) (hp : p.At W) (hV : T.toTr.Valid) (hc : p.cnt ≤ 200) (hd : p.dep ≤ 20) (hI : p.All T.toTr.IntN) {x : Option (Int × Int)} (hx : T.toTr.ival p = x) :
    Calls Tryd.prog 10 #[T.val, p.val] W fun e w' => e = .returned (.tuple #[.int .i64 (ansL x), .int .i64 (ansH x), .int .i64 (ansC x)]) ∧ Ext W w' := by
  subst hx
  exact Calls.mono (pBound_any W hTab T hT p hp) fun e w' ⟨hx, l', h', c', he, hb'⟩ => by
    obtain ⟨e1, e2, e3⟩ := hb'.uniq (bound_int hV hc hd hI)
    exact ⟨by rw [he, e1, e2, e3], hx⟩

end Go.Proofs.YtdplphoohnnbcaaDoor
