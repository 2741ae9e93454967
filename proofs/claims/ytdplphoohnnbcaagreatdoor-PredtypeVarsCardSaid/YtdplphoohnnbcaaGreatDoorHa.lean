/- Plain notions: what a call leaves alone (Ext), and small lemmas on worlds. Nothing of the program. A trace as plain data (by index functions), and where it lies in memory. Nothing of the program. Small lemmas on cells and stores. Nothing of the program. A predicate (a tree) as plain data, with the addresses of its parts; where it lies in memory. Nothing of the program. A step of a drawn region that keeps what it holds. Nothing of the program. -/
import Derived.Test.YtdplphoohnnbcaaGreatDoorRows
import Derived.WalkKit
import Derived.WalkSpells
import Derived.WalkLawsBesides
import Derived.Deep.QuietTactic
import Derived.BigQuiet
import Derived.Lib.Hide
import Derived.Deep.Cut
import Derived.Deep.DeepCutAuto
import Derived.RangeFuncNested
import Derived.Deep.RegionHeld3
import Derived.Lib.QuietBelow
namespace Go.Proofs.YtdplphoohnnbcaaGreatDoor
open Go.RowKit

/-- what lay in w lies in w' as it lay -/
def Ext (w w' : World) : Prop := Below w.heap.size w w'
theorem Ext.refl (w : World) : Ext w w := Below.refl _ _
theorem Ext.trans {a b c : World} (h : Ext a b) (k : Ext b c) : Ext a c := Below.trans h (Below.mono k h.size)
theorem Ext.alloc (w : World) (o : Obj) : Ext w (w.alloc o) := (Below.refl _ _).alloc (Nat.le_refl _) _
theorem Ext.alloc' {w w' : World} (h : Ext w w') (o : Obj) : Ext w (w'.alloc o) := h.trans (Ext.alloc _ _)
theorem Ext.drew {w w' : World} (h : Ext w w') : Ext w w'.drew := Below.drew h
theorem Ext.drewN {w w' : World} (h : Ext w w') (n : Nat) : Ext w (w'.drewN n) := below_drewN h n
theorem Ext.setCell {w w' : World} (h : Ext w w') {p : Addr} (hp : w.heap.size ≤ p.block) (v : Value) : Ext w (w'.setCell p v) := Below.setCell h hp v
theorem Ext.le {w w' : World} (h : Ext w w') : w.heap.size ≤ w'.heap.size := h.size
theorem Ext.below {w w' : World} (h : Ext w w') : Below w.heap.size w w' := h
theorem cell_lt {w : World} {p : Addr} {v : Value} (hp : w.cell? p = some v) : p.block < w.heap.size := by
  simp only [World.cell?] at hp
  apply Nat.lt_of_not_le; intro hge
  rw [Array.getElem?_eq_none hge] at hp; simp at hp
theorem Ext.cell {w w' : World} (h : Ext w w') {p : Addr} {v : Value} (hp : w.cell? p = some v) : w'.cell? p = some v := by
  rw [Below.cell h (cell_lt hp)]; exact hp
theorem Ext.frozen {w w' : World} (h : Ext w w') {p : Addr} (hp : p.block < w.heap.size) : w'.frozen? p = w.frozen? p := Below.frozen h hp

/-- a box: a block of the call's own, whose cells are known in every later world -/
structure Box (w : World) (b : Nat) (c : Array Value) : Prop where
  lt : ∀ w', Ext w w' → b < w'.heap.size
  cell : ∀ w', Ext w w' → ∀ i, w'.cell? ⟨b, i, none⟩ = c[i]?
  frozen : ∀ w', Ext w w' → ∀ i, w'.frozen? ⟨b, i, none⟩ = false
  hold : ∃ t, w.heap[b]? = some (.cells c t (0, 0))
theorem Box.of {w : World} {b : Nat} {c : Array Value} {t : TypeId} (h : w.heap[b]? = some (.cells c t (0, 0))) : Box w b c := by
  have hlt : b < w.heap.size := by
    apply Nat.lt_of_not_le; intro hge
    rw [Array.getElem?_eq_none hge] at h; simp at h
  refine ⟨fun w' hx => Nat.lt_of_lt_of_le hlt hx.le, fun w' hx i => ?_, fun w' hx i => ?_, t, h⟩
  · have := hx.block b hlt
    simp [World.cell?, this, h]
  · have := hx.block b hlt
    simp [World.frozen?, this, h]
theorem Box.ext {w w' : World} {b : Nat} {c : Array Value} (h : Box w b c) (hx : Ext w w') : Box w' b c :=
  ⟨fun _ hy => h.lt _ (hx.trans hy), fun _ hy => h.cell _ (hx.trans hy), fun _ hy => h.frozen _ (hx.trans hy), by
    obtain ⟨t, ht⟩ := h.hold
    exact ⟨t, by rw [hx.block b (h.lt w (Ext.refl _))]; exact ht⟩⟩

/-- one box was made -/
theorem boxed1 {w : World} {c : Array Value} {t : TypeId} {G : World → Prop}
    (h : ∀ w2, Ext w w2 → w2.heap.size = w.heap.size + 1 → Box w2 w.heap.size c → G w2) : G (w.alloc (.cells c t)) :=
  h _ (Ext.alloc _ _) (by simp) (Box.of (t := t) (by show (w.heap.push _)[w.heap.size]? = _; simp))
theorem boxed2 {w : World} {c d : Array Value} {tc td : TypeId} {G : World → Prop}
    (h : ∀ w2, Ext w w2 → w2.heap.size = w.heap.size + 1 + 1 → Box w2 w.heap.size c → Box w2 (w.heap.size + 1) d → G w2) : G ((w.alloc (.cells c tc)).alloc (.cells d td)) :=
  boxed1 (G := fun x => G (x.alloc (.cells d td))) fun w1 hx hs bc => by
    refine boxed1 fun w2 hx2 hs2 hb2 => ?_
    rw [hs] at hb2 hs2
    exact h w2 (hx.trans hx2) hs2 (bc.ext hx2) hb2
theorem boxed3 {w : World} {c d e : Array Value} {tc td te : TypeId} {G : World → Prop}
    (h : ∀ w2, Ext w w2 → w2.heap.size = w.heap.size + 1 + 1 + 1 → Box w2 w.heap.size c → Box w2 (w.heap.size + 1) d → Box w2 (w.heap.size + 1 + 1) e → G w2) : G (((w.alloc (.cells c tc)).alloc (.cells d td)).alloc (.cells e te)) :=
  boxed2 (G := fun x => G (x.alloc (.cells e te))) fun w1 hx hs bc bd => by
    refine boxed1 fun w2 hx2 hs2 hb2 => ?_
    rw [hs] at hb2 hs2
    exact h w2 (hx.trans hx2) hs2 (bc.ext hx2) (bd.ext hx2) hb2
theorem boxed4 {w : World} {c d e f : Array Value} {tc td te tf : TypeId} {G : World → Prop}
    (h : ∀ w2, Ext w w2 → w2.heap.size = w.heap.size + 1 + 1 + 1 + 1 → Box w2 w.heap.size c → Box w2 (w.heap.size + 1) d → Box w2 (w.heap.size + 1 + 1) e → Box w2 (w.heap.size + 1 + 1 + 1) f → G w2) : G ((((w.alloc (.cells c tc)).alloc (.cells d td)).alloc (.cells e te)).alloc (.cells f tf)) :=
  boxed3 (G := fun x => G (x.alloc (.cells f tf))) fun w1 hx hs bc bd be => by
    refine boxed1 fun w2 hx2 hs2 hb2 => ?_
    rw [hs] at hb2 hs2
    exact h w2 (hx.trans hx2) hs2 (bc.ext hx2) (bd.ext hx2) (be.ext hx2) hb2
theorem boxed5 {w : World} {c d e f g : Array Value} {tc td te tf tg : TypeId} {G : World → Prop}
    (h : ∀ w2, Ext w w2 → w2.heap.size = w.heap.size + 1 + 1 + 1 + 1 + 1 → Box w2 w.heap.size c → Box w2 (w.heap.size + 1) d → Box w2 (w.heap.size + 1 + 1) e → Box w2 (w.heap.size + 1 + 1 + 1) f → Box w2 (w.heap.size + 1 + 1 + 1 + 1) g → G w2) : G (((((w.alloc (.cells c tc)).alloc (.cells d td)).alloc (.cells e te)).alloc (.cells f tf)).alloc (.cells g tg)) :=
  boxed4 (G := fun x => G (x.alloc (.cells g tg))) fun w1 hx hs bc bd be bf => by
    refine boxed1 fun w2 hx2 hs2 hb2 => ?_
    rw [hs] at hb2 hs2
    exact h w2 (hx.trans hx2) hs2 (bc.ext hx2) (bd.ext hx2) (be.ext hx2) (bf.ext hx2) hb2
theorem boxed6 {w : World} {c d e f g u : Array Value} {tc td te tf tg tu : TypeId} {G : World → Prop}
    (h : ∀ w2, Ext w w2 → w2.heap.size = w.heap.size + 1 + 1 + 1 + 1 + 1 + 1 → Box w2 w.heap.size c → Box w2 (w.heap.size + 1) d → Box w2 (w.heap.size + 1 + 1) e → Box w2 (w.heap.size + 1 + 1 + 1) f → Box w2 (w.heap.size + 1 + 1 + 1 + 1) g → Box w2 (w.heap.size + 1 + 1 + 1 + 1 + 1) u → G w2) : G ((((((w.alloc (.cells c tc)).alloc (.cells d td)).alloc (.cells e te)).alloc (.cells f tf)).alloc (.cells g tg)).alloc (.cells u tu)) :=
  boxed5 (G := fun x => G (x.alloc (.cells u tu))) fun w1 hx hs bc bd be bf bg => by
    refine boxed1 fun w2 hx2 hs2 hb2 => ?_
    rw [hs] at hb2 hs2
    exact h w2 (hx.trans hx2) hs2 (bc.ext hx2) (bd.ext hx2) (be.ext hx2) (bf.ext hx2) (bg.ext hx2) hb2
theorem boxed7 {w : World} {c d e f g u v : Array Value} {tc td te tf tg tu tv : TypeId} {G : World → Prop}
    (h : ∀ w2, Ext w w2 → w2.heap.size = w.heap.size + 1 + 1 + 1 + 1 + 1 + 1 + 1 → Box w2 w.heap.size c → Box w2 (w.heap.size + 1) d → Box w2 (w.heap.size + 1 + 1) e → Box w2 (w.heap.size + 1 + 1 + 1) f → Box w2 (w.heap.size + 1 + 1 + 1 + 1) g → Box w2 (w.heap.size + 1 + 1 + 1 + 1 + 1) u → Box w2 (w.heap.size + 1 + 1 + 1 + 1 + 1 + 1) v → G w2) : G (((((((w.alloc (.cells c tc)).alloc (.cells d td)).alloc (.cells e te)).alloc (.cells f tf)).alloc (.cells g tg)).alloc (.cells u tu)).alloc (.cells v tv)) :=
  boxed6 (G := fun x => G (x.alloc (.cells v tv))) fun w1 hx hs bc bd be bf bg bu => by
    refine boxed1 fun w2 hx2 hs2 hb2 => ?_
    rw [hs] at hb2 hs2
    exact h w2 (hx.trans hx2) hs2 (bc.ext hx2) (bd.ext hx2) (be.ext hx2) (bf.ext hx2) (bg.ext hx2) (bu.ext hx2) hb2
theorem boxed8 {w : World} {c d e f g u v y : Array Value} {tc td te tf tg tu tv ty : TypeId} {G : World → Prop}
    (h : ∀ w2, Ext w w2 → w2.heap.size = w.heap.size + 1 + 1 + 1 + 1 + 1 + 1 + 1 + 1 → Box w2 w.heap.size c → Box w2 (w.heap.size + 1) d → Box w2 (w.heap.size + 1 + 1) e → Box w2 (w.heap.size + 1 + 1 + 1) f → Box w2 (w.heap.size + 1 + 1 + 1 + 1) g → Box w2 (w.heap.size + 1 + 1 + 1 + 1 + 1) u → Box w2 (w.heap.size + 1 + 1 + 1 + 1 + 1 + 1) v → Box w2 (w.heap.size + 1 + 1 + 1 + 1 + 1 + 1 + 1) y → G w2) : G ((((((((w.alloc (.cells c tc)).alloc (.cells d td)).alloc (.cells e te)).alloc (.cells f tf)).alloc (.cells g tg)).alloc (.cells u tu)).alloc (.cells v tv)).alloc (.cells y ty)) :=
  boxed7 (G := fun x => G (x.alloc (.cells y ty))) fun w1 hx hs bc bd be bf bg bu bv => by
    refine boxed1 fun w2 hx2 hs2 hb2 => ?_
    rw [hs] at hb2 hs2
    exact h w2 (hx.trans hx2) hs2 (bc.ext hx2) (bd.ext hx2) (be.ext hx2) (bf.ext hx2) (bg.ext hx2) (bu.ext hx2) (bv.ext hx2) hb2

theorem ret_eq {a b : Value} (h : a = b) : Ending.returned a = .returned b := by rw [h]
theorem ret_bool {a b : Bool} (h : a = b) : Ending.returned (.bool a) = .returned (.bool b) := by rw [h]
theorem ret_int {k : IntKind} {a b : Int} (h : a = b) : Ending.returned (.int k a) = .returned (.int k b) := by rw [h]

end Go.Proofs.YtdplphoohnnbcaaGreatDoor

namespace Go.Proofs.YtdplphoohnnbcaaGreatDoor
open Go.RowKit

def okI (n : Int) : Prop := -9223372036854775808 ≤ n ∧ n ≤ 9223372036854775807

/-- A trace: n processes; process k has the name, vn k variables, en k events; event i of it has kind, peer, message, time, an k i assignments. -/
structure Tr where
  n : Nat
  name : Nat → ByteArray
  vn : Nat → Nat
  vname : Nat → Nat → ByteArray
  vinit : Nat → Nat → Int
  en : Nat → Nat
  kind : Nat → Nat → Int
  peer : Nat → Nat → Int
  msg : Nat → Nat → Int
  time : Nat → Nat → Int
  an : Nat → Nat → Nat
  avar : Nat → Nat → Nat → Int
  aval : Nat → Nat → Nat → Int

/-- the addresses: of the slice of processes, of the slices of variables and of events, of the slices of assignments -/
structure TM extends Tr where
  a : Option Addr
  b : Nat
  off : Nat
  cap : Nat
  va : Nat → Option Addr
  vb : Nat → Nat
  vo : Nat → Nat
  vc : Nat → Nat
  ea : Nat → Option Addr
  eb : Nat → Nat
  eo : Nat → Nat
  ec : Nat → Nat
  aa : Nat → Nat → Option Addr
  ab : Nat → Nat → Nat
  ao : Nat → Nat → Nat
  ac : Nat → Nat → Nat

abbrev TM.sl (T : TM) : Value := .slice T.a T.n T.cap
abbrev TM.val (T : TM) : Value := .agg #[.slice T.a T.n T.cap]
/-- event i of process k, as a value -/
abbrev TM.ev (T : TM) (k i : Nat) : Value := .agg #[.int .i64 (T.kind k i), .int .i64 (T.peer k i), .int .i64 (T.msg k i), .int .i64 (T.time k i), .slice (T.aa k i) (T.an k i) (T.ac k i)]
/-- process k, as a value -/
abbrev TM.pr (T : TM) (k : Nat) : Value := .agg #[.string (T.name k), .slice (T.va k) (T.vn k) (T.vc k), .slice (T.ea k) (T.en k) (T.ec k)]

/-- the processes lie in memory -/
structure TM.AtP (T : TM) (w : World) : Prop where
  hn : T.n ≤ 140737488355328
  pc : T.n ≤ T.cap
  pa : 0 < T.n → T.a = some ⟨T.b, T.off, none⟩
  pb : 0 < T.n → ∀ w', Ext w w' → T.b < w'.heap.size
  p0 : ∀ w', Ext w w' → ∀ k, k < T.n → w'.cell? ⟨T.b, T.off + k * 3, none⟩ = some (.string (T.name k))
  p1 : ∀ w', Ext w w' → ∀ k, k < T.n → w'.cell? ⟨T.b, T.off + k * 3 + 1, none⟩ = some (.slice (T.va k) (T.vn k) (T.vc k))
  p2 : ∀ w', Ext w w' → ∀ k, k < T.n → w'.cell? ⟨T.b, T.off + k * 3 + 2, none⟩ = some (.slice (T.ea k) (T.en k) (T.ec k))
/-- the variables lie in memory -/
structure TM.AtV (T : TM) (w : World) : Prop where
  hv : ∀ k, k < T.n → T.vn k ≤ 140737488355328
  vc : ∀ k, k < T.n → T.vn k ≤ T.vc k
  va : ∀ k, k < T.n → 0 < T.vn k → T.va k = some ⟨T.vb k, T.vo k, none⟩
  vb : ∀ k, k < T.n → 0 < T.vn k → ∀ w', Ext w w' → T.vb k < w'.heap.size
  v0 : ∀ w', Ext w w' → ∀ k i, k < T.n → i < T.vn k → w'.cell? ⟨T.vb k, T.vo k + i * 2, none⟩ = some (.string (T.vname k i))
  v1 : ∀ w', Ext w w' → ∀ k i, k < T.n → i < T.vn k → w'.cell? ⟨T.vb k, T.vo k + i * 2 + 1, none⟩ = some (.int .i64 (T.vinit k i))
/-- the events lie in memory -/
structure TM.AtE (T : TM) (w : World) : Prop where
  he : ∀ k, k < T.n → T.en k ≤ 140737488355328
  ec : ∀ k, k < T.n → T.en k ≤ T.ec k
  ea : ∀ k, k < T.n → 0 < T.en k → T.ea k = some ⟨T.eb k, T.eo k, none⟩
  eb : ∀ k, k < T.n → 0 < T.en k → ∀ w', Ext w w' → T.eb k < w'.heap.size
  e0 : ∀ w', Ext w w' → ∀ k i, k < T.n → i < T.en k → w'.cell? ⟨T.eb k, T.eo k + i * 5, none⟩ = some (.int .i64 (T.kind k i))
  e1 : ∀ w', Ext w w' → ∀ k i, k < T.n → i < T.en k → w'.cell? ⟨T.eb k, T.eo k + i * 5 + 1, none⟩ = some (.int .i64 (T.peer k i))
  e2 : ∀ w', Ext w w' → ∀ k i, k < T.n → i < T.en k → w'.cell? ⟨T.eb k, T.eo k + i * 5 + 2, none⟩ = some (.int .i64 (T.msg k i))
  e3 : ∀ w', Ext w w' → ∀ k i, k < T.n → i < T.en k → w'.cell? ⟨T.eb k, T.eo k + i * 5 + 3, none⟩ = some (.int .i64 (T.time k i))
  e4 : ∀ w', Ext w w' → ∀ k i, k < T.n → i < T.en k → w'.cell? ⟨T.eb k, T.eo k + i * 5 + 4, none⟩ = some (.slice (T.aa k i) (T.an k i) (T.ac k i))
/-- the assignments lie in memory -/
structure TM.AtA (T : TM) (w : World) : Prop where
  ha : ∀ k i, k < T.n → i < T.en k → T.an k i ≤ 140737488355328
  ac : ∀ k i, k < T.n → i < T.en k → T.an k i ≤ T.ac k i
  aa : ∀ k i, k < T.n → i < T.en k → 0 < T.an k i → T.aa k i = some ⟨T.ab k i, T.ao k i, none⟩
  ab : ∀ k i, k < T.n → i < T.en k → 0 < T.an k i → ∀ w', Ext w w' → T.ab k i < w'.heap.size
  a0 : ∀ w', Ext w w' → ∀ k i j, k < T.n → i < T.en k → j < T.an k i → w'.cell? ⟨T.ab k i, T.ao k i + j * 2, none⟩ = some (.int .i64 (T.avar k i j))
  a1 : ∀ w', Ext w w' → ∀ k i j, k < T.n → i < T.en k → j < T.an k i → w'.cell? ⟨T.ab k i, T.ao k i + j * 2 + 1, none⟩ = some (.int .i64 (T.aval k i j))
/-- the bounds of what is read -/
structure Tr.Ok (T : Tr) : Prop where
  name : ∀ k, k < T.n → (T.name k).size ≤ 9223372036854775807
  vname : ∀ k i, k < T.n → i < T.vn k → (T.vname k i).size ≤ 9223372036854775807
  vinit : ∀ k i, k < T.n → i < T.vn k → okI (T.vinit k i)
  kind : ∀ k i, k < T.n → i < T.en k → okI (T.kind k i)
  peer : ∀ k i, k < T.n → i < T.en k → okI (T.peer k i)
  msg : ∀ k i, k < T.n → i < T.en k → okI (T.msg k i)
  time : ∀ k i, k < T.n → i < T.en k → okI (T.time k i)
  avar : ∀ k i j, k < T.n → i < T.en k → j < T.an k i → okI (T.avar k i j)
  aval : ∀ k i j, k < T.n → i < T.en k → j < T.an k i → okI (T.aval k i j)
structure TM.At (T : TM) (w : World) : Prop where
  P : T.AtP w
  V : T.AtV w
  E : T.AtE w
  A : T.AtA w
  ok : T.toTr.Ok

theorem TM.At.ext {T : TM} {w w' : World} (h : T.At w) (x : Ext w w') : T.At w' := by
  obtain ⟨⟨p1, p2, p3, p4, p5, p6, p7⟩, ⟨v1, v2, v3, v4, v5, v6⟩, ⟨e1, e2, e3, e4, e5, e6, e7, e8, e9⟩, ⟨a1, a2, a3, a4, a5, a6⟩, ok⟩ := h
  exact ⟨⟨p1, p2, p3, fun h w' y => p4 h w' (x.trans y), fun w' y => p5 w' (x.trans y), fun w' y => p6 w' (x.trans y), fun w' y => p7 w' (x.trans y)⟩,
    ⟨v1, v2, v3, fun k h h' w' y => v4 k h h' w' (x.trans y), fun w' y => v5 w' (x.trans y), fun w' y => v6 w' (x.trans y)⟩,
    ⟨e1, e2, e3, fun k h h' w' y => e4 k h h' w' (x.trans y), fun w' y => e5 w' (x.trans y), fun w' y => e6 w' (x.trans y), fun w' y => e7 w' (x.trans y), fun w' y => e8 w' (x.trans y), fun w' y => e9 w' (x.trans y)⟩,
    ⟨a1, a2, a3, fun k i h h' h'' w' y => a4 k i h h' h'' w' (x.trans y), fun w' y => a5 w' (x.trans y), fun w' y => a6 w' (x.trans y)⟩, ok⟩

end Go.Proofs.YtdplphoohnnbcaaGreatDoor

namespace Go.Proofs.YtdplphoohnnbcaaGreatDoor
open Go.RowKit

theorem cell_set (w : World) (b o o' : Nat) (v : Value) {u : Value} (h : w.cell? ⟨b, o, none⟩ = some u) :
    (w.setCell ⟨b, o, none⟩ v).cell? ⟨b, o', none⟩ = if o' = o then some v else w.cell? ⟨b, o', none⟩ := by
  simp only [World.cell?] at h
  cases hb : w.heap[b]? with
  | none => simp [hb] at h
  | some ob =>
    cases ob with
    | cells c t fr =>
      simp [hb] at h
      have hlt : o < c.size := by
        apply Nat.lt_of_not_le; intro hge; rw [Array.getElem?_eq_none hge] at h; cases h
      simp only [World.cell?, World.setCell, Array.getElem?_modify, hb]
      simp only [Option.isSome_none, Bool.false_eq_true, if_false, if_true, Option.map_some]
      rw [Array.getElem?_setIfInBounds]
      by_cases e : o = o'
      · subst e; simp [hlt]
      · rw [if_neg e, if_neg (fun h => e h.symm)]
    | _ => simp [hb] at h
theorem cell_set_other (w : World) (p : Addr) (b o : Nat) (v : Value) (h : b ≠ p.block) : (w.setCell p v).cell? ⟨b, o, none⟩ = w.cell? ⟨b, o, none⟩ :=
  World.cell?_of_block (w := w) (Below.heap_setCell _ _ _ _ h)
theorem frozen_set (w : World) (p q : Addr) (v : Value) : (w.setCell p v).frozen? q = w.frozen? q := World.frozen?_setCell _ _ _ _

/-- a block of cells is held whole -/
def Hold (W : World) (b : Nat) (c : Array Value) : Prop := ∃ t, W.heap[b]? = some (.cells c t (0, 0))
theorem Hold.box {W : World} {b : Nat} {c : Array Value} (h : Hold W b c) : Box W b c := by obtain ⟨t, h⟩ := h; exact Box.of h
theorem Hold.ext {W W' : World} {b : Nat} {c : Array Value} (h : Hold W b c) (x : Ext W W') : Hold W' b c := (h.box.ext x).hold
theorem Hold.lt {W : World} {b : Nat} {c : Array Value} (h : Hold W b c) : b < W.heap.size := h.box.lt W (Ext.refl _)
theorem Hold.below {W W' : World} {B b : Nat} {c : Array Value} (h : Hold W b c) (x : Below B W W') (hb : b < B) : Hold W' b c := by
  obtain ⟨t, h⟩ := h; exact ⟨t, (x.block b hb).trans h⟩
theorem Hold.other {W : World} {b : Nat} {c : Array Value} (h : Hold W b c) (p : Addr) (v : Value) (hp : b ≠ p.block) : Hold (W.setCell p v) b c := by
  obtain ⟨t, h⟩ := h; exact ⟨t, by rw [Below.heap_setCell _ _ _ _ hp]; exact h⟩
theorem Hold.set {W : World} {b : Nat} {c : Array Value} (h : Hold W b c) (i : Nat) (v : Value) : Hold (W.setCell ⟨b, i, none⟩ v) b (c.setIfInBounds i v) := by
  obtain ⟨t, h⟩ := h
  refine ⟨t, ?_⟩
  simp only [World.setCell, Array.getElem?_modify, h]
  simp
theorem Hold.drew {W : World} {b : Nat} {c : Array Value} (h : Hold W b c) : Hold W.drew b c := h
theorem Hold.drewN {W : World} {b : Nat} {c : Array Value} (h : Hold W b c) (n : Nat) : Hold (W.drewN n) b c := h
theorem Hold.own {β : Type} (B b : Nat) (c : β → Array Value) : OwnFrom B (fun (s : β) W => Hold W b (c s)) := by
  intro s W W' row ⟨t, h⟩ hg hr
  refine ⟨t, ?_⟩
  rw [hg.block b (Array.getElem?_eq_some_iff.1 h).1 (fun e => ?_)]
  · exact h
  · obtain ⟨_, o, ho, hc⟩ := hr b e.symm
    rw [h] at ho; cases ho; cases hc
theorem Hold.new (W : World) (c : Array Value) (t : TypeId) : Hold (W.alloc (.cells c t)) W.heap.size c := ⟨t, by show (W.heap.push _)[W.heap.size]? = _; simp⟩
theorem Ext.keepsFrom {W W' : World} (h : Ext W W') (B : Nat) : KeepsFrom B W W' :=
  ⟨h.size, fun k o _ hk _ => by rw [← hk]; exact h.block k (Array.getElem?_eq_some_iff.1 hk).1⟩
theorem keeps_set (B : Nat) (W : World) (p : Addr) (v : Value) : KeepsFrom B W (W.setCell p v) := (KeepsOthers.setCell _ _ _).from _

theorem Hold.putObj {W : World} {b : Nat} {c : Array Value} (h : Hold W b c) (D : Nat) (o : Obj) (hD : b ≠ D) : Hold (W.putObj D o) b c := by
  obtain ⟨t, h⟩ := h; exact ⟨t, (World.putObj_heap_other hD).trans h⟩
theorem Hold.cell0 {W : World} {b : Nat} {c : Array Value} (h : Hold W b c) (i : Nat) : W.cell? ⟨b, i, none⟩ = c[i]? := h.box.cell W (Ext.refl _) i

theorem news_ok (w : World) (l : List Value) (t : TypeId) : ∀ (j : Nat) (u : Value), l[j]? = some u → (w.alloc (.cells l.toArray t)).cell? ((⟨w.heap.size, 0, none⟩ : Addr).add j) = some u := by
  intro j u h
  have e : (⟨w.heap.size, 0, none⟩ : Addr).add j = ⟨w.heap.size, j, none⟩ := by
    unfold Addr.add
    by_cases hj : j = 0
    · subst hj; rfl
    · rw [if_neg hj]; simp
  rw [e, World.cell?_alloc_new]
  simpa using h
theorem Ext.grown {w w' : World} (h : w.grownBy w' none) : Ext w w' := (Below.refl _ _).grown h (Nat.le_refl _) (fun k e => by cases e)

end Go.Proofs.YtdplphoohnnbcaaGreatDoor

namespace Go.Proofs.YtdplphoohnnbcaaGreatDoor
open Go.RowKit

/-- a node: its numbers, its name, the slice of its parts (address, block, offset, capacity, length), and the parts; nil: a node that is nowhere (what stands behind the last part) -/
inductive Pr : Type where
  | nil : Pr
  | mk (kind num proc peer : Int) (name : ByteArray) (a : Option Addr) (b off cap len : Nat) (kid : Nat → Pr) : Pr
namespace Pr
def kind : Pr → Int | nil => 0 | mk x _ _ _ _ _ _ _ _ _ _ => x
def num : Pr → Int | nil => 0 | mk _ x _ _ _ _ _ _ _ _ _ => x
def proc : Pr → Int | nil => 0 | mk _ _ x _ _ _ _ _ _ _ _ => x
def peer : Pr → Int | nil => 0 | mk _ _ _ x _ _ _ _ _ _ _ => x
def name : Pr → ByteArray | nil => ⟨#[]⟩ | mk _ _ _ _ x _ _ _ _ _ _ => x
def a : Pr → Option Addr | nil => none | mk _ _ _ _ _ x _ _ _ _ _ => x
def b : Pr → Nat | nil => 0 | mk _ _ _ _ _ _ x _ _ _ _ => x
def off : Pr → Nat | nil => 0 | mk _ _ _ _ _ _ _ x _ _ _ => x
def cap : Pr → Nat | nil => 0 | mk _ _ _ _ _ _ _ _ x _ _ => x
def len : Pr → Nat | nil => 0 | mk _ _ _ _ _ _ _ _ _ x _ => x
def kid : Pr → Nat → Pr | nil => fun _ => nil | mk _ _ _ _ _ _ _ _ _ _ x => x
theorem ind {C : Pr → Prop} (h : ∀ p, (∀ i, i < p.len → C (p.kid i)) → C p) : ∀ p, C p := by
  intro p
  induction p with
  | nil => exact h _ fun i hi => absurd hi (Nat.not_lt_zero _)
  | mk k n p q s a b o c l kid ih => exact h _ fun i _ => ih i
instance : Inhabited Pr := ⟨nil⟩
/-- the value of a node -/
abbrev val (p : Pr) : Value := .agg #[.int .i64 p.kind, .int .i64 p.num, .int .i64 p.proc, .int .i64 p.peer, .string p.name, .slice p.a p.len p.cap]
/-- a sum over the numbers below n -/
def sum (f : Nat → Nat) : Nat → Nat
  | 0 => 0
  | n + 1 => sum f n + f n
/-- the greatest of f 0 .. f (n - 1); 0 if n = 0 -/
def most (f : Nat → Nat) : Nat → Nat
  | 0 => 0
  | n + 1 => max (most f n) (f n)
theorem sum_mono {f : Nat → Nat} {k n : Nat} (h : k ≤ n) : sum f k ≤ sum f n := by
  induction n with
  | zero => obtain rfl : k = 0 := by omega
            exact Nat.le_refl _
  | succ n ih =>
    by_cases e : k = n + 1
    · subst e; exact Nat.le_refl _
    · have := ih (by omega); show _ ≤ sum f n + f n; omega
theorem most_le {f : Nat → Nat} {n m : Nat} : most f n ≤ m ↔ ∀ i, i < n → f i ≤ m := by
  induction n with
  | zero => exact ⟨fun _ i h => absurd h (Nat.not_lt_zero _), fun _ => Nat.zero_le _⟩
  | succ n ih =>
    show max (most f n) (f n) ≤ m ↔ _
    rw [Nat.max_le, ih]
    constructor
    · rintro ⟨h1, h2⟩ i hi
      by_cases e : i = n
      · subst e; exact h2
      · exact h1 i (by omega)
    · exact fun h => ⟨fun i hi => h i (by omega), h n (by omega)⟩
theorem le_sum {f : Nat → Nat} {k n : Nat} (h : k < n) : f k ≤ sum f n := by
  have h1 := sum_mono (f := f) (k := k + 1) (n := n) h
  have : sum f (k + 1) = sum f k + f k := rfl
  omega
/-- how many nodes -/
def cnt : Pr → Nat
  | nil => 1
  | mk _ _ _ _ _ _ _ _ _ len kid => 1 + sum (fun i => (kid i).cnt) len
/-- how deep -/
def dep : Pr → Nat
  | nil => 1
  | mk _ _ _ _ _ _ _ _ _ len kid => 1 + most (fun i => (kid i).dep) len
theorem cnt_eq (p : Pr) : p.cnt = 1 + sum (fun i => (p.kid i).cnt) p.len := by cases p <;> rfl
theorem dep_eq (p : Pr) : p.dep = 1 + most (fun i => (p.kid i).dep) p.len := by cases p <;> rfl
/-- all nodes are such -/
def All (P : Pr → Prop) : Pr → Prop
  | nil => P nil
  | mk k n p q s a b o c len kid => P (mk k n p q s a b o c len kid) ∧ ∀ i, i < len → (kid i).All P
theorem All_eq (P : Pr → Prop) (p : Pr) : p.All P ↔ P p ∧ ∀ i, i < p.len → (p.kid i).All P := by
  cases p
  · exact ⟨fun h => ⟨h, fun i hi => absurd hi (Nat.not_lt_zero _)⟩, fun h => h.1⟩
  · exact Iff.rfl
theorem All.here {P : Pr → Prop} {p : Pr} (h : p.All P) : P p := ((All_eq P p).1 h).1
theorem All.kid {P : Pr → Prop} {p : Pr} (h : p.All P) {i : Nat} (hi : i < p.len) : (p.kid i).All P := ((All_eq P p).1 h).2 i hi
theorem All.mono {P Q : Pr → Prop} (h : ∀ p, P p → Q p) : ∀ {p : Pr}, p.All P → p.All Q := by
  intro p
  induction p using ind with
  | h p ih => exact fun hp => (All_eq Q p).2 ⟨h p hp.here, fun i hi => ih i hi (hp.kid hi)⟩
theorem All.and {P Q : Pr → Prop} : ∀ {p : Pr}, p.All P → p.All Q → p.All (fun q => P q ∧ Q q) := by
  intro p
  induction p using ind with
  | h p ih => exact fun hp hq => (All_eq _ p).2 ⟨⟨hp.here, hq.here⟩, fun i hi => ih i hi (hp.kid hi) (hq.kid hi)⟩

/-- the parts of a node lie in memory, and what is read of it is in bounds -/
structure NodeAt (p : Pr) (w : World) : Prop where
  kindI : okI p.kind
  numI : okI p.num
  procI : okI p.proc
  peerI : okI p.peer
  nameI : p.name.size ≤ 9223372036854775807
  hn : p.len ≤ 140737488355328
  hc : p.len ≤ p.cap
  ha : 0 < p.len → p.a = some ⟨p.b, p.off, none⟩
  hb : 0 < p.len → ∀ w', Ext w w' → p.b < w'.heap.size
  c0 : ∀ w', Ext w w' → ∀ i, i < p.len → w'.cell? ⟨p.b, p.off + i * 6, none⟩ = some (.int .i64 (p.kid i).kind)
  c1 : ∀ w', Ext w w' → ∀ i, i < p.len → w'.cell? ⟨p.b, p.off + i * 6 + 1, none⟩ = some (.int .i64 (p.kid i).num)
  c2 : ∀ w', Ext w w' → ∀ i, i < p.len → w'.cell? ⟨p.b, p.off + i * 6 + 2, none⟩ = some (.int .i64 (p.kid i).proc)
  c3 : ∀ w', Ext w w' → ∀ i, i < p.len → w'.cell? ⟨p.b, p.off + i * 6 + 3, none⟩ = some (.int .i64 (p.kid i).peer)
  c4 : ∀ w', Ext w w' → ∀ i, i < p.len → w'.cell? ⟨p.b, p.off + i * 6 + 4, none⟩ = some (.string (p.kid i).name)
  c5 : ∀ w', Ext w w' → ∀ i, i < p.len → w'.cell? ⟨p.b, p.off + i * 6 + 5, none⟩ = some (.slice (p.kid i).a (p.kid i).len (p.kid i).cap)
theorem NodeAt.ext {p : Pr} {w w' : World} (h : p.NodeAt w) (x : Ext w w') : p.NodeAt w' :=
  ⟨h.kindI, h.numI, h.procI, h.peerI, h.nameI, h.hn, h.hc, h.ha, fun h0 w2 y => h.hb h0 w2 (x.trans y), fun w2 y => h.c0 w2 (x.trans y), fun w2 y => h.c1 w2 (x.trans y), fun w2 y => h.c2 w2 (x.trans y), fun w2 y => h.c3 w2 (x.trans y), fun w2 y => h.c4 w2 (x.trans y), fun w2 y => h.c5 w2 (x.trans y)⟩
/-- the whole tree lies in memory -/
def At (p : Pr) (w : World) : Prop := p.All (fun q => q.NodeAt w)
theorem At.ext {p : Pr} {w w' : World} (h : p.At w) (x : Ext w w') : p.At w' := All.mono (fun _ hq => hq.ext x) h
end Pr

end Go.Proofs.YtdplphoohnnbcaaGreatDoor

namespace Go.Proofs.YtdplphoohnnbcaaGreatDoor
open Go.RowKit

theorem heldTake {P : Program} {Q : Exit → Act → World → Prop} {md : Region.Mode} {S : World → Prop} {l : List Oper} (i : Nat) {oi : Oper} {v : Value} {fuel : Nat} {listed : Array Bool} {a : Act} {w : World} (hi : l[i]? = some oi)
    (hs : Region.noSelect l.toArray = true) (hf : Region.free md l.toArray listed i = true) (hr : (Region.ready md l.toArray listed).contains i = true)
    (hQ : ∀ c a w, Q (.panic c) (a.put oi.dst v) w → Q (.panic c) a w) (hy : YieldsIf P l.toArray S oi v a) (hS : S w)
    (h : wpAnyH P md l.toArray Q S fuel (listed.setIfInBounds i true) (a.put oi.dst v) w) : wpAnyH P md l.toArray Q S (fuel + 1) listed a w :=
  wpAnyH_take (by simpa using hi) hs hf hr hQ hy hS h

end Go.Proofs.YtdplphoohnnbcaaGreatDoor
