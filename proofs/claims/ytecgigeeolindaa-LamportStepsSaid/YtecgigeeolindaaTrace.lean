/- A trace as plain data (by index functions), and where it lies in memory. Nothing of the program. -/
import Derived.Test.YtecgigeeolindaaBase
namespace Go.Proofs.Ytecgigeeolindaa
open Go.RowKit

def okI (n : Int) : Prop := -9223372036854775808 ≤ n ∧ n ≤ 9223372036854775807

/-- A trace: n processes; process k has the name, vn k variables, en k events; event i of it has kind, peer, message, time, an k i assignments. -/
structure Tr where
  n : Nat
  name : Nat → ByteArray
  vn : Nat → Nat
  vname : Nat → Nat → ByteArray
  vinit : Nat → Nat → Int
  en : Nat → Nat
  kind : Nat → Nat → Int
  peer : Nat → Nat → Int
  msg : Nat → Nat → Int
  time : Nat → Nat → Int
  an : Nat → Nat → Nat
  avar : Nat → Nat → Nat → Int
  aval : Nat → Nat → Nat → Int

/-- the addresses: of the slice of processes, of the slices of variables and of events, of the slices of assignments -/
structure TM extends Tr where
  a : Option Addr
  b : Nat
  off : Nat
  cap : Nat
  va : Nat → Option Addr
  vb : Nat → Nat
  vo : Nat → Nat
  vc : Nat → Nat
  ea : Nat → Option Addr
  eb : Nat → Nat
  eo : Nat → Nat
  ec : Nat → Nat
  aa : Nat → Nat → Option Addr
  ab : Nat → Nat → Nat
  ao : Nat → Nat → Nat
  ac : Nat → Nat → Nat

abbrev TM.sl (T : TM) : Value := .slice T.a T.n T.cap
abbrev TM.val (T : TM) : Value := .agg #[.slice T.a T.n T.cap]
/-- event i of process k, as a value -/
abbrev TM.ev (T : TM) (k i : Nat) : Value := .agg #[.int .i64 (T.kind k i), .int .i64 (T.peer k i), .int .i64 (T.msg k i), .int .i64 (T.time k i), .slice (T.aa k i) (T.an k i) (T.ac k i)]
/-- process k, as a value -/
abbrev TM.pr (T : TM) (k : Nat) : Value := .agg #[.string (T.name k), .slice (T.va k) (T.vn k) (T.vc k), .slice (T.ea k) (T.en k) (T.ec k)]

/-- the processes lie in memory -/
structure TM.AtP (T : TM) (w : World) : Prop where
  hn : T.n ≤ 140737488355328
  pc : T.n ≤ T.cap
  pa : 0 < T.n → T.a = some ⟨T.b, T.off, none⟩
  pb : 0 < T.n → ∀ w', Ext w w' → T.b < w'.heap.size
  p0 : ∀ w', Ext w w' → ∀ k, k < T.n → w'.cell? ⟨T.b, T.off + k * 3, none⟩ = some (.string (T.name k))
  p1 : ∀ w', Ext w w' → ∀ k, k < T.n → w'.cell? ⟨T.b, T.off + k * 3 + 1, none⟩ = some (.slice (T.va k) (T.vn k) (T.vc k))
  p2 : ∀ w', Ext w w' → ∀ k, k < T.n → w'.cell? ⟨T.b, T.off + k * 3 + 2, none⟩ = some (.slice (T.ea k) (T.en k) (T.ec k))
/-- the variables lie in memory -/
structure TM.AtV (T : TM) (w : World) : Prop where
  hv : ∀ k, k < T.n → T.vn k ≤ 140737488355328
  vc : ∀ k, k < T.n → T.vn k ≤ T.vc k
  va : ∀ k, k < T.n → 0 < T.vn k → T.va k = some ⟨T.vb k, T.vo k, none⟩
  vb : ∀ k, k < T.n → 0 < T.vn k → ∀ w', Ext w w' → T.vb k < w'.heap.size
  v0 : ∀ w', Ext w w' → ∀ k i, k < T.n → i < T.vn k → w'.cell? ⟨T.vb k, T.vo k + i * 2, none⟩ = some (.string (T.vname k i))
  v1 : ∀ w', Ext w w' → ∀ k i, k < T.n → i < T.vn k → w'.cell? ⟨T.vb k, T.vo k + i * 2 + 1, none⟩ = some (.int .i64 (T.vinit k i))
/-- the events lie in memory -/
structure TM.AtE (T : TM) (w : World) : Prop where
  he : ∀ k, k < T.n → T.en k ≤ 140737488355328
  ec : ∀ k, k < T.n → T.en k ≤ T.ec k
  ea : ∀ k, k < T.n → 0 < T.en k → T.ea k = some ⟨T.eb k, T.eo k, none⟩
  eb : ∀ k, k < T.n → 0 < T.en k → ∀ w', Ext w w' → T.eb k < w'.heap.size
  e0 : ∀ w', Ext w w' → ∀ k i, k < T.n → i < T.en k → w'.cell? ⟨T.eb k, T.eo k + i * 5, none⟩ = some (.int .i64 (T.kind k i))
  e1 : ∀ w', Ext w w' → ∀ k i, k < T.n → i < T.en k → w'.cell? ⟨T.eb k, T.eo k + i * 5 + 1, none⟩ = some (.int .i64 (T.peer k i))
  e2 : ∀ w', Ext w w' → ∀ k i, k < T.n → i < T.en k → w'.cell? ⟨T.eb k, T.eo k + i * 5 + 2, none⟩ = some (.int .i64 (T.msg k i))
  e3 : ∀ w', Ext w w' → ∀ k i, k < T.n → i < T.en k → w'.cell? ⟨T.eb k, T.eo k + i * 5 + 3, none⟩ = some (.int .i64 (T.time k i))
  e4 : ∀ w', Ext w w' → ∀ k i, k < T.n → i < T.en k → w'.cell? ⟨T.eb k, T.eo k + i * 5 + 4, none⟩ = some (.slice (T.aa k i) (T.an k i) (T.ac k i))
/-- the assignments lie in memory -/
structure TM.AtA (T : TM) (w : World) : Prop where
  ha : ∀ k i, k < T.n → i < T.en k → T.an k i ≤ 140737488355328
  ac : ∀ k i, k < T.n → i < T.en k → T.an k i ≤ T.ac k i
  aa : ∀ k i, k < T.n → i < T.en k → 0 < T.an k i → T.aa k i = some ⟨T.ab k i, T.ao k i, none⟩
  ab : ∀ k i, k < T.n → i < T.en k → 0 < T.an k i → ∀ w', Ext w w' → T.ab k i < w'.heap.size
  a0 : ∀ w', Ext w w' → ∀ k i j, k < T.n → i < T.en k → j < T.an k i → w'.cell? ⟨T.ab k i, T.ao k i + j * 2, none⟩ = some (.int .i64 (T.avar k i j))
  a1 : ∀ w', Ext w w' → ∀ k i j, k < T.n → i < T.en k → j < T.an k i → w'.cell? ⟨T.ab k i, T.ao k i + j * 2 + 1, none⟩ = some (.int .i64 (T.aval k i j))
/-- the bounds of what is read -/
structure Tr.Ok (T : Tr) : Prop where
  name : ∀ k, k < T.n → (T.name k).size ≤ 9223372036854775807
  vname : ∀ k i, k < T.n → i < T.vn k → (T.vname k i).size ≤ 9223372036854775807
  vinit : ∀ k i, k < T.n → i < T.vn k → okI (T.vinit k i)
  kind : ∀ k i, k < T.n → i < T.en k → okI (T.kind k i)
  peer : ∀ k i, k < T.n → i < T.en k → okI (T.peer k i)
  msg : ∀ k i, k < T.n → i < T.en k → okI (T.msg k i)
  time : ∀ k i, k < T.n → i < T.en k → okI (T.time k i)
  avar : ∀ k i j, k < T.n → i < T.en k → j < T.an k i → okI (T.avar k i j)
  aval : ∀ k i j, k < T.n → i < T.en k → j < T.an k i → okI (T.aval k i j)
structure TM.At (T : TM) (w : World) : Prop where
  P : T.AtP w
  V : T.AtV w
  E : T.AtE w
  A : T.AtA w
  ok : T.toTr.Ok

theorem TM.At.ext {T : TM} {w w' : World} (h : T.At w) (x : Ext w w') : T.At w' := by
  obtain ⟨⟨p1, p2, p3, p4, p5, p6, p7⟩, ⟨v1, v2, v3, v4, v5, v6⟩, ⟨e1, e2, e3, e4, e5, e6, e7, e8, e9⟩, ⟨a1, a2, a3, a4, a5, a6⟩, ok⟩ := h
  exact ⟨⟨p1, p2, p3, fun h w' y => p4 h w' (x.trans y), fun w' y => p5 w' (x.trans y), fun w' y => p6 w' (x.trans y), fun w' y => p7 w' (x.trans y)⟩,
    ⟨v1, v2, v3, fun k h h' w' y => v4 k h h' w' (x.trans y), fun w' y => v5 w' (x.trans y), fun w' y => v6 w' (x.trans y)⟩,
    ⟨e1, e2, e3, fun k h h' w' y => e4 k h h' w' (x.trans y), fun w' y => e5 w' (x.trans y), fun w' y => e6 w' (x.trans y), fun w' y => e7 w' (x.trans y), fun w' y => e8 w' (x.trans y), fun w' y => e9 w' (x.trans y)⟩,
    ⟨a1, a2, a3, fun k i h h' h'' w' y => a4 k i h h' h'' w' (x.trans y), fun w' y => a5 w' (x.trans y), fun w' y => a6 w' (x.trans y)⟩, ok⟩

end Go.Proofs.Ytecgigeeolindaa
