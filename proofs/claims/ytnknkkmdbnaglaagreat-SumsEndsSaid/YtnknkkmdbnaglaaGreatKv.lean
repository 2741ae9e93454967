/- Lists in the order of two numbers: the sorted one is unique, and gathered place by place. Plain. A predicate (a tree) as plain data, with the addresses of its parts; where it lies in memory. Nothing of the program. Lists of variables with how often they stand in a tree: gathered and sorted, or inserted in order. Plain. -/
import Derived.Test.YtnknkkmdbnaglaaGreatKa
namespace Go.Proofs.YtnknkkmdbnaglaaGreat
open Go.RowKit
section
variable {α : Type} (st pr : α → Int)
variable {st pr}
end
end Go.Proofs.YtnknkkmdbnaglaaGreat

namespace Go.Proofs.YtnknkkmdbnaglaaGreat
open Go.RowKit
inductive Pr : Type where
 | nil : Pr
 | mk (kind num proc peer : Int) (name : ByteArray) (a : Option Addr) (b off cap len : Nat) (kid : Nat → Pr) : Pr
namespace Pr
def kind : Pr → Int | nil => 0 | mk x _ _ _ _ _ _ _ _ _ _ => x
def num : Pr → Int | nil => 0 | mk _ x _ _ _ _ _ _ _ _ _ => x
def proc : Pr → Int | nil => 0 | mk _ _ x _ _ _ _ _ _ _ _ => x
def peer : Pr → Int | nil => 0 | mk _ _ _ x _ _ _ _ _ _ _ => x
def name : Pr → ByteArray | nil => ⟨#[]⟩ | mk _ _ _ _ x _ _ _ _ _ _ => x
def a : Pr → Option Addr | nil => none | mk _ _ _ _ _ x _ _ _ _ _ => x
def b : Pr → Nat | nil => 0 | mk _ _ _ _ _ _ x _ _ _ _ => x
def off : Pr → Nat | nil => 0 | mk _ _ _ _ _ _ _ x _ _ _ => x
def cap : Pr → Nat | nil => 0 | mk _ _ _ _ _ _ _ _ x _ _ => x
def len : Pr → Nat | nil => 0 | mk _ _ _ _ _ _ _ _ _ x _ => x
def kid : Pr → Nat → Pr | nil => fun _ => nil | mk _ _ _ _ _ _ _ _ _ _ x => x
theorem ind {C : Pr → Prop} (h : ∀ p, (∀ i, i < p.len → C (p.kid i)) → C p) : ∀ p, C p := by
 intro p
 induction p with
 | nil => exact h _ fun i hi => absurd hi (Nat.not_lt_zero _)
 | mk k n p q s a b o c l kid ih => exact h _ fun i _ => ih i
instance : Inhabited Pr := ⟨nil⟩
abbrev val (p : Pr) : Value := .agg #[.int .i64 p.kind, .int .i64 p.num, .int .i64 p.proc, .int .i64 p.peer, .string p.name, .slice p.a p.len p.cap]
def sum (f : Nat → Nat) : Nat → Nat
 | 0 => 0
 | n + 1 => sum f n + f n
def most (f : Nat → Nat) : Nat → Nat
 | 0 => 0
 | n + 1 => max (most f n) (f n)
def dep : Pr → Nat
 | nil => 1
 | mk _ _ _ _ _ _ _ _ _ len kid => 1 + most (fun i => (kid i).dep) len
def All (P : Pr → Prop) : Pr → Prop
 | nil => P nil
 | mk k n p q s a b o c len kid => P (mk k n p q s a b o c len kid) ∧ ∀ i, i < len → (kid i).All P
theorem All_eq (P : Pr → Prop) (p : Pr) : p.All P ↔ P p ∧ ∀ i, i < p.len → (p.kid i).All P := by
 cases p
 ·exact ⟨fun h => ⟨h, fun i hi => absurd hi (Nat.not_lt_zero _)⟩, fun h => h.1⟩
 ·exact Iff.rfl
theorem All.here {P : Pr → Prop} {p : Pr} (h : p.All P) : P p := ((All_eq P p).1 h).1
theorem All.kid {P : Pr → Prop} {p : Pr} (h : p.All P) {i : Nat} (hi : i < p.len) : (p.kid i).All P := ((All_eq P p).1 h).2 i hi
theorem All.mono {P Q : Pr → Prop} (h : ∀ p, P p → Q p) : ∀ {p : Pr}, p.All P → p.All Q := by
 intro p
 induction p using ind with
 | h p ih => exact fun hp => (All_eq Q p).2 ⟨h p hp.here, fun i hi => ih i hi (hp.kid hi)⟩
theorem All.and {P Q : Pr → Prop} : ∀ {p : Pr}, p.All P → p.All Q → p.All (fun q => P q ∧ Q q) := by
 intro p
 induction p using ind with
 | h p ih => exact fun hp hq => (All_eq _ p).2 ⟨⟨hp.here, hq.here⟩, fun i hi => ih i hi (hp.kid hi) (hq.kid hi)⟩
structure NodeAt (p : Pr) (w : World) : Prop where
 kindI : okI p.kind
 numI : okI p.num
 procI : okI p.proc
 peerI : okI p.peer
 nameI : p.name.size ≤ 9223372036854775807
 hn : p.len ≤ 140737488355328
 hc : p.len ≤ p.cap
 ha : 0 < p.len → p.a = some ⟨p.b, p.off, none⟩
 hb : 0 < p.len → ∀ w', Ext w w' → p.b < w'.heap.size
 c0 : ∀ w', Ext w w' → ∀ i, i < p.len → w'.cell? ⟨p.b, p.off + i * 6, none⟩ = some (.int .i64 (p.kid i).kind)
 c1 : ∀ w', Ext w w' → ∀ i, i < p.len → w'.cell? ⟨p.b, p.off + i * 6 + 1, none⟩ = some (.int .i64 (p.kid i).num)
 c2 : ∀ w', Ext w w' → ∀ i, i < p.len → w'.cell? ⟨p.b, p.off + i * 6 + 2, none⟩ = some (.int .i64 (p.kid i).proc)
 c3 : ∀ w', Ext w w' → ∀ i, i < p.len → w'.cell? ⟨p.b, p.off + i * 6 + 3, none⟩ = some (.int .i64 (p.kid i).peer)
 c4 : ∀ w', Ext w w' → ∀ i, i < p.len → w'.cell? ⟨p.b, p.off + i * 6 + 4, none⟩ = some (.string (p.kid i).name)
 c5 : ∀ w', Ext w w' → ∀ i, i < p.len → w'.cell? ⟨p.b, p.off + i * 6 + 5, none⟩ = some (.slice (p.kid i).a (p.kid i).len (p.kid i).cap)
theorem NodeAt.ext {p : Pr} {w w' : World} (h : p.NodeAt w) (x : Ext w w') : p.NodeAt w' :=
 ⟨h.kindI, h.numI, h.procI, h.peerI, h.nameI, h.hn, h.hc, h.ha, fun h0 w2 y => h.hb h0 w2 (x.trans y), fun w2 y => h.c0 w2 (x.trans y), fun w2 y => h.c1 w2 (x.trans y), fun w2 y => h.c2 w2 (x.trans y), fun w2 y => h.c3 w2 (x.trans y), fun w2 y => h.c4 w2 (x.trans y), fun w2 y => h.c5 w2 (x.trans y)⟩
def At (p : Pr) (w : World) : Prop := p.All (fun q => q.NodeAt w)
theorem At.ext {p : Pr} {w w' : World} (h : p.At w) (x : Ext w w') : p.At w' := All.mono (fun _ hq => hq.ext x) h
end Pr
end Go.Proofs.YtnknkkmdbnaglaaGreat

namespace Go.Proofs.YtnknkkmdbnaglaaGreat
open Go.RowKit
abbrev VK := Int × ByteArray
abbrev Trm := Int × ByteArray × Int
def Trm.key (t : Trm) : VK := (t.1, t.2.1)
def kLt (a b : VK) : Prop := a.1 < b.1 ∨ (a.1 = b.1 ∧ a.2.data.toList < b.2.data.toList)
instance (a b : VK) : Decidable (kLt a b) := by unfold kLt; infer_instance
theorem Trm.mk {t : Trm} {k : VK} {c : Int} (h : t.key = k) (h2 : t.2.2 = c) : t = (k.1, k.2, c) := by subst h h2; rfl
end Go.Proofs.YtnknkkmdbnaglaaGreat
