/- Trees in which names are resolved to indices. Plain. Trees that a call has made: all their nodes lie in blocks from a bound on. Plain. Contracts: predtype.process, slices.Clone at Pred, strings.Cut at one byte. Contracts: strings.Cut at one byte. Contract of predtype.resolve: nodes without parts. -/
import Derived.Test.YtdplphoohnnbcaaDoorHp
import Derived.Lib.CutLaws
import Derived.Lib.IndexLaws
import Derived.Test.YtdplphoohnnbcaaDoorHk
import Derived.Test.YtdplphoohnnbcaaDoorHn
import Derived.Deep.LoopGhost
import Derived.Lib.Bytealg
import Derived.Lib.IndexBytes
import Derived.Test.YtdplphoohnnbcaaDoorHq
namespace Go.Proofs.YtdplphoohnnbcaaDoor
open Go.RowKit

/-- the index of the process of this name; -1 if there is none -/
def Tr.procI (T : Tr) (nm : ByteArray) : Int := idxI (fun k => strEq (T.name k) nm) T.n
/-- a name before and behind the first place of a byte, and whether it has it -/
def cutL (s : ByteArray) (c : UInt8) : ByteArray := ⟨(Lib.cut s.data.toList [c]).1.toArray⟩
def cutR (s : ByteArray) (c : UInt8) : ByteArray := ⟨(Lib.cut s.data.toList [c]).2.1.toArray⟩
def cutB (s : ByteArray) (c : UInt8) : Bool := (Lib.cut s.data.toList [c]).2.2
theorem occAt_one (l : List UInt8) (c : UInt8) (i : Nat) : Lib.occAt l [c] i = (l[i]? == some c) := by
  unfold Lib.occAt
  by_cases h : i < l.length
  · rw [List.drop_eq_getElem_cons h, List.getElem?_eq_getElem h]
    show ((c == l[i]) && true) = _
    by_cases e : l[i] = c
    · rw [e]; simp
    · rw [show (c == l[i]) = false from beq_eq_false_iff_ne.2 fun h => e h.symm]
      symm; simpa using e
  · rw [List.drop_eq_nil_of_le (by omega), List.getElem?_eq_none (by omega)]
    rfl
theorem cut_hit {s : ByteArray} {c : UInt8} {i : Nat} (hi : i < s.size) (h : s.data.toList[i]? = some c) (hno : ∀ j, j < i → s.data.toList[j]? ≠ some c) : cutL s c = s.extract 0 i ∧ cutR s c = s.extract (i + 1) s.size ∧ cutB s c = true := by
  have hix : Lib.indexB s ⟨#[c]⟩ = i := Lib.index_first (by rw [← Lib.size_eq]; omega) (by show Lib.occAt _ [c] i = true; rw [occAt_one, h]; simp) (fun j hj => by show Lib.occAt _ [c] j = false; rw [occAt_one]; simpa using hno j hj)
  exact Lib.cutB_hit s ⟨#[c]⟩ i hix
theorem cut_miss {s : ByteArray} {c : UInt8} (hno : ∀ j, j < s.size → s.data.toList[j]? ≠ some c) : cutB s c = false := by
  have hix : Lib.indexB s ⟨#[c]⟩ = -1 := Lib.index_none (fun j hj => by
    show Lib.occAt _ [c] j = false
    rw [occAt_one]
    by_cases e : j < s.size
    · simpa using hno j e
    · rw [List.getElem?_eq_none (by rw [← Lib.size_eq]; omega)]; rfl)
  exact (Lib.cutB_miss s ⟨#[c]⟩ hix).2.2
theorem cutL_size (s : ByteArray) (c : UInt8) : (cutL s c).size ≤ s.size := by
  unfold cutL Lib.cut
  rw [Lib.size_eq, Lib.size_eq]
  split
  · simp; omega
  · simp
theorem cutR_size (s : ByteArray) (c : UInt8) : (cutR s c).size ≤ s.size := by
  unfold cutR Lib.cut
  rw [Lib.size_eq, Lib.size_eq]
  split
  · simp
  · simp
def nmNo : ByteArray := ⟨#[]⟩
theorem nmNo_nil : nmNo.toList = [] := by unfold nmNo; simp
/-- what becomes of the process, the peer and the name of a node; none: a name is not known -/
def Tr.rsN (T : Tr) (kind proc peer : Int) (name : ByteArray) : Option (Int × Int × ByteArray) :=
  if 2 ≤ kind ∧ kind ≤ 4 then
    if proc = 0 ∧ peer = 0 then
      if kind = 2 then
        (if cutB name 46 = true ∧ 0 ≤ T.procI (cutL name 46) ∧ T.hasV (T.procI (cutL name 46)).toNat (cutR name 46) = true then some (T.procI (cutL name 46), 0, cutR name 46) else none)
      else if kind = 3 then
        (if 0 ≤ T.procI name then some (T.procI name, 0, nmNo) else none)
      else
        (if cutB name 44 = true ∧ 0 ≤ T.procI (cutL name 44) ∧ 0 ≤ T.procI (cutR name 44) ∧ T.procI (cutL name 44) ≠ T.procI (cutR name 44) then some (T.procI (cutL name 44), T.procI (cutR name 44), nmNo) else none)
    else none
  else some (proc, peer, name)
def Tr.RsOk (T : Tr) (p : Pr) : Prop := T.rsN p.kind p.proc p.peer p.name ≠ none
/-- all names of a tree are known -/
def Tr.Can (T : Tr) (p : Pr) : Prop := p.All T.RsOk
/-- q is the resolved tree of p -/
def Tr.Rsv (T : Tr) : Pr → Pr → Prop
  | .nil, q => q.kind = 0 ∧ q.num = 0 ∧ T.rsN 0 0 0 ⟨#[]⟩ = some (q.proc, q.peer, q.name) ∧ q.len = 0
  | .mk k n pr pe s _ _ _ _ len kid, q => q.kind = k ∧ q.num = n ∧ T.rsN k pr pe s = some (q.proc, q.peer, q.name) ∧ q.len = len ∧ ∀ i, i < len → Tr.Rsv T (kid i) (q.kid i)
theorem Tr.Rsv_eq (T : Tr) (p q : Pr) : T.Rsv p q ↔ q.kind = p.kind ∧ q.num = p.num ∧ T.rsN p.kind p.proc p.peer p.name = some (q.proc, q.peer, q.name) ∧ q.len = p.len ∧ ∀ i, i < p.len → T.Rsv (p.kid i) (q.kid i) := by
  cases p
  · exact ⟨fun h => ⟨h.1, h.2.1, h.2.2.1, h.2.2.2, fun i hi => absurd hi (Nat.not_lt_zero _)⟩, fun h => ⟨h.1, h.2.1, h.2.2.1, h.2.2.2.1⟩⟩
  · exact Iff.rfl
theorem Tr.Rsv.kids {T : Tr} {p q : Pr} (h : T.Rsv p q) {i : Nat} (hi : i < p.len) : T.Rsv (p.kid i) (q.kid i) := ((T.Rsv_eq p q).1 h).2.2.2.2 i hi
theorem Tr.Rsv.len {T : Tr} {p q : Pr} (h : T.Rsv p q) : q.len = p.len := ((T.Rsv_eq p q).1 h).2.2.2.1
theorem Tr.Rsv.kind {T : Tr} {p q : Pr} (h : T.Rsv p q) : q.kind = p.kind := ((T.Rsv_eq p q).1 h).1
theorem Tr.Rsv.num {T : Tr} {p q : Pr} (h : T.Rsv p q) : q.num = p.num := ((T.Rsv_eq p q).1 h).2.1
theorem Tr.Rsv.names {T : Tr} {p q : Pr} (h : T.Rsv p q) : T.rsN p.kind p.proc p.peer p.name = some (q.proc, q.peer, q.name) := ((T.Rsv_eq p q).1 h).2.2.1
/-- equal trees, wherever they lie -/
def Pr.Like : Pr → Pr → Prop
  | .nil, q => q.kind = 0 ∧ q.num = 0 ∧ q.proc = 0 ∧ q.peer = 0 ∧ q.name = ⟨#[]⟩ ∧ q.len = 0
  | .mk k n pr pe s _ _ _ _ len kid, q => q.kind = k ∧ q.num = n ∧ q.proc = pr ∧ q.peer = pe ∧ q.name = s ∧ q.len = len ∧ ∀ i, i < len → Pr.Like (kid i) (q.kid i)
theorem Pr.Like_eq (p q : Pr) : p.Like q ↔ q.kind = p.kind ∧ q.num = p.num ∧ q.proc = p.proc ∧ q.peer = p.peer ∧ q.name = p.name ∧ q.len = p.len ∧ ∀ i, i < p.len → (p.kid i).Like (q.kid i) := by
  cases p
  · exact ⟨fun h => ⟨h.1, h.2.1, h.2.2.1, h.2.2.2.1, h.2.2.2.2.1, h.2.2.2.2.2, fun i hi => absurd hi (Nat.not_lt_zero _)⟩, fun h => ⟨h.1, h.2.1, h.2.2.1, h.2.2.2.1, h.2.2.2.2.1, h.2.2.2.2.2.1⟩⟩
  · exact Iff.rfl
/-- the resolved tree is one -/
theorem Tr.Rsv.like {T : Tr} : ∀ {p q r : Pr}, T.Rsv p q → T.Rsv p r → q.Like r := by
  intro p
  induction p using Pr.ind with
  | h p ih =>
    intro q r hq hr
    have h1 := hq.names
    have h2 := hr.names
    rw [h1] at h2
    simp only [Option.some.injEq, Prod.mk.injEq] at h2
    refine (Pr.Like_eq q r).2 ⟨by rw [hq.kind, hr.kind], by rw [hq.num, hr.num], h2.1.symm, h2.2.1.symm, h2.2.2.symm, by rw [hq.len, hr.len], fun i hi => ?_⟩
    rw [hq.len] at hi
    exact ih i hi (hq.kids hi) (hr.kids hi)
theorem sum_congr {f g : Nat → Nat} : ∀ {n : Nat}, (∀ i, i < n → f i = g i) → Pr.sum f n = Pr.sum g n
  | 0, _ => rfl
  | n + 1, h => by
    show Pr.sum f n + f n = Pr.sum g n + g n
    rw [sum_congr (fun i hi => h i (by omega)), h n (by omega)]
theorem most_congr {f g : Nat → Nat} : ∀ {n : Nat}, (∀ i, i < n → f i = g i) → Pr.most f n = Pr.most g n
  | 0, _ => rfl
  | n + 1, h => by
    show max (Pr.most f n) (f n) = max (Pr.most g n) (g n)
    rw [most_congr (fun i hi => h i (by omega)), h n (by omega)]
theorem Tr.Rsv.cnt {T : Tr} : ∀ {p q : Pr}, T.Rsv p q → q.cnt = p.cnt := by
  intro p
  induction p using Pr.ind with
  | h p ih =>
    intro q hq
    rw [Pr.cnt_eq, Pr.cnt_eq p, hq.len, sum_congr (fun i hi => ih i hi (hq.kids hi))]
theorem Tr.Rsv.dep {T : Tr} : ∀ {p q : Pr}, T.Rsv p q → q.dep = p.dep := by
  intro p
  induction p using Pr.ind with
  | h p ih =>
    intro q hq
    rw [Pr.dep_eq, Pr.dep_eq p, hq.len, most_congr (fun i hi => ih i hi (hq.kids hi))]
/-- a predicate of nodes that goes over -/
theorem Tr.Rsv.all {T : Tr} {P Q : Pr → Prop} (h : ∀ p q, T.Rsv p q → P p → Q q) : ∀ {p q : Pr}, T.Rsv p q → p.All P → q.All Q := by
  intro p
  induction p using Pr.ind with
  | h p ih =>
    intro q hq hp
    refine (Pr.All_eq _ q).2 ⟨h p q hq hp.here, fun i hi => ?_⟩
    rw [hq.len] at hi
    exact ih i hi (hq.kids hi) (hp.kid hi)
theorem Tr.Rsv.back {T : Tr} {P Q : Pr → Prop} (h : ∀ p q, T.Rsv p q → Q q → P p) : ∀ {p q : Pr}, T.Rsv p q → q.All Q → p.All P := by
  intro p
  induction p using Pr.ind with
  | h p ih =>
    intro q hq hp
    refine (Pr.All_eq _ p).2 ⟨h p q hq hp.here, fun i hi => ?_⟩
    exact ih i hi (hq.kids hi) (hp.kid (by rw [hq.len]; exact hi))
theorem Tr.rsN_unnamed {T : Tr} {kind proc peer : Int} {name : ByteArray} (h : ¬ (2 ≤ kind ∧ kind ≤ 4)) : T.rsN kind proc peer name = some (proc, peer, name) := if_neg h
theorem Tr.Rsv.nodes {T : Tr} {p q : Pr} (h : T.Rsv p q) (hp : p.All Pr.NodeOk) : q.All Pr.NodeOk := by
  refine Tr.Rsv.all (fun p q h hp => ?_) h hp
  obtain ⟨h1, h2, h3, h4, h5, h6, h7⟩ := hp
  refine ⟨by rw [h.kind]; exact h1, by rw [h.kind]; exact h2, by rw [h.kind, h.len]; exact h3, by rw [h.num]; exact h4, by rw [h.num]; exact h5, by rw [h.num, h.kind]; exact h6, ?_⟩
  rw [h.kind]
  by_cases hk : 2 ≤ p.kind ∧ p.kind ≤ 4
  · exact .inl hk
  · have hn := h.names
    rw [Tr.rsN_unnamed hk] at hn
    simp only [Option.some.injEq, Prod.mk.injEq] at hn
    rcases h7 with h7 | h7
    · exact absurd h7 hk
    · right; rw [← hn.1, ← hn.2.1, ← hn.2.2]; exact h7
theorem Tr.Rsv.formed {T : Tr} {p q : Pr} (h : T.Rsv p q) (hp : p.Formed) : q.Formed := ⟨by rw [h.cnt]; exact hp.1, by rw [h.dep]; exact hp.2.1, h.nodes hp.2.2⟩
theorem Tr.Rsv.typed {T : Tr} {p q : Pr} (h : T.Rsv p q) : q.Typed ↔ p.Typed := by
  constructor
  · refine fun hq => Tr.Rsv.back (fun p q h hq => ?_) h hq
    intro i hi
    rw [← (h.kids hi).kind, ← h.kind]; exact hq i (by rw [h.len]; exact hi)
  · refine fun hp => Tr.Rsv.all (fun p q h hp => ?_) h hp
    intro i hi
    rw [h.len] at hi
    rw [(h.kids hi).kind, h.kind]; exact hp i hi
theorem some3 {a b x y : Int} {c z : ByteArray} (h : some (a, b, c) = some (x, y, z)) : x = a ∧ y = b ∧ z = c := by cases h; exact ⟨rfl, rfl, rfl⟩
theorem Tr.procI_lt {T : Tr} {nm : ByteArray} (h : 0 ≤ T.procI nm) : T.IsP (T.procI nm) := by
  refine ⟨h, ?_⟩
  rcases idxI_cases (fun k => strEq (T.name k) nm) T.n with ⟨h1, _⟩ | ⟨k, hk, _, h2⟩
  · have h3 : T.procI nm = -1 := h1
    omega
  · have h3 : T.procI nm = k := h2
    omega
theorem Tr.rsN_some {T : Tr} {kind proc peer x y : Int} {name z : ByteArray} (h : T.rsN kind proc peer name = some (x, y, z)) :
    (¬ (2 ≤ kind ∧ kind ≤ 4) ∧ x = proc ∧ y = peer ∧ z = name) ∨
    (kind = 2 ∧ (cutB name 46 = true ∧ 0 ≤ T.procI (cutL name 46) ∧ T.hasV (T.procI (cutL name 46)).toNat (cutR name 46) = true) ∧ x = T.procI (cutL name 46) ∧ y = 0 ∧ z = cutR name 46) ∨
    (kind = 3 ∧ 0 ≤ T.procI name ∧ x = T.procI name ∧ y = 0 ∧ z = nmNo) ∨
    (kind = 4 ∧ (cutB name 44 = true ∧ 0 ≤ T.procI (cutL name 44) ∧ 0 ≤ T.procI (cutR name 44) ∧ T.procI (cutL name 44) ≠ T.procI (cutR name 44)) ∧ x = T.procI (cutL name 44) ∧ y = T.procI (cutR name 44) ∧ z = nmNo) := by
  unfold Tr.rsN at h
  by_cases h1 : 2 ≤ kind ∧ kind ≤ 4
  · rw [if_pos h1] at h
    by_cases h2 : proc = 0 ∧ peer = 0
    · rw [if_pos h2] at h
      by_cases h3 : kind = 2
      · rw [if_pos h3] at h
        by_cases h4 : cutB name 46 = true ∧ 0 ≤ T.procI (cutL name 46) ∧ T.hasV (T.procI (cutL name 46)).toNat (cutR name 46) = true
        · rw [if_pos h4] at h; exact .inr (.inl ⟨h3, h4, some3 h⟩)
        · rw [if_neg h4] at h; cases h
      · rw [if_neg h3] at h
        by_cases h4 : kind = 3
        · rw [if_pos h4] at h
          by_cases h5 : 0 ≤ T.procI name
          · rw [if_pos h5] at h; exact .inr (.inr (.inl ⟨h4, h5, some3 h⟩))
          · rw [if_neg h5] at h; cases h
        · rw [if_neg h4] at h
          by_cases h5 : cutB name 44 = true ∧ 0 ≤ T.procI (cutL name 44) ∧ 0 ≤ T.procI (cutR name 44) ∧ T.procI (cutL name 44) ≠ T.procI (cutR name 44)
          · rw [if_pos h5] at h; exact .inr (.inr (.inr ⟨by omega, h5, some3 h⟩))
          · rw [if_neg h5] at h; cases h
    · rw [if_neg h2] at h; cases h
  · rw [if_neg h1] at h
    exact .inl ⟨h1, some3 h⟩
/-- the names of a resolved tree are resolved -/
theorem Tr.Rsv.res {T : Tr} {p q : Pr} (h : T.Rsv p q) : q.All T.ResN := by
  refine Tr.Rsv.all (P := fun _ => True) (fun p q h _ => ?_) h All_true
  have hk := h.kind
  unfold Tr.ResN Tr.ResP
  rw [hk]
  rcases Tr.rsN_some h.names with ⟨h1, _⟩ | ⟨e, hc, e1, e2, e3⟩ | ⟨e, hc, e1, e2, e3⟩ | ⟨e, hc, e1, e2, e3⟩
  · exact ⟨fun e => absurd ⟨by omega, by omega⟩ h1, fun e => absurd ⟨by omega, by omega⟩ h1, fun e => absurd ⟨by omega, by omega⟩ h1⟩
  · rw [e1, e2, e3]
    exact ⟨fun _ => ⟨Tr.procI_lt hc.2.1, rfl, hc.2.2⟩, (fun h => by omega), (fun h => by omega)⟩
  · rw [e1, e2, e3]
    exact ⟨(fun h => by omega), fun _ => ⟨Tr.procI_lt hc, rfl, nmNo_nil⟩, (fun h => by omega)⟩
  · rw [e1, e2, e3]
    exact ⟨(fun h => by omega), (fun h => by omega), fun _ => ⟨Tr.procI_lt hc.2.1, Tr.procI_lt hc.2.2.1, hc.2.2.2, nmNo_nil⟩⟩
theorem Pr.Like.len {p q : Pr} (h : p.Like q) : q.len = p.len := ((Pr.Like_eq p q).1 h).2.2.2.2.2.1
theorem Pr.Like.kind {p q : Pr} (h : p.Like q) : q.kind = p.kind := ((Pr.Like_eq p q).1 h).1
theorem Pr.Like.kids {p q : Pr} (h : p.Like q) {i : Nat} (hi : i < p.len) : (p.kid i).Like (q.kid i) := ((Pr.Like_eq p q).1 h).2.2.2.2.2.2 i hi
theorem Tr.nodeI_congr {T : Tr} {kind num proc peer : Int} {name : ByteArray} {len : Nat} {x y x' y' : Option (Int × Int)} (h : 0 < len → x = x') (k : 1 < len → y = y') : T.nodeI kind num proc peer name len x y = T.nodeI kind num proc peer name len x' y' := by
  unfold Tr.nodeI
  by_cases h0 : len = 0
  · rw [if_pos h0, if_pos h0]
  · rw [if_neg h0, if_neg h0, h (by omega)]
    by_cases h2 : len = 2
    · rw [if_pos h2, if_pos h2, k (by omega)]
    · rw [if_neg h2, if_neg h2]
theorem Pr.Like.ival {T : Tr} : ∀ {p q : Pr}, p.Like q → T.ival q = T.ival p := by
  intro p
  induction p using Pr.ind with
  | h p ih =>
    intro q h
    obtain ⟨h1, h2, h3, h4, h5, h6, h7⟩ := (Pr.Like_eq p q).1 h
    rw [Tr.ival_eq, Tr.ival_eq T p, h1, h2, h3, h4, h5, h6]
    exact Tr.nodeI_congr (fun h => ih 0 h (h7 0 h)) (fun h => ih 1 h (h7 1 h))
theorem Pr.Like.small {T : Tr} : ∀ {p q : Pr}, p.Like q → (T.SmallP q ↔ T.SmallP p) := by
  intro p
  induction p using Pr.ind with
  | h p ih =>
    intro q h
    rw [Tr.SmallP_eq, Tr.SmallP_eq T p, h.kind, h.ival, h.len]
    constructor
    · exact fun ⟨a, b⟩ => ⟨a, fun h8 i hi => (ih i hi (h.kids hi)).1 (b h8 i hi)⟩
    · exact fun ⟨a, b⟩ => ⟨a, fun h8 i hi => (ih i hi (h.kids hi)).2 (b h8 i hi)⟩
/-- .. so are the names: none is longer than it was -/
theorem Tr.Rsv.short {T : Tr} {m : Nat} {p q : Pr} (h : T.Rsv p q) (hp : p.All fun q => q.name.size ≤ m) : q.All fun q => q.name.size ≤ m := by
  refine Tr.Rsv.all (P := fun q => q.name.size ≤ m) (fun p q h hp => ?_) h hp
  have hz : nmNo.size ≤ m := Nat.zero_le _
  rcases Tr.rsN_some h.names with ⟨_, _, _, e3⟩ | ⟨_, _, _, _, e3⟩ | ⟨_, _, _, _, e3⟩ | ⟨_, _, _, _, e3⟩
  · rw [e3]; exact hp
  · rw [e3]; exact Nat.le_trans (cutR_size _ _) hp
  · rw [e3]; exact hz
  · rw [e3]; exact hz
theorem partsI_le2 (k : Int) : partsI k ≤ 2 := by
  by_cases h : 1 ≤ k ∧ k ≤ 21
  · have : k = 1 ∨ k = 2 ∨ k = 3 ∨ k = 4 ∨ k = 5 ∨ k = 6 ∨ k = 7 ∨ k = 8 ∨ k = 9 ∨ k = 10 ∨ k = 11 ∨ k = 12 ∨ k = 13 ∨ k = 14 ∨ k = 15 ∨ k = 16 ∨ k = 17 ∨ k = 18 ∨ k = 19 ∨ k = 20 ∨ k = 21 := by omega
    rcases this with rfl | rfl | rfl | rfl | rfl | rfl | rfl | rfl | rfl | rfl | rfl | rfl | rfl | rfl | rfl | rfl | rfl | rfl | rfl | rfl | rfl <;> decide
  · rw [partsI_no (by omega)]; decide
/-- the parts of what is not too great are not too great -/
theorem Tr.SmallP.kid {T : Tr} {p : Pr} (hf : p.All Pr.NodeOk) (ht : p.Typed) (h : T.SmallP p) {i : Nat} (hi : i < p.len) : T.SmallP (p.kid i) := by
  obtain ⟨h1, h2⟩ := (Tr.SmallP_eq T p).1 h
  by_cases h8 : p.kind ≤ 8
  · have hv := h1 h8
    have hk : (p.kid i).kind ≤ 8 := by
      have := ht.here i hi
      unfold resT needT at this
      rw [if_pos (show p.kind ≤ 12 by omega)] at this
      split at this
      · assumption
      · omega
    refine (Tr.SmallP_eq T _).2 ⟨fun _ => ?_, fun h => absurd hk h⟩
    rw [Tr.ival_eq] at hv
    unfold Tr.nodeI at hv
    rw [if_neg (by omega)] at hv
    have hlen : p.len ≤ 2 := by
      obtain ⟨n1, n2, n3, _⟩ := hf.here
      have hr := partsI_le2 p.kind
      omega
    intro e
    apply hv
    have h01 : i = 0 ∨ i = 1 := by omega
    rcases h01 with rfl | rfl
    · rw [e]
    · rw [if_pos (by omega), e]
      cases T.ival (p.kid 0) <;> rfl
  · exact h2 h8 i hi

end Go.Proofs.YtdplphoohnnbcaaDoor

namespace Go.Proofs.YtdplphoohnnbcaaDoor
open Go.RowKit

/-- the cells of a node -/
def cellOf (q : Pr) : Nat → Value
  | 0 => .int .i64 q.kind
  | 1 => .int .i64 q.num
  | 2 => .int .i64 q.proc
  | 3 => .int .i64 q.peer
  | 4 => .string q.name
  | _ => .slice q.a q.len q.cap
structure Pr.Fine (p : Pr) : Prop where
  kindI : okI p.kind
  numI : okI p.num
  procI : okI p.proc
  peerI : okI p.peer
  nameI : p.name.size ≤ 9223372036854775807
  hn : p.len ≤ 140737488355328
  hc : p.len ≤ p.cap
theorem Pr.NodeAt.fine {p : Pr} {w : World} (h : p.NodeAt w) : p.Fine := ⟨h.kindI, h.numI, h.procI, h.peerI, h.nameI, h.hn, h.hc⟩
/-- a row of nodes -/
def RowAt (w : World) (g off n : Nat) (q : Nat → Pr) : Prop := ∀ j, j < n → ∀ c, c < 6 → w.cell? ⟨g, off + j * 6 + c, none⟩ = some (cellOf (q j) c)
theorem Pr.NodeAt.row {p : Pr} {w : World} (h : p.NodeAt w) : ∀ w', Ext w w' → RowAt w' p.b p.off p.len p.kid := fun w' x j hj c hc => by
  have : c = 0 ∨ c = 1 ∨ c = 2 ∨ c = 3 ∨ c = 4 ∨ c = 5 := by omega
  rcases this with rfl | rfl | rfl | rfl | rfl | rfl
  · exact h.c0 w' x j hj
  · exact h.c1 w' x j hj
  · exact h.c2 w' x j hj
  · exact h.c3 w' x j hj
  · exact h.c4 w' x j hj
  · exact h.c5 w' x j hj
theorem RowAt.same {w w' : World} {g off n : Nat} {q : Nat → Pr} (h : RowAt w g off n q) (e : w'.heap[g]? = w.heap[g]?) : RowAt w' g off n q := fun j hj c hc =>
  (World.cell?_of_block (w := w) (a := ⟨g, off + j * 6 + c, none⟩) e).trans (h j hj c hc)
theorem RowAt.ext {w w' : World} {g off n : Nat} {q : Nat → Pr} (h : RowAt w g off n q) (x : Ext w w') : RowAt w' g off n q := fun j hj c hc => x.cell (h j hj c hc)
structure Pr.NodeHeld (p : Pr) (B : Nat) (w : World) : Prop where
  fine : p.Fine
  row : 0 < p.len → p.a = some ⟨p.b, p.off, none⟩ ∧ B ≤ p.b ∧ p.b < w.heap.size ∧ RowAt w p.b p.off p.len p.kid
/-- a tree whose nodes lie in blocks from B on -/
def Pr.HeldFrom (p : Pr) (B : Nat) (w : World) : Prop := p.All fun q => q.NodeHeld B w
theorem Pr.HeldFrom.same {p : Pr} {B : Nat} {w w' : World} (h : p.HeldFrom B w) (hs : w.heap.size ≤ w'.heap.size) (hb : ∀ g, B ≤ g → g < w.heap.size → w'.heap[g]? = w.heap[g]?) : p.HeldFrom B w' :=
  Pr.All.mono (fun q hq => ⟨hq.fine, fun h0 => by
    obtain ⟨h1, h2, h3, h4⟩ := hq.row h0
    exact ⟨h1, h2, by omega, h4.same (hb _ h2 h3)⟩⟩) h
theorem Pr.HeldFrom.ext {p : Pr} {B : Nat} {w w' : World} (h : p.HeldFrom B w) (x : Ext w w') : p.HeldFrom B w' := h.same x.le fun g _ hg => x.block g hg
theorem Pr.HeldFrom.mono {p : Pr} {B B' : Nat} {w : World} (h : p.HeldFrom B w) (hB : B' ≤ B) : p.HeldFrom B' w :=
  Pr.All.mono (fun q hq => ⟨hq.fine, fun h0 => by
    obtain ⟨h1, h2, h3, h4⟩ := hq.row h0
    exact ⟨h1, by omega, h3, h4⟩⟩) h
theorem Pr.HeldFrom.set {p : Pr} {B : Nat} {w : World} (h : p.HeldFrom B w) (a : Addr) (v : Value) (ha : a.block < B) : p.HeldFrom B (w.setCell a v) :=
  h.same (Nat.le_of_eq (World.size_setCell _ _ _).symm) fun g hg _ => Below.heap_setCell _ _ _ _ (by omega)
theorem Pr.HeldFrom.lies {p : Pr} {B : Nat} {w : World} (h : p.HeldFrom B w) : p.At w :=
  Pr.All.mono (fun q hq => by
    have c : ∀ w', Ext w w' → ∀ i, i < q.len → ∀ c, c < 6 → w'.cell? ⟨q.b, q.off + i * 6 + c, none⟩ = some (cellOf (q.kid i) c) := fun w' x i hi c hc => x.cell ((hq.row (by omega)).2.2.2 i hi c hc)
    exact ⟨hq.fine.kindI, hq.fine.numI, hq.fine.procI, hq.fine.peerI, hq.fine.nameI, hq.fine.hn, hq.fine.hc, fun h0 => (hq.row h0).1, fun h0 w' x => Nat.lt_of_lt_of_le (hq.row h0).2.2.1 x.le,
      fun w' x i hi => c w' x i hi 0 (by decide), fun w' x i hi => c w' x i hi 1 (by decide), fun w' x i hi => c w' x i hi 2 (by decide), fun w' x i hi => c w' x i hi 3 (by decide), fun w' x i hi => c w' x i hi 4 (by decide), fun w' x i hi => c w' x i hi 5 (by decide)⟩) h
/-- a node without parts is held everywhere -/
theorem Pr.HeldFrom.leaf {p : Pr} (h0 : p.len = 0) (hf : p.Fine) (B : Nat) (w : World) : p.HeldFrom B w := (Pr.All_eq _ p).2 ⟨⟨hf, fun h => by omega⟩, fun i hi => by omega⟩
/-- the cells of a node's parts, as a list -/
def Pr.kidCells (p : Pr) : List Value := (List.range (p.len * 6)).map fun j => cellOf (p.kid (j / 6)) (j % 6)
theorem Pr.kidCells_len (p : Pr) : p.kidCells.length = p.len * 6 := by simp [Pr.kidCells]
theorem Pr.kidCells_get (p : Pr) {i c : Nat} (hi : i < p.len) (hc : c < 6) : p.kidCells[i * 6 + c]? = some (cellOf (p.kid i) c) := by
  unfold Pr.kidCells
  have h1 : i * 6 + c < p.len * 6 := by omega
  have h2 : (i * 6 + c) / 6 = i := by omega
  have h3 : (i * 6 + c) % 6 = c := by omega
  rw [List.getElem?_map, List.getElem?_range h1]
  show some (cellOf (p.kid ((i * 6 + c) / 6)) ((i * 6 + c) % 6)) = _
  rw [h2, h3]
theorem Pr.kidCells_one (p : Pr) : ∀ u ∈ p.kidCells, u.oneCell' = true := by
  intro u hu
  unfold Pr.kidCells at hu
  rw [List.mem_map] at hu
  obtain ⟨j, _, rfl⟩ := hu
  have : j % 6 = 0 ∨ j % 6 = 1 ∨ j % 6 = 2 ∨ j % 6 = 3 ∨ j % 6 = 4 ∨ j % 6 = 5 := by omega
  rcases this with e | e | e | e | e | e <;> rw [e] <;> rfl
/-- what is appended: the parts of a node that lies in memory -/
theorem Pr.NodeAt.src {P : Program} {p : Pr} {w0 w : World} (h : p.NodeAt w0) (x : Ext w0 w) {tx e' : TypeId} (hk : P.underlying tx = some (.slice e')) (h0 : 0 < p.len) : Src P 6 tx (.slice p.a p.len p.cap) p.len p.kidCells w := by
  rw [h.ha h0]
  refine Src.ofSlice w hk ⟨p.b, p.off, none⟩ p.len p.cap p.kidCells p.kidCells_len (fun j u hu => ?_) p.kidCells_one
  have hj := (List.getElem?_eq_some_iff.1 hu).1
  rw [p.kidCells_len] at hj
  have h1 := h.row w x (j / 6) (by omega) (j % 6) (Nat.mod_lt _ (by decide))
  have h2 := p.kidCells_get (i := j / 6) (c := j % 6) (by omega) (Nat.mod_lt _ (by decide))
  have e : j / 6 * 6 + j % 6 = j := Nat.div_add_mod' j 6
  rw [e, hu] at h2
  rw [Nat.add_assoc, e] at h1
  rw [Addr.add_lit, h1]
  exact h2.symm
/-- a row that may be written -/
structure RowOwn (w : World) (g off n : Nat) (q : Nat → Pr) : Prop where
  at_ : RowAt w g off n q
  lt : g < w.heap.size
  thaw : ∀ j, j < n * 6 → w.frozen? ⟨g, off + j, none⟩ = false
theorem RowOwn.same {w w' : World} {g off n : Nat} {q : Nat → Pr} (h : RowOwn w g off n q) (hs : w.heap.size ≤ w'.heap.size) (e : w'.heap[g]? = w.heap[g]?) : RowOwn w' g off n q :=
  ⟨h.at_.same e, Nat.lt_of_lt_of_le h.lt hs, fun j hj => by rw [World.frozen?_of_block (w := w) (a := ⟨g, off + j, none⟩) e]; exact h.thaw j hj⟩
theorem RowOwn.ext {w w' : World} {g off n : Nat} {q : Nat → Pr} (h : RowOwn w g off n q) (x : Ext w w') : RowOwn w' g off n q := h.same x.le (x.block g h.lt)
theorem RowOwn.other {w : World} {g off n : Nat} {q : Nat → Pr} (h : RowOwn w g off n q) (a : Addr) (v : Value) (ha : g ≠ a.block) : RowOwn (w.setCell a v) g off n q :=
  h.same (Nat.le_of_eq (World.size_setCell _ _ _).symm) (Below.heap_setCell _ _ _ _ ha)
/-- one node of the row is replaced -/
theorem RowOwn.put {w : World} {g off n : Nat} {q : Nat → Pr} (h : RowOwn w g off n q) {i : Nat} (hi : i < n) (r : Pr) :
    RowOwn ((((((w.setCell ⟨g, off + i * 6, none⟩ (cellOf r 0)).setCell ⟨g, off + i * 6 + 1, none⟩ (cellOf r 1)).setCell ⟨g, off + i * 6 + 2, none⟩ (cellOf r 2)).setCell ⟨g, off + i * 6 + 3, none⟩ (cellOf r 3)).setCell ⟨g, off + i * 6 + 4, none⟩ (cellOf r 4)).setCell ⟨g, off + i * 6 + 5, none⟩ (cellOf r 5))
      g off n fun j => if j = i then r else q j := by
  have one : ∀ (W : World) (q' : Nat → Nat → Value) (c : Nat) (v : Value), (∀ j, j < n → ∀ c, c < 6 → W.cell? ⟨g, off + j * 6 + c, none⟩ = some (q' j c)) → c < 6 →
      ∀ j, j < n → ∀ d, d < 6 → (W.setCell ⟨g, off + i * 6 + c, none⟩ v).cell? ⟨g, off + j * 6 + d, none⟩ = some (if j = i ∧ d = c then v else q' j d) := by
    intro W q' c v hW hc j hj d hd
    rw [cell_set W g (off + i * 6 + c) (off + j * 6 + d) v (hW i hi c hc)]
    by_cases e : j = i ∧ d = c
    · obtain ⟨rfl, rfl⟩ := e
      rw [if_pos rfl, if_pos ⟨rfl, rfl⟩]
    · rw [if_neg (by omega), if_neg e]; exact hW j hj d hd
  have s0 := one w (fun j c => cellOf (q j) c) 0 (cellOf r 0) h.at_ (by decide)
  have s1 := one _ _ 1 (cellOf r 1) s0 (by decide)
  have s2 := one _ _ 2 (cellOf r 2) s1 (by decide)
  have s3 := one _ _ 3 (cellOf r 3) s2 (by decide)
  have s4 := one _ _ 4 (cellOf r 4) s3 (by decide)
  have s5 := one _ _ 5 (cellOf r 5) s4 (by decide)
  refine ⟨fun j hj c hc => ?_, ?_, fun j hj => ?_⟩
  · refine (s5 j hj c hc).trans ?_
    congr 1
    by_cases e : j = i
    · subst e
      rw [if_pos rfl]
      have : c = 0 ∨ c = 1 ∨ c = 2 ∨ c = 3 ∨ c = 4 ∨ c = 5 := by omega
      rcases this with rfl | rfl | rfl | rfl | rfl | rfl <;> simp
    · simp [e]
  · simp only [World.size_setCell]; exact h.lt
  · simp only [World.frozen?_setCell]; exact h.thaw j hj

end Go.Proofs.YtdplphoohnnbcaaDoor

namespace Go.Proofs.YtdplphoohnnbcaaDoor
open Go.RowKit Go.Shelf

set_option maxHeartbeats 400000 in
theorem process1_any (w : World) (s nm : ByteArray) (v1 v2 : Value) (bx : Nat) (hc : w.cell? ⟨bx, 0, none⟩ = some (.string nm)) :
    Calls Tryd.prog 100 #[.agg #[.string s, v1, v2], .pointer (some ⟨bx, 0, none⟩)] w fun e w' => e = .returned (.bool (strEq s nm)) ∧ Ext w w' := by
  have hlt := cell_lt hc
  dsimp only at hlt
  go_enter Tryd.func100, Tryd.ntmps100
  go_wp2
  go_ret
  exact ⟨ret_bool (by simp [strEq]), Ext.alloc _ _⟩
set_option maxRecDepth 100000 in
set_option maxHeartbeats 1000000 in
theorem process_any (w : World) (T : TM) (hT : T.At w) (nm : ByteArray) :
    Calls Tryd.prog 71 #[T.val, .string nm] w fun e w' => e = .returned (.int .i64 (T.toTr.procI nm)) ∧ Ext w w' := by
  have hn := hT.P.hn
  have HT := Lib.hid hT
  clear hT
  go_enter Tryd.func71, Tryd.ntmps71
  go_upto_region 1 with fail
  refine boxed2 (w := w) (G := fun x => Code.wp _ _ _ _ x) ?_
  intro w1 hx1 hs1 ⟨l0, c0, _, _⟩ ⟨l1, c1, _, _⟩
  have hx11 : Ext w1 w1 := Ext.refl _
  clear hs1
  have hI := idx_Proc w1 T.a T.b T.off T.n T.cap (fun k => .string (T.name k)) (fun k => .slice (T.va k) (T.vn k) (T.vc k)) (fun k => .slice (T.ea k) (T.en k) (T.ec k)) 100 #[.pointer (some ⟨w.heap.size + 1, 0, none⟩)] (fun k => strEq (T.name k) nm)
    hn (fun h => HT.out.P.pa h) (fun w' h k hk => HT.out.P.p0 w' (hx1.trans h) k hk) (fun w' h k hk => HT.out.P.p1 w' (hx1.trans h) k hk) (fun w' h k hk => HT.out.P.p2 w' (hx1.trans h) k hk) (enters_of Tryd.func100 (by kernel_rfl) rfl)
    (fun k hk w' h => process1_any w' _ nm _ _ _ (by exact c1 w' h 0))
  go_wp2_with fail
  go_at_call 99
  refine hI.mono ?_
  rintro e w2 ⟨rfl, hx2⟩
  have hx12 := hx1.trans hx2
  clear hI
  go_wp2_with fail
  go_ret
  exact ⟨rfl, hx12⟩
theorem infoPred : (Tryd.prog.info? 27).map (fun i => (i.zero, i.size, i.bytes)) = some (some (.agg #[.int .i64 0, .int .i64 0, .int .i64 0, .int .i64 0, .string ⟨#[]⟩, .slice none 0 0]), 6, 72) := by kernel_rfl
set_option maxRecDepth 100000 in
set_option maxHeartbeats 1000000 in
/-- slices.Clone at Pred of no nodes -/
theorem clonep0_any (w : World) (a : Option Addr) (cap : Nat) :
    Calls Tryd.prog 73 #[.slice a 0 cap] w fun e w' => ∃ a' c', e = .returned (.slice a' 0 c') ∧ Ext w w' := by
  obtain ⟨j0, hj0, hy0, hy1, hy2⟩ := info_parts infoPred
  have hnl : ∀ (W : World) (a : Option Addr) (n c n' c' : Nat), (binOp .eql 25 (.slice a n c) (.slice none n' c')).run Tryd.prog W = .ok (.bool a.isNone) W := fun W a n c n' c' => Lib.run_eql_slice_nil W _ _ a n c n' c' Tryd.underlying25
  cases a with
  | none =>
    go_enter Tryd.func73, Tryd.ntmps73
    go_wp2_with fail
    go_ret
    exact ⟨_, _, rfl, Ext.refl _⟩
  | some a =>
    go_enter Tryd.func73, Tryd.ntmps73
    go_wp2_with (at_builtin; refine wpList_append_que _ rfl _ _ 25 25 rfl (base := w.heap.size) (e := 27) (size := 6) j0 (.agg #[.int .i64 0, .int .i64 0, .int .i64 0, .int .i64 0, .string ⟨#[]⟩, .slice none 0 0]) 72 Tryd.underlying25 hj0 hy0 hy1 hy2 rfl rfl (v := .slice (some ⟨w.heap.size, 0, none⟩) 0 0) (n := 0) (xs := []) ⟨rfl, .inl ⟨_, rfl, rfl, fun a e => by cases e; exact Nat.le_refl _⟩⟩ (by simp) (.slice (some a) 0 cap) 0 [] rfl (Src.ofSlice _ Tryd.underlying25 a 0 cap [] (by simp) (by intro _ _ h'; simp at h') (by simp)) (by unfold maxLen; omega) (by omega) ?_; rintro v5 w5 hq5 hg5 -; have H5 := Lib.hid (And.intro hq5 hg5); clear hq5 hg5)
    obtain ⟨a', c', hv⟩ : ∃ a' c', v5 = .slice a' 0 c' := by
      rcases H5.out.1.val with ⟨ao, hv, _⟩ | ⟨g, off, cp, hv, _⟩
      · exact ⟨_, _, hv⟩
      · exact ⟨_, _, hv⟩
    subst hv
    go_ret
    exact ⟨_, _, rfl, ((Below.refl _ w).alloc (Nat.le_refl _) _).grown H5.out.2 (by simp) (by intro k hk; simp [Value.ownBlock] at hk; omega)⟩
set_option maxRecDepth 100000 in
set_option maxHeartbeats 1000000 in
/-- .. and of some -/
theorem clonep_any (w0 w : World) (p : Pr) (hp : p.NodeAt w0) (hx : Ext w0 w) (h0 : 0 < p.len) (hl : p.len ≤ 1000) :
    Calls Tryd.prog 73 #[.slice p.a p.len p.cap] w fun e w' => ∃ g off c', e = .returned (.slice (some ⟨g, off, none⟩) p.len c') ∧ w.heap.size ≤ g ∧ p.len ≤ c' ∧ RowOwn w' g off p.len p.kid ∧ Ext w w' := by
  obtain ⟨j0, hj0, hy0, hy1, hy2⟩ := info_parts infoPred
  have hnl : ∀ (W : World) (a : Option Addr) (n c n' c' : Nat), (binOp .eql 25 (.slice a n c) (.slice none n' c')).run Tryd.prog W = .ok (.bool a.isNone) W := fun W a n c n' c' => Lib.run_eql_slice_nil W _ _ a n c n' c' Tryd.underlying25
  have HS := Lib.hid (fun W (h : Ext w0 W) => hp.src h (tx := 25) Tryd.underlying25 h0)
  have HP := Lib.hid hp
  have ha := hp.ha h0
  obtain ⟨pb, hpb⟩ : ∃ b, b = p.b := ⟨_, rfl⟩
  rw [ha, ← hpb] at HS
  rw [ha, ← hpb]
  clear hp ha hpb
  go_enter Tryd.func73, Tryd.ntmps73
  go_wp2_with (at_builtin; refine wpList_append_que _ rfl _ _ 25 25 rfl (base := w.heap.size) (e := 27) (size := 6) j0 (.agg #[.int .i64 0, .int .i64 0, .int .i64 0, .int .i64 0, .string ⟨#[]⟩, .slice none 0 0]) 72 Tryd.underlying25 hj0 hy0 hy1 hy2 rfl rfl (v := .slice (some ⟨w.heap.size, 0, none⟩) 0 0) (n := 0) (xs := []) ⟨rfl, .inl ⟨_, rfl, rfl, fun a e => by cases e; exact Nat.le_refl _⟩⟩ (by simp) (.slice (some ⟨pb, p.off, none⟩) p.len p.cap) p.len p.kidCells rfl (HS.out _ (hx.trans (Ext.alloc _ _))) (by unfold maxLen; omega) (by omega) ?_; rintro v5 w5 hq5 hg5 -; have H5 := Lib.hid (And.intro hq5 hg5); clear hq5 hg5)
  have hval := H5.out.1.val
  rw [Nat.zero_add, List.nil_append] at hval
  rcases hval with ⟨_, _, hv, _⟩ | ⟨g, off, c', hv, h1, h2, h3, h4, h5, h6⟩
  · exact absurd hv (by omega)
  · subst hv
    have H := Lib.hid (show RowOwn w5 g off p.len p.kid from ⟨fun j hj c hc => by
        have h7 := h5 (j * 6 + c) (by omega)
        rw [← Nat.add_assoc] at h7
        rw [h7, p.kidCells_get hj hc], h2, fun j hj => (h6 j (by omega)).2⟩)
    have H1 := Lib.hid h1
    have H3 := Lib.hid h3
    clear h1 h2 h3 h4 h5 h6
    go_ret
    exact ⟨g, off, c', rfl, H1.out, H3.out, H.out, ((Below.refl _ w).alloc (Nat.le_refl _) _).grown H5.out.2 (by simp) (by intro k hk; simp [Value.ownBlock] at hk; omega)⟩

end Go.Proofs.YtdplphoohnnbcaaDoor

namespace Go.Proofs.YtdplphoohnnbcaaDoor
open Go.RowKit Go.Shelf

set_option maxHeartbeats 1000000 in
set_option maxRecDepth 100000 in
theorem sIndexByte_any (s : ByteArray) (c : Int) (w : World) :
    Calls Tryd.prog 121 #[.string s, .int .u8 c] w fun e w' => e = .returned (.int .i64 (Lib.indexByte s.data.toList c.toNat.toUInt8)) ∧ w = w' := by
  go_enter Tryd.func121, Tryd.ntmps121
  go_wp2
  rw [run_callFunc_extern Tryd.func125 (by kernel_rfl) (by kernel_rfl) (by kernel_rfl) (e := Extern.BytealgIndexByte.indexByte) (by kernel_rfl), Lib.run_indexByteString]
  simp only [Result.andThen]
  rw [Oper.upon_value]
  go_wp2
  go_ret
  exact ⟨rfl, rfl⟩
theorem byte_back (c : UInt8) : ((c.toNat : Int)).toNat.toUInt8 = c := by simp
set_option maxHeartbeats 1000000 in
set_option maxRecDepth 100000 in
theorem sIndex_any (s : ByteArray) (c : UInt8) (w : World) :
    Calls Tryd.prog 116 #[.string s, .string ⟨#[c]⟩] w fun e w' => e = .returned (.int .i64 (Lib.indexB s ⟨#[c]⟩)) ∧ w = w' := by
  have hI := fun W => sIndexByte_any s (c.toNat : Int) W
  have hb : Lib.indexByte s.data.toList c = Lib.indexB s ⟨#[c]⟩ := (Lib.index_one _ _).symm
  rw [byte_back, hb] at hI
  have HI := Lib.hid hI
  have HB := Lib.hid hb
  clear hI hb
  go_enter Tryd.func116, Tryd.ntmps116
  go_wp2_with (go_at_call 121; refine (HI.out _).mono ?_; rintro e w' ⟨rfl, rfl⟩)
  · have h : ([c] == s.toList) = true := by assumption
    go_ret
    refine ⟨?_, rfl⟩
    have e : s.data.toList = [c] := by rw [← Lib.toList_data]; exact (beq_iff_eq.1 h).symm
    rw [← HB.out, e]
    simp [Lib.indexByte]
  · go_ret
    exact ⟨rfl, rfl⟩
set_option maxHeartbeats 2000000 in
set_option maxRecDepth 100000 in
theorem sCut_any (s : ByteArray) (c : UInt8) (hs : s.size ≤ 9223372036854775807) (w : World) :
    Calls Tryd.prog 98 #[.string s, .string ⟨#[c]⟩] w fun e w' => e = .returned (.tuple #[.string (cutL s c), .string (cutR s c), .bool (cutB s c)]) ∧ Ext w w' := by
  have hI := fun W => sIndex_any s c W
  rcases Lib.indexB_cases s ⟨#[c]⟩ with hix | ⟨i, hix, hroom⟩
  · obtain ⟨e1, e2, e3⟩ := Lib.cutB_miss s ⟨#[c]⟩ hix
    have h1 : cutL s c = s := e1
    have h2 : cutR s c = ByteArray.empty := e2
    have h3 : cutB s c = false := e3
    rw [h1, h2, h3]
    rw [hix] at hI
    have HI := Lib.hid hI
    clear hI e1 e2 e3 h1 h2 h3 hix
    go_enter Tryd.func98, Tryd.ntmps98
    go_wp2_with (go_at_call 116; refine (HI.out _).mono ?_; rintro e w' ⟨rfl, rfl⟩)
    go_ret3
    exact ⟨rfl, Ext.refl _⟩
  · obtain ⟨e1, e2, e3⟩ := Lib.cutB_hit s ⟨#[c]⟩ i hix
    have h1 : cutL s c = s.extract 0 i := e1
    have h2 : cutR s c = s.extract (i + 1) s.size := e2
    have h3 : cutB s c = true := e3
    rw [h1, h2, h3]
    rw [hix] at hI
    have HI := Lib.hid hI
    have hr : i + 1 ≤ s.size := hroom
    clear hI e1 e2 e3 h1 h2 h3 hix hroom
    have c1 : (0 : Int) ≤ ↑i := by omega
    have c2 : (↑i : Int) ≤ ↑s.size := by omega
    have c3 : (0 : Int) ≤ ↑i + 1 := by omega
    have c4 : (↑i + 1 : Int) ≤ ↑s.size := by omega
    go_enter Tryd.func98, Tryd.ntmps98
    go_wp2_with (go_at_call 116; refine (HI.out _).mono ?_; rintro e w' ⟨rfl, rfl⟩)
    go_quiet (fail)
    go_wp2
    go_ret3
    exact ⟨rfl, (Ext.refl _).drewN _⟩
set_option maxHeartbeats 1000000 in
set_option maxRecDepth 100000 in
theorem cut_any (s : ByteArray) (c : UInt8) (hs : s.size ≤ 9223372036854775807) (w : World) :
    Calls Tryd.prog 70 #[.string s, .string ⟨#[c]⟩] w fun e w' => e = .returned (.tuple #[.string (cutL s c), .string (cutR s c), .bool (cutB s c)]) ∧ Ext w w' := by
  have HI := Lib.hid (fun W => sCut_any s c hs W)
  go_enter Tryd.func70, Tryd.ntmps70
  go_wp2_with (go_at_call 98; refine (HI.out _).mono ?_; rintro e w' ⟨rfl, hx⟩)
  go_ret3
  exact ⟨rfl, hx⟩

end Go.Proofs.YtdplphoohnnbcaaDoor

namespace Go.Proofs.YtdplphoohnnbcaaDoor
open Go.RowKit Go.Shelf

def RslPost (T : Tr) (p : Pr) (w : World) (e : Ending) (w' : World) : Prop :=
  Ext w w' ∧ ∃ (q : Pr) (ok : Bool), e = .returned (.tuple #[q.val, .bool ok]) ∧ q.HeldFrom w.heap.size w' ∧ (ok = true ↔ T.Can p) ∧ (ok = true → T.Rsv p q)
theorem rsl_results (tmps : Array Value) (W : World) (b : Nat) (x0 x1 x2 x3 x4 x5 v : Value) (t4 : tmps[4]? = some (.pointer (some ⟨b, 0, none⟩))) (t5 : tmps[5]? = some v)
    (c0 : W.cell? ⟨b, 0, none⟩ = some x0) (c1 : W.cell? ⟨b, 1, none⟩ = some x1) (c2 : W.cell? ⟨b, 2, none⟩ = some x2) (c3 : W.cell? ⟨b, 3, none⟩ = some x3) (c4 : W.cell? ⟨b, 4, none⟩ = some x4) (c5 : W.cell? ⟨b, 5, none⟩ = some x5) :
    (results Tryd.f44 tmps).run Tryd.prog W = .ok (.tuple #[.agg #[x0, x1, x2, x3, x4, x5], v]) W := by
  simp [results, Tryd.results44, go_sem, t4, t5, c0, c1, c2, c3, c4, c5]
theorem setw1 {w : World} {p : Addr} {v : Value} {G : World → Prop} (h : ∀ w7, w7 = w.setCell p v → G w7) : G (w.setCell p v) := h _ rfl
/-- six cells are stored -/
def put6 (w : World) (g o : Nat) (v0 v1 v2 v3 v4 v5 : Value) : World :=
  (((((w.setCell ⟨g, o, none⟩ v0).setCell ⟨g, o + 1, none⟩ v1).setCell ⟨g, o + 2, none⟩ v2).setCell ⟨g, o + 3, none⟩ v3).setCell ⟨g, o + 4, none⟩ v4).setCell ⟨g, o + 5, none⟩ v5
theorem put6_size (w : World) (g o : Nat) (v0 v1 v2 v3 v4 v5 : Value) : (put6 w g o v0 v1 v2 v3 v4 v5).heap.size = w.heap.size := by simp only [put6, World.size_setCell]
theorem put6_other (w : World) (g o : Nat) (v0 v1 v2 v3 v4 v5 : Value) (b : Nat) (h : b ≠ g) : (put6 w g o v0 v1 v2 v3 v4 v5).heap[b]? = w.heap[b]? := by
  unfold put6
  rw [Below.heap_setCell _ _ _ _ h, Below.heap_setCell _ _ _ _ h, Below.heap_setCell _ _ _ _ h, Below.heap_setCell _ _ _ _ h, Below.heap_setCell _ _ _ _ h, Below.heap_setCell _ _ _ _ h]
theorem Ext.put6 {w0 w : World} (h : Ext w0 w) {g : Nat} (hg : w0.heap.size ≤ g) (o : Nat) (v0 v1 v2 v3 v4 v5 : Value) : Ext w0 (Go.Proofs.YtdplphoohnnbcaaDoor.put6 w g o v0 v1 v2 v3 v4 v5) :=
  (((((h.setCell hg v0).setCell hg v1).setCell hg v2).setCell hg v3).setCell hg v4).setCell hg v5
theorem Hold.put6 {W : World} {b : Nat} {c : Array Value} (h : Hold W b c) {g : Nat} (hb : b ≠ g) (o : Nat) (v0 v1 v2 v3 v4 v5 : Value) : Hold (Go.Proofs.YtdplphoohnnbcaaDoor.put6 W g o v0 v1 v2 v3 v4 v5) b c := by
  obtain ⟨t, h⟩ := h; exact ⟨t, (put6_other W g o v0 v1 v2 v3 v4 v5 b hb).trans h⟩
theorem Hold.all6 {W : World} {b : Nat} {u0 u1 u2 u3 u4 u5 : Value} (h : Hold W b #[u0, u1, u2, u3, u4, u5]) (v0 v1 v2 v3 v4 v5 : Value) : Hold (Go.Proofs.YtdplphoohnnbcaaDoor.put6 W b 0 v0 v1 v2 v3 v4 v5) b #[v0, v1, v2, v3, v4, v5] := by
  have := ((((((h.set 0 v0).set 1 v1).set 2 v2).set 3 v3).set 4 v4).set 5 v5)
  simpa [Go.Proofs.YtdplphoohnnbcaaDoor.put6] using this
theorem Pr.HeldFrom.put6 {p : Pr} {B : Nat} {w : World} (h : p.HeldFrom B w) {g : Nat} (hg : g < B) (o : Nat) (v0 v1 v2 v3 v4 v5 : Value) : p.HeldFrom B (Go.Proofs.YtdplphoohnnbcaaDoor.put6 w g o v0 v1 v2 v3 v4 v5) :=
  h.same (Nat.le_of_eq (put6_size ..).symm) fun b hb _ => put6_other _ _ _ _ _ _ _ _ _ _ (by omega)
/-- a leaf that was made -/
def Pr.leafQ (k n pr pe : Int) (s : ByteArray) (a : Option Addr) (c : Nat) : Pr := .mk k n pr pe s a 0 0 c 0 fun _ => .nil
theorem Pr.leafQ_held {k n pr pe : Int} {s : ByteArray} {a : Option Addr} {c : Nat} (h1 : okI k) (h2 : okI n) (h3 : okI pr) (h4 : okI pe) (h5 : s.size ≤ 9223372036854775807) (B : Nat) (w : World) : (Pr.leafQ k n pr pe s a c).HeldFrom B w :=
  Pr.HeldFrom.leaf (p := Pr.leafQ k n pr pe s a c) rfl ⟨h1, h2, h3, h4, h5, Nat.zero_le _, Nat.zero_le _⟩ B w
theorem Tr.can_leaf {T : Tr} {p : Pr} (h0 : p.len = 0) : T.Can p ↔ T.RsOk p := ⟨fun h => h.here, fun h => (Pr.All_eq _ p).2 ⟨h, fun i hi => by omega⟩⟩
theorem Tr.rsv_leaf {T : Tr} {p : Pr} (h0 : p.len = 0) {pr pe : Int} {s : ByteArray} (h : T.rsN p.kind p.proc p.peer p.name = some (pr, pe, s)) (a : Option Addr) (c : Nat) : T.Rsv p (Pr.leafQ p.kind p.num pr pe s a c) :=
  (Tr.Rsv_eq _ _ _).2 ⟨rfl, rfl, h, h0.symm, fun i hi => by omega⟩
theorem okI_proc {T : Tr} (hn : T.n ≤ 140737488355328) (nm : ByteArray) : okI (T.procI nm) := by
  rcases idxI_cases (fun k => strEq (T.name k) nm) T.n with ⟨h1, _⟩ | ⟨k, hk, _, h2⟩
  · have h3 : T.procI nm = -1 := h1
    rw [h3]; exact ⟨by decide, by decide⟩
  · have h3 : T.procI nm = k := h2
    rw [h3]; exact ⟨by omega, by omega⟩
set_option maxRecDepth 100000 in
set_option maxHeartbeats 2000000 in
/-- a node that bears no names -/
theorem resolveU_any (w0 : World) (T : TM) (p : Pr) (hp : p.NodeAt w0) (h0 : p.len = 0) (hk : ¬ (2 ≤ p.kind ∧ p.kind ≤ 4)) (w : World) :
    Calls Tryd.prog 44 #[T.val, p.val] w (RslPost T.toTr p w) := by
  have HN := Lib.hid (show namedB p.kind = false from by simp only [namedB, Bool.and_eq_false_iff, decide_eq_false_iff_not]; omega)
  have HF := Lib.hid hp.fine
  have hrs : T.toTr.rsN p.kind p.proc p.peer p.name = some (p.proc, p.peer, p.name) := Tr.rsN_unnamed hk
  have HC := Lib.hid (show T.toTr.Can p from (Tr.can_leaf h0).2 (by unfold Tr.RsOk; rw [hrs]; simp))
  have HR := Lib.hid (fun a c => Tr.rsv_leaf h0 hrs a c)
  simp only [Pr.val, TM.val]
  rw [h0]
  clear hp h0 hk hrs
  go_enter Tryd.func44, Tryd.ntmps44
  go_upto_region 1 with fail
  refine boxed3 (w := w) (G := fun x => Code.wp _ _ _ _ x) ?_
  intro w1 hx1 hs1 ⟨l0, c0, f0, k0⟩ ⟨l1, c1, f1, k1⟩ ⟨l2, c2, f2, k2⟩
  have hx11 : Ext w1 w1 := Ext.refl _
  have HK0 := Lib.hid (show Hold w1 w.heap.size _ from k0)
  have HK1 := Lib.hid (show Hold w1 (w.heap.size + 1) _ from k1)
  have HK2 := Lib.hid (show Hold w1 (w.heap.size + 1 + 1) _ from k2)
  clear hs1 k0 k1 k2
  go_wp2_with fail
  go_at_call 69
  refine (named_any _ _).mono ?_
  rintro e w' ⟨rfl, rfl⟩
  rw [HN.out]
  go_wp2_with fail
  go_at_call 73
  refine (clonep0_any _ _ _).mono ?_
  rintro e w2 ⟨a', c', rfl, hx2⟩
  have hx22 : Ext w2 w2 := Ext.refl _
  have HP2 := Lib.hid (Hold.ext HK1.out hx2)
  have HR2 := Lib.hid (Hold.ext HK2.out hx2)
  have hxw2 := Ext.trans hx1 hx2
  obtain ⟨l6, c6, f6, _⟩ := HP2.out.box
  go_upto_region 17 with fail
  refine setw1 (w := w2) (G := fun x => Code.wp _ _ _ _ x) ?_
  intro w3 hw3
  have hk3 : Hold w3 (w.heap.size + 1) #[.int .i64 p.kind, .int .i64 p.num, .int .i64 p.proc, .int .i64 p.peer, .string p.name, .slice a' 0 c'] := by rw [hw3]; simpa using HP2.out.set 5 _
  have HR3 := Lib.hid (show Hold w3 (w.heap.size + 1 + 1) _ from by rw [hw3]; exact HR2.out.other _ _ (by show w.heap.size + 1 + 1 ≠ w.heap.size + 1; omega))
  have hxw3 : Ext w w3 := by rw [hw3]; exact hxw2.setCell (by show w.heap.size ≤ w.heap.size + 1; omega) _
  have hx33 : Ext w3 w3 := Ext.refl _
  obtain ⟨l7, c7, f7, _⟩ := hk3.box
  obtain ⟨l8, c8, f8, _⟩ := HR3.out.box
  clear hw3 l6 c6 f6 hk3
  go_wp2_with fail
  go_loopg [6, 109] 0 (fun gg v6 v wr => gg = 0 ∧ v6 = .bool true ∧ v = .int .i64 0 ∧ wr = w3)
  case atStart => exact ⟨rfl, rfl, rfl, rfl⟩
  case round =>
    obtain ⟨rfl, rfl, rfl, rfl⟩ := hrel
    go_wp2_with fail
    have hk9 := Hold.all6 HR3.out (.int .i64 p.kind) (.int .i64 p.num) (.int .i64 p.proc) (.int .i64 p.peer) (.string p.name) (.slice a' 0 c')
    refine bodyPost_ret (rsl_results _ _ (w.heap.size + 1 + 1) _ _ _ _ _ _ _ rfl rfl (hk9.cell0 0) (hk9.cell0 1) (hk9.cell0 2) (hk9.cell0 3) (hk9.cell0 4) (hk9.cell0 5)) rfl ?_
    exact ⟨hxw3.put6 (by omega) 0 _ _ _ _ _ _, Pr.leafQ p.kind p.num p.proc p.peer p.name a' c', true, rfl, Pr.leafQ_held HF.out.kindI HF.out.numI HF.out.procI HF.out.peerI HF.out.nameI _ _, ⟨fun _ => HC.out, fun _ => rfl⟩, fun _ => HR.out _ _⟩
set_option maxRecDepth 100000 in
set_option maxHeartbeats 2000000 in
/-- a node with names that has indices already -/
theorem resolveX_any (w0 : World) (T : TM) (p : Pr) (hp : p.NodeAt w0) (h0 : p.len = 0) (hk : 2 ≤ p.kind ∧ p.kind ≤ 4) (hq : ¬ (p.proc = 0 ∧ p.peer = 0)) (w : World) :
    Calls Tryd.prog 44 #[T.val, p.val] w (RslPost T.toTr p w) := by
  have HN := Lib.hid (show namedB p.kind = true from by simp only [namedB, Bool.and_eq_true, decide_eq_true_eq]; exact hk)
  have HF := Lib.hid hp.fine
  have hrs : T.toTr.rsN p.kind p.proc p.peer p.name = none := by unfold Tr.rsN; rw [if_pos hk, if_neg hq]
  have HC := Lib.hid (show ¬ T.toTr.Can p from fun h => absurd hrs ((Tr.can_leaf h0).1 h))
  have h1 : (p.proc != 0) = true ∨ ((p.proc != 0) = false ∧ (p.peer != 0) = true) := by
    by_cases e : p.proc = 0
    · right; exact ⟨by simp [e], by simp; exact fun e2 => hq ⟨e, e2⟩⟩
    · left; simp [e]
  simp only [Pr.val, TM.val]
  rw [h0]
  clear hp h0 hk hrs hq
  rcases h1 with d1 | ⟨d1, d2⟩
  · skip
    go_enter Tryd.func44, Tryd.ntmps44
    go_upto_region 1 with fail
    refine boxed3 (w := w) (G := fun x => Code.wp _ _ _ _ x) ?_
    intro w1 hx1 hs1 ⟨l0, c0, f0, k0⟩ ⟨l1, c1, f1, k1⟩ ⟨l2, c2, f2, k2⟩
    have hx11 : Ext w1 w1 := Ext.refl _
    have HK0 := Lib.hid (show Hold w1 w.heap.size _ from k0)
    have HK1 := Lib.hid (show Hold w1 (w.heap.size + 1) _ from k1)
    have HK2 := Lib.hid (show Hold w1 (w.heap.size + 1 + 1) _ from k2)
    clear hs1 k0 k1 k2
    go_wp2_with fail
    go_at_call 69
    refine (named_any _ _).mono ?_
    rintro e w' ⟨rfl, rfl⟩
    rw [HN.out]
    go_wp2_with fail
    have hk9 := Hold.all6 HK2.out (.int .i64 p.kind) (.int .i64 p.num) (.int .i64 p.proc) (.int .i64 p.peer) (.string p.name) (.slice p.a 0 p.cap)
    refine bodyPost_ret (rsl_results _ _ (w.heap.size + 1 + 1) _ _ _ _ _ _ _ rfl rfl (hk9.cell0 0) (hk9.cell0 1) (hk9.cell0 2) (hk9.cell0 3) (hk9.cell0 4) (hk9.cell0 5)) rfl ?_
    exact ⟨hx1.put6 (by omega) 0 _ _ _ _ _ _, Pr.leafQ p.kind p.num p.proc p.peer p.name p.a p.cap, false, rfl, Pr.leafQ_held HF.out.kindI HF.out.numI HF.out.procI HF.out.peerI HF.out.nameI _ _, ⟨(fun h => by cases h), fun h => absurd h HC.out⟩, (fun h => by cases h)⟩
  · skip
    go_enter Tryd.func44, Tryd.ntmps44
    go_upto_region 1 with fail
    refine boxed3 (w := w) (G := fun x => Code.wp _ _ _ _ x) ?_
    intro w1 hx1 hs1 ⟨l0, c0, f0, k0⟩ ⟨l1, c1, f1, k1⟩ ⟨l2, c2, f2, k2⟩
    have hx11 : Ext w1 w1 := Ext.refl _
    have HK0 := Lib.hid (show Hold w1 w.heap.size _ from k0)
    have HK1 := Lib.hid (show Hold w1 (w.heap.size + 1) _ from k1)
    have HK2 := Lib.hid (show Hold w1 (w.heap.size + 1 + 1) _ from k2)
    clear hs1 k0 k1 k2
    go_wp2_with fail
    go_at_call 69
    refine (named_any _ _).mono ?_
    rintro e w' ⟨rfl, rfl⟩
    rw [HN.out]
    go_wp2_with fail
    have hk9 := Hold.all6 HK2.out (.int .i64 p.kind) (.int .i64 p.num) (.int .i64 p.proc) (.int .i64 p.peer) (.string p.name) (.slice p.a 0 p.cap)
    refine bodyPost_ret (rsl_results _ _ (w.heap.size + 1 + 1) _ _ _ _ _ _ _ rfl rfl (hk9.cell0 0) (hk9.cell0 1) (hk9.cell0 2) (hk9.cell0 3) (hk9.cell0 4) (hk9.cell0 5)) rfl ?_
    exact ⟨hx1.put6 (by omega) 0 _ _ _ _ _ _, Pr.leafQ p.kind p.num p.proc p.peer p.name p.a p.cap, false, rfl, Pr.leafQ_held HF.out.kindI HF.out.numI HF.out.procI HF.out.peerI HF.out.nameI _ _, ⟨(fun h => by cases h), fun h => absurd h HC.out⟩, (fun h => by cases h)⟩

end Go.Proofs.YtdplphoohnnbcaaDoor
