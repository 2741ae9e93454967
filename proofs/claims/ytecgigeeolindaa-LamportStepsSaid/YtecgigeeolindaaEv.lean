/- Events' places compared; a set of them as a map. -/
import Derived.Test.YtecgigeeolindaaAft
namespace Go.Proofs.Ytecgigeeolindaa
open Go.RowKit Go.Shelf

abbrev evV (x : Int × Int) : Value := .agg #[.int .i64 x.1, .int .i64 x.2]
theorem guard_ev : Try.prog.eqGuardType Try.prog.depth 31 = false := by kernel_rfl
theorem run_equalIn_int (d : Nat) (a b : Int) (w : World) : (Op.equalIn (d + 1) 3 (.int .i64 a) (.int .i64 b)).run Try.prog w = .ok (a == b) w := by
  rw [Op.equalIn]; simp [go_sem, run_underlying Try.underlying3]
theorem run_equalIn_ev (d : Nat) (x y : Int × Int) (w : World) : (Op.equalIn (d + 1 + 1) 31 (evV x) (evV y)).run Try.prog w = .ok (x.1 == y.1 && x.2 == y.2) w := by
  rw [Op.equalIn]
  by_cases h : x.1 = y.1
  · by_cases h2 : x.2 = y.2
    · simp [go_sem, run_underlying Try.underlying31, run_equalIn_int, h, h2]
    · simp [go_sem, run_underlying Try.underlying31, run_equalIn_int, h, h2]
  · simp [go_sem, run_underlying Try.underlying31, run_equalIn_int, h]

theorem run_equal_ev (x y : Int × Int) (w : World) : (Op.equal 31 (evV x) (evV y)).run Try.prog w = .ok (x.1 == y.1 && x.2 == y.2) w := run_equalIn_ev 9998 x y w
/-- the set of events S lies in the map of block b -/
def SetAt (w : World) (b : Nat) (S : List (Int × Int)) : Prop :=
  ∃ es clock, w.heap[b]? = some (.map es clock) ∧ es.toList.map (fun e => (e.key, e.val)) = S.map (fun x => (evV x, .bool true))
theorem eq_pair (x y : Int × Int) : (x.1 == y.1 && x.2 == y.2) = decide (x = y) := by
  rw [Bool.eq_iff_iff]; simp [Prod.ext_iff]
/-- the place of the first y in S, from i on -/
def placeOf (y : Int × Int) : List (Int × Int) → Nat → Option (Nat × Value)
  | [], _ => none
  | x :: S, i => if y = x then some (i, .bool true) else placeOf y S (i + 1)
theorem run_findAsking_ev (y : Int × Int) (w : World) : ∀ (es : List MapEntry) (S : List (Int × Int)) (i : Nat), es.map (fun e => (e.key, e.val)) = S.map (fun x => (evV x, Value.bool true)) →
    (Instr.findAsking 31 (evV y) es i).run Try.prog w = .ok (placeOf y S i) w
  | [], [], i, _ => by simp [Instr.findAsking, placeOf]
  | [], _ :: _, _, h => by simp at h
  | _ :: _, [], _, h => by simp at h
  | e :: es, x :: S, i, h => by
    simp only [List.map_cons, List.cons.injEq, Prod.mk.injEq] at h
    obtain ⟨⟨h1, h2⟩, h3⟩ := h
    have ih := run_findAsking_ev y w es S (i + 1) h3
    have he := run_equal_ev y x w
    rw [eq_pair] at he
    by_cases e' : y = x
    · subst e'; simp [Instr.findAsking, Sem.run_bind, placeOf, h1, h2, he]
    · simp [Instr.findAsking, Sem.run_bind, placeOf, h1, he, e', ih]
theorem findNow_ev {d : TypeDesc} {fs : Array Field} (hd : d = .struct fs) (y : Int × Int) (e : MapEntry) (es : List MapEntry) (i : Nat) : Instr.findNow d (evV y) (e :: es) i = none := by
  subst hd; simp [Instr.findNow, Instr.sameNow]

theorem run_findKey_ev (y : Int × Int) (w : World) (es : List MapEntry) (S : List (Int × Int)) (h : es.map (fun e => (e.key, e.val)) = S.map (fun x => (evV x, Value.bool true))) :
    (Instr.findKey 31 (evV y) es).run Try.prog w = .ok (placeOf y S 0) w := by
  unfold Instr.findKey
  cases es with
  | nil =>
    cases S with
    | nil => simp [run_underlying Try.underlying31, Instr.findNow, placeOf]
    | cons x S => simp at h
  | cons e es =>
    have hf := run_findAsking_ev y w (e :: es) S 0 h
    simp [Sem.run_bind, run_underlying Try.underlying31, findNow_ev rfl, hf]
theorem run_checkKey_ev (b : Bool) (y : Int × Int) (w : World) : (Instr.checkKey b 10000 31 (evV y)).run Try.prog w = .ok () w := by
  have h1 : ∀ (d : Nat) (a : Int) (w : World), (Instr.checkKey b (d + 1) 3 (.int .i64 a)).run Try.prog w = .ok () w := by
    intro d a w
    rw [Instr.checkKey]; simp [go_sem, run_underlying Try.underlying3]
  show (Instr.checkKey b (9998 + 1 + 1) 31 (evV y)).run Try.prog w = _
  rw [Instr.checkKey]
  simp [go_sem, run_underlying Try.underlying31, h1]
theorem placeOf_none {y : Int × Int} : ∀ (S : List (Int × Int)) (i : Nat), y ∉ S → placeOf y S i = none
  | [], _, _ => rfl
  | x :: S, i, h => by
    simp only [List.mem_cons, not_or] at h
    rw [placeOf, if_neg h.1]; exact placeOf_none S (i + 1) h.2
theorem placeOf_some {y : Int × Int} : ∀ (S : List (Int × Int)) (i : Nat), y ∈ S → ∃ j, placeOf y S i = some (j, .bool true)
  | [], _, h => by cases h
  | x :: S, i, h => by
    by_cases e : y = x
    · exact ⟨i, by rw [placeOf, if_pos e]⟩
    · rcases List.mem_cons.1 h with h | h
      · exact absurd h e
      · obtain ⟨j, hj⟩ := placeOf_some S (i + 1) h
        exact ⟨j, by rw [placeOf, if_neg e]; exact hj⟩
/-- 'seen[y]' -/
theorem run_lookup_ev {w : World} {b : Nat} {S : List (Int × Int)} (h : SetAt w b S) (y : Int × Int) :
    (Instr.lookup 141 (.map (some b)) (evV y) false).run Try.prog w = .ok (.bool (decide (y ∈ S))) w := by
  obtain ⟨es, clock, hb, he⟩ := h
  have hk := fun c => run_checkKey_ev c y w
  have hf := run_findKey_ev y w es.toList S he
  by_cases hy : y ∈ S
  · obtain ⟨j, hj⟩ := placeOf_some S 0 hy
    rw [hj] at hf
    simp [Instr.lookup, Sem.run_bind, run_underlying Try.underlying141, getObj, Sem.run, hb, hk, hf, hy]
  · rw [placeOf_none S 0 hy] at hf
    have hz : (zeroValue 4).run Try.prog w = .ok (.bool false) w := by kernel_rfl
    simp [Instr.lookup, Sem.run_bind, run_underlying Try.underlying141, getObj, Sem.run, hb, hk, hf, hy, hz]
/-- 'seen[y] = true', y being new -/
theorem run_update_ev {w : World} {b : Nat} {S : List (Int × Int)} (h : SetAt w b S) (y : Int × Int) (hy : y ∉ S) :
    ∃ o, (Instr.mapUpdate 141 (.map (some b)) (evV y) (.bool true)).run Try.prog w = .ok () (w.putObj b o) ∧ SetAt (w.putObj b o) b (S ++ [y]) := by
  obtain ⟨es, clock, hb, he⟩ := h
  have hk := fun c => run_checkKey_ev c y w
  have hf := run_findKey_ev y w es.toList S he
  rw [placeOf_none S 0 hy] at hf
  refine ⟨.map (es.push { key := evV y, val := .bool true, born := clock }) (clock + 1), ?_, es.push { key := evV y, val := .bool true, born := clock }, clock + 1, ?_, by simp [he]⟩
  · simp [Instr.mapUpdate, Sem.run_bind, run_underlying Try.underlying141, getObj, setObj, Sem.run, hb, hk, hf, World.putObj]
  · have hlt := (Array.getElem?_eq_some_iff.1 hb).1
    simp [World.putObj, hlt]

end Go.Proofs.Ytecgigeeolindaa
