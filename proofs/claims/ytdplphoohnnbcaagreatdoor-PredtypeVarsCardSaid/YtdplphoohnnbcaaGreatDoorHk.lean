/- The values of the variables of a process in its states. Plain. Contract: lamport.advance. A slice that the call made, wherever it begins in its block ('queue = queue[1:]'), and append of many elements onto it. Nothing of the program. Contract: slices.Clone at []int. -/
import Derived.Test.YtdplphoohnnbcaaGreatDoorHj
import Derived.Test.YtdplphoohnnbcaaGreatDoorHg
import Derived.Maps.AppendAt
import Derived.Deep.AppendSrc
import Derived.Deep.Upon
import Derived.Test.YtdplphoohnnbcaaGreatDoorHa
namespace Go.Proofs.YtdplphoohnnbcaaGreatDoor
open Go.RowKit

/-- the value of variable v behind j assignments of event i -/
def Tr.stJ (T : Tr) (p v i : Nat) (x : Int) : Nat → Int
  | 0 => x
  | j + 1 => if T.avar p i j = (v : Int) then T.aval p i j else Tr.stJ T p v i x j
/-- .. in state k -/
def Tr.st (T : Tr) (p v : Nat) : Nat → Int
  | 0 => T.vinit p v
  | i + 1 => T.stJ p v i (Tr.st T p v i) (T.an p i)
/-- .. of all variables -/
def Tr.stM (T : Tr) (p i j : Nat) : List Int := (List.range (T.vn p)).map fun v => T.stJ p v i (T.st p v i) j
def Tr.stL (T : Tr) (p k : Nat) : List Int := (List.range (T.vn p)).map fun v => T.st p v k
theorem Tr.stL_len (T : Tr) (p k : Nat) : (T.stL p k).length = T.vn p := by simp [Tr.stL]
theorem Tr.stM_len (T : Tr) (p i j : Nat) : (T.stM p i j).length = T.vn p := by simp [Tr.stM]
theorem Tr.stM_zero (T : Tr) (p i : Nat) : T.stM p i 0 = T.stL p i := rfl
theorem Tr.stM_end (T : Tr) (p i : Nat) : T.stM p i (T.an p i) = T.stL p (i + 1) := rfl
theorem Tr.stL_get (T : Tr) (p k v : Nat) (h : v < T.vn p) : (T.stL p k)[v]? = some (T.st p v k) := by simp [Tr.stL, h]
theorem Tr.stM_set (T : Tr) (p i j a : Nat) (h : T.avar p i j = (a : Int)) : (T.stM p i j).set a (T.aval p i j) = T.stM p i (j + 1) := by
  apply List.ext_getElem?
  intro v
  unfold Tr.stM
  rw [List.getElem?_set, List.getElem?_map, List.getElem?_map, List.length_map, List.length_range]
  by_cases hv : v < T.vn p
  · rw [List.getElem?_range hv]
    show _ = some (if T.avar p i j = (v : Int) then T.aval p i j else T.stJ p v i (T.st p v i) j)
    by_cases e : a = v
    · subst e; rw [if_pos rfl, if_pos hv, if_pos h]
    · rw [if_neg e, if_neg (by omega)]; rfl
  · rw [List.getElem?_eq_none (by simp; omega)]
    by_cases e : a = v
    · subst e; rw [if_pos rfl, if_neg hv]; rfl
    · rw [if_neg e]; rfl
/-- what Valid says of an assignment -/
theorem Tr.Valid.asg {T : Tr} (h : T.Valid) {p i j : Nat} (hp : p < T.n) (hi : i < T.en p) (hj : j < T.an p i) : 0 ≤ T.avar p i j ∧ T.avar p i j < T.vn p ∧ (-1073741824 ≤ T.aval p i j ∧ T.aval p i j ≤ 1073741824) ∧ ∀ l, l < j → T.avar p i l ≠ T.avar p i j := by
  obtain ⟨h1, h2, h3⟩ := (h.ev p i hp hi).2.2.2.2 j hj
  simp [inB] at h1 h2
  refine ⟨by omega, by omega, by omega, fun l hl e => ?_⟩
  have := anyB_false_iff.1 h3 l hl
  simp [e] at this
theorem Tr.Valid.an8 {T : Tr} (h : T.Valid) {p i : Nat} (hp : p < T.n) (hi : i < T.en p) : T.an p i ≤ 8 := (h.ev p i hp hi).2.2.2.1
theorem Tr.Valid.vn8 {T : Tr} (h : T.Valid) {p : Nat} (hp : p < T.n) : T.vn p ≤ 8 := (h.pr p hp).2.2.1
theorem Tr.Valid.en64 {T : Tr} (h : T.Valid) {p : Nat} (hp : p < T.n) : T.en p ≤ 64 := (h.pr p hp).2.2.2.2
/-- a value is the initial one or one that was assigned -/
def Tr.ValOf (T : Tr) (p v : Nat) (x : Int) : Prop := x = T.vinit p v ∨ ∃ i j, i < T.en p ∧ j < T.an p i ∧ T.avar p i j = (v : Int) ∧ T.aval p i j = x
theorem Tr.stJ_of (T : Tr) (p v i : Nat) (hi : i < T.en p) (x : Int) : ∀ j, j ≤ T.an p i → T.stJ p v i x j = x ∨ T.ValOf p v (T.stJ p v i x j)
  | 0, _ => .inl rfl
  | j + 1, h => by
    show (if T.avar p i j = (v : Int) then T.aval p i j else T.stJ p v i x j) = x ∨ T.ValOf p v (if T.avar p i j = (v : Int) then T.aval p i j else T.stJ p v i x j)
    by_cases e : T.avar p i j = (v : Int)
    · rw [if_pos e]; exact .inr (.inr ⟨i, j, hi, h, e, rfl⟩)
    · rw [if_neg e]; exact Tr.stJ_of T p v i hi x j (by omega)
theorem Tr.st_of (T : Tr) (p v : Nat) : ∀ k, k ≤ T.en p → T.ValOf p v (T.st p v k)
  | 0, _ => .inl rfl
  | k + 1, h => by
    have ih := Tr.st_of T p v k (by omega)
    rcases T.stJ_of p v k (by omega) (T.st p v k) (T.an p k) (Nat.le_refl _) with e | e
    · show T.ValOf p v (T.stJ p v k (T.st p v k) (T.an p k)); rw [e]; exact ih
    · exact e
/-- .. and each such value is that of a state -/
theorem Tr.Valid.of_st {T : Tr} (h : T.Valid) {p v : Nat} (hp : p < T.n) {x : Int} (hx : T.ValOf p v x) : ∃ k, k ≤ T.en p ∧ T.st p v k = x := by
  rcases hx with rfl | ⟨i, j, hi, hj, ha, rfl⟩
  · exact ⟨0, Nat.zero_le _, rfl⟩
  · refine ⟨i + 1, hi, ?_⟩
    show T.stJ p v i (T.st p v i) (T.an p i) = _
    have key : ∀ m, j < m → m ≤ T.an p i → T.stJ p v i (T.st p v i) m = T.aval p i j := by
      intro m
      induction m with
      | zero => intro h; omega
      | succ m ih =>
        intro h1 h2
        show (if T.avar p i m = (v : Int) then T.aval p i m else T.stJ p v i (T.st p v i) m) = _
        by_cases e : m = j
        · subst e; rw [if_pos ha]
        · rw [if_neg (fun e2 => (h.asg hp hi (j := m) (by omega)).2.2.2 j (by omega) (ha.trans e2.symm))]
          exact ih (by omega) (by omega)
    exact key _ hj (Nat.le_refl _)
/-- l and h: the least and the greatest of the values P -/
structure LowHigh (P : Int → Prop) (l h : Int) : Prop where
  low : P l
  high : P h
  all : ∀ x, P x → l ≤ x ∧ x ≤ h
theorem LowHigh.uniq {P : Int → Prop} {l h l' h' : Int} (a : LowHigh P l h) (b : LowHigh P l' h') : l = l' ∧ h = h' := by
  have h1 := a.all _ b.low
  have h2 := a.all _ b.high
  have h3 := b.all _ a.low
  have h4 := b.all _ a.high
  omega
theorem LowHigh.le {P : Int → Prop} {l h : Int} (a : LowHigh P l h) : l ≤ h := (a.all _ a.low).2
theorem Tr.Valid.val_range {T : Tr} (h : T.Valid) {p v : Nat} (hp : p < T.n) (hv : v < T.vn p) {x : Int} (hx : T.ValOf p v x) : -1073741824 ≤ x ∧ x ≤ 1073741824 := by
  rcases hx with rfl | ⟨i, j, hi, hj, ha, rfl⟩
  · have := ((h.pr p hp).2.2.2.1 v hv).2.2
    simp [inB] at this; exact this
  · exact (h.asg hp hi hj).2.2.1
/-- the least and the greatest value of a list -/
theorem LowHigh.ofList (l : List Int) (a : Int) (h : l[0]? = some a) : ∃ x y, LowHigh (· ∈ l) x y := by
  cases l with
  | nil => simp at h
  | cons b r =>
    clear h a
    induction r generalizing b with
    | nil => exact ⟨b, b, by simp, by simp, by simp⟩
    | cons c r ih =>
      obtain ⟨x, y, h1, h2, h3⟩ := ih c
      refine ⟨min b x, max b y, ?_, ?_, ?_⟩
      · simp only [List.mem_cons] at h1 ⊢; by_cases e : b ≤ x
        · left; omega
        · right; rw [show min b x = x by omega]; exact h1
      · simp only [List.mem_cons] at h2 ⊢; by_cases e : y ≤ b
        · left; omega
        · right; rw [show max b y = y by omega]; exact h2
      · intro z hz
        rcases List.mem_cons.1 hz with rfl | hz
        · omega
        · have := h3 z hz; omega

end Go.Proofs.YtdplphoohnnbcaaGreatDoor

namespace Go.Proofs.YtdplphoohnnbcaaGreatDoor
open Go.RowKit Go.Shelf

open Classical in
/-- who sends what event x receives -/
noncomputable def Tr.sndN (T : Tr) (x : NN) : NN := if h : x.1 < T.n ∧ x.2 < T.en x.1 then (T.snd ⟨x, h⟩).1 else (0, 0)
theorem Tr.sndN_eq (T : Tr) (x : T.Id) : T.sndN x.1 = (T.snd x).1 := by
  unfold Tr.sndN; rw [dif_pos x.2]
/-- the next event of process p can get its stamp -/
def Tr.Ready (T : Tr) (rows : Nat → List Int) (p : Nat) : Prop :=
  (rows p).length < T.en p ∧ (T.kind p (rows p).length = 3 → (T.sndN (p, (rows p).length)).2 < (rows (T.sndN (p, (rows p).length)).1).length)
/-- its stamp -/
noncomputable def Tr.next (T : Tr) (rows : Nat → List Int) (p : Nat) : Int :=
  max (if (rows p).length = 0 then 0 else (rows p).getD ((rows p).length - 1) 0)
    (if T.kind p (rows p).length = 3 then (rows (T.sndN (p, (rows p).length)).1).getD (T.sndN (p, (rows p).length)).2 0 else 0) + 1
theorem infoInt : (Tryz.prog.info? 3).map (fun i => (i.zero, i.size, i.bytes)) = some (some (.int .i64 0), 1, 8) := by kernel_rfl
/-- all stamps are small -/
def SmallR (n : Nat) (rows : Nat → List Int) : Prop := ∀ k i, k < n → i < (rows k).length → 0 ≤ (rows k).getD i 0 ∧ (rows k).getD i 0 < 1000000000


theorem own_slice {w : World} {base : Nat} {t : TypeId} {v : Value} {n : Nat} {xs : List Value} (h : w.ownsRow base t 1 v (n + 1) xs) : ∃ a c, v = .slice a (n + 1) c := by
  obtain ⟨_, ⟨hv, hn⟩ | ⟨g, cap, cur, hv, _⟩⟩ := h
  · omega
  · exact ⟨_, _, hv⟩
def AdvPost (base bS n p : Nat) (rows : Nat → List Int) (x : Int) (w : World) (e : Ending) (w' : World) : Prop :=
  e = .returned (.bool true) ∧ (∃ vs', StS base bS n (updR rows p (rows p ++ [x])) vs' w') ∧ Below base w w'

end Go.Proofs.YtdplphoohnnbcaaGreatDoor

namespace Go.Proofs.YtdplphoohnnbcaaGreatDoor
open Go.RowKit

/-- n elements, the cells xs; all that may be written lies from block base on -/
structure Que (w : World) (base size : Nat) (v : Value) (n : Nat) (xs : List Value) : Prop where
  len : xs.length = n * size
  val : (∃ ao, v = .slice ao 0 0 ∧ n = 0 ∧ ∀ a, ao = some a → base ≤ a.block) ∨ ∃ g off cap, v = .slice (some ⟨g, off, none⟩) n cap ∧ base ≤ g ∧ g < w.heap.size ∧ n ≤ cap ∧ cap ≤ maxLen ∧
    (∀ j, j < n * size → w.cell? ⟨g, off + j, none⟩ = xs[j]?) ∧ ∀ j, j < cap * size → (w.cell? ⟨g, off + j, none⟩).isSome = true ∧ w.frozen? ⟨g, off + j, none⟩ = false
theorem Que.same {w w' : World} {base size : Nat} {v : Value} {n : Nat} {xs : List Value} (h : Que w base size v n xs) (hs : w.heap.size ≤ w'.heap.size) (hb : ∀ g, base ≤ g → g < w.heap.size → w'.heap[g]? = w.heap[g]?) : Que w' base size v n xs := by
  refine ⟨h.len, ?_⟩
  rcases h.val with hv | ⟨g, off, cap, hv, h1, h2, h3, h4, h5, h6⟩
  · exact .inl hv
  · have e := hb g h1 h2
    refine .inr ⟨g, off, cap, hv, h1, by omega, h3, h4, fun j hj => ?_, fun j hj => ?_⟩
    · exact (World.cell?_of_block (w := w) (a := ⟨g, off + j, none⟩) e).trans (h5 j hj)
    · rw [World.cell?_of_block (w := w) (a := ⟨g, off + j, none⟩) e, World.frozen?_of_block (w := w) (a := ⟨g, off + j, none⟩) e]
      exact h6 j hj
theorem Que.ext {w w' : World} {base size : Nat} {v : Value} {n : Nat} {xs : List Value} (h : Que w base size v n xs) (x : Ext w w') : Que w' base size v n xs :=
  h.same x.le fun g _ hg => x.block g hg
theorem Que.mono {w : World} {base base' size : Nat} {v : Value} {n : Nat} {xs : List Value} (h : Que w base size v n xs) (hb : base' ≤ base) : Que w base' size v n xs := by
  refine ⟨h.len, ?_⟩
  rcases h.val with ⟨ao, hv, hn, ha⟩ | ⟨g, off, cap, hv, h1, h2⟩
  · exact .inl ⟨ao, hv, hn, fun a e => Nat.le_trans hb (ha a e)⟩
  · exact .inr ⟨g, off, cap, hv, by omega, h2⟩
theorem Que.block {w : World} {base size : Nat} {v : Value} {n : Nat} {xs : List Value} (h : Que w base size v n xs) : ∀ k, v.ownBlock = some k → base ≤ k := by
  intro k hk
  rcases h.val with ⟨ao, rfl, hn, ha⟩ | ⟨g, off, cap, rfl, h1, h2⟩
  · cases ao with
    | none => cases hk
    | some a => cases hk; exact ha a rfl
  · cases hk; exact h1
theorem Que.same' {w w' : World} {base size : Nat} {v : Value} {n : Nat} {xs : List Value} (h : Que w base size v n xs) (hs : w.heap.size ≤ w'.heap.size) (hb : ∀ g, v.ownBlock = some g → w'.heap[g]? = w.heap[g]?) : Que w' base size v n xs := by
  refine ⟨h.len, ?_⟩
  rcases h.val with hv | ⟨g, off, cap, hv, h1, h2, h3, h4, h5, h6⟩
  · exact .inl hv
  · have e := hb g (by rw [hv]; rfl)
    refine .inr ⟨g, off, cap, hv, h1, by omega, h3, h4, fun j hj => ?_, fun j hj => ?_⟩
    · exact (World.cell?_of_block (w := w) (a := ⟨g, off + j, none⟩) e).trans (h5 j hj)
    · rw [World.cell?_of_block (w := w) (a := ⟨g, off + j, none⟩) e, World.frozen?_of_block (w := w) (a := ⟨g, off + j, none⟩) e]
      exact h6 j hj
/-- what is appended, out of a slice that a call has made -/
theorem Que.src {P : Program} {w : World} {base size : Nat} {v : Value} {n : Nat} {xs : List Value} (h : Que w base size v n xs) {tx e' : TypeId} (hk : P.underlying tx = some (.slice e')) (h1 : ∀ u ∈ xs, u.oneCell' = true) : Src P size tx v n xs w := by
  rcases h.val with ⟨ao, rfl, rfl, ha⟩ | ⟨g, off, cap, rfl, _, _, _, _, h5, h6⟩
  · obtain rfl : xs = [] := List.eq_nil_of_length_eq_zero (by simpa using h.len)
    cases ao with
    | none => exact Src.ofNil w hk 0
    | some a => exact Src.ofSlice w hk a 0 0 [] (by simp) (by intro _ _ h'; simp at h') h1
  · refine Src.ofSlice w hk ⟨g, off, none⟩ n cap xs h.len (fun j u hu => ?_) h1
    have hj := (List.getElem?_eq_some_iff.1 hu).1
    rw [h.len] at hj
    rw [Addr.add_lit]; exact (h5 j hj).trans hu
theorem Que.nil (w : World) (base size : Nat) : Que w base size (.slice none 0 0) 0 [] := ⟨by simp, .inl ⟨_, rfl, rfl, fun a e => by cases e⟩⟩
theorem Que.own {w : World} {base : Nat} {e : TypeId} {size : Nat} {v : Value} {n : Nat} {xs : List Value} (h : w.ownsRow base e size v n xs) : Que w base size v n xs := by
  obtain ⟨h1, ⟨hv, hn⟩ | ⟨g, cap, cur, hv, hg, hh, hc, hm, hs, ht⟩⟩ := h
  · exact ⟨h1, .inl ⟨none, hv, hn, fun a e => by cases e⟩⟩
  · have hb := Box.of hh
    refine ⟨h1, .inr ⟨g, 0, cap, hv, hg, (Array.getElem?_eq_some_iff.1 hh).1, hc, hm, fun j hj => ?_, fun j hj => ⟨?_, ?_⟩⟩⟩
    · rw [hb.cell w (Ext.refl _), Nat.zero_add, ← ht, List.getElem?_take_of_lt hj]; simp
    · rw [hb.cell w (Ext.refl _), Nat.zero_add, Array.getElem?_eq_getElem (by rw [hs]; exact hj)]; rfl
    · exact hb.frozen w (Ext.refl _) _
/-- 'q[1:]' -/
theorem Que.tail {w : World} {base size : Nat} {v : Value} {n : Nat} {xs : List Value} (h : Que w base size v (n + 1) xs) :
    ∃ g off cap, v = .slice (some ⟨g, off, none⟩) (n + 1) cap ∧ base ≤ g ∧ g < w.heap.size ∧ n + 1 ≤ cap ∧ cap ≤ maxLen ∧ (∀ j, j < (n + 1) * size → w.cell? ⟨g, off + j, none⟩ = xs[j]?) ∧
      Que w base size (.slice (if cap = 1 then some ⟨g, off, none⟩ else some ⟨g, off + size, none⟩) n (cap - 1)) n (xs.drop size) := by
  rcases h.val with ⟨_, _, hv, _⟩ | ⟨g, off, cap, hv, h1, h2, h3, h4, h5, h6⟩
  · cases hv
  · refine ⟨g, off, cap, hv, h1, h2, h3, h4, h5, ?_, ?_⟩
    · rw [List.length_drop, h.len, Nat.add_mul]; omega
    · by_cases hc : cap = 1
      · subst hc
        obtain rfl : n = 0 := by omega
        exact .inl ⟨_, rfl, rfl, fun a e => by rw [if_pos rfl] at e; cases e; exact h1⟩
      · rw [if_neg hc]
        refine .inr ⟨g, off + size, cap - 1, rfl, h1, h2, by omega, by omega, fun j hj => ?_, fun j hj => ?_⟩
        · rw [Nat.add_assoc, h5 (size + j) (by rw [Nat.add_mul]; omega), List.getElem?_drop]
        · rw [Nat.add_assoc]
          have : size + j < cap * size := by
            obtain ⟨c, rfl⟩ : ∃ c, cap = c + 1 := ⟨cap - 1, by omega⟩
            rw [Nat.add_mul]; simp at hj; omega
          exact h6 _ this
theorem tape_setCells (b : Nat) : ∀ (vs : List Value) (o : Nat) (w : World), (w.setCells b o vs).tape = w.tape ∧ (w.setCells b o vs).heap.size = w.heap.size
  | [], _, _ => ⟨rfl, rfl⟩
  | v :: vs, o, w => by
    have := tape_setCells b vs (o + 1) (w.setCell ⟨b, o, none⟩ v)
    exact ⟨this.1, this.2.trans (World.size_setCell _ _ _)⟩
section
variable {P : Program}
theorem run_append_que {w : World} {base : Nat} (t tx ty e : TypeId) (i : TypeInfo) (z : Value) (size bytes : Nat) (ht : P.underlying t = some (.slice e)) (hi : P.info? e = some i) (hz : i.zero = some z) (hsize : i.size = size) (hby : i.bytes = bytes) (hzs : z.cells.size = size)
    {v : Value} {n : Nat} {xs : List Value} (h : Que w base size v n xs) (hb : base ≤ w.heap.size)
    (x : Value) (m : Nat) (news : List Value) (hs : Src P size tx x m news w) (h63 : n + m ≤ maxLen) (hbytes : (n + m) * bytes ≤ 140737488355328) :
    ∃ v' w', (Builtin.append_ #[t, tx] ty #[v, x]).run P w = .ok v' w' ∧ Que w' base size v' (n + m) (xs ++ news) ∧ w.grownBy w' v.ownBlock ∧ (v'.ownBlock = v.ownBlock ∨ v'.ownBlock = some w.heap.size) := by
  subst hsize hby
  have hnl := hs.newsLen
  have hxl := h.len
  have hL : (xs ++ news).length = (n + m) * i.size := by rw [List.length_append, hxl, hnl, Nat.add_mul]
  have hsmall : n + m ≤ 9223372036854775807 := by simp only [maxLen] at h63; omega
  have grow : ∀ (bs : Option Addr) (sc : Nat), v = .slice bs n sc → sc < n + m →
      (Builtin.firstCells i.size n (.slice bs n sc)).run P w.drew = .ok xs.toArray w.drew →
      ∃ v' w', (Builtin.append_ #[t, tx] ty #[v, x]).run P w = .ok v' w' ∧ Que w' base i.size v' (n + m) (xs ++ news) ∧ w.grownBy w' v.ownBlock ∧ (v'.ownBlock = v.ownBlock ∨ v'.ownBlock = some w.heap.size) := by
    rintro bs sc rfl hg hold
    have hrun := run_append_grow_src (P := P) w t tx ty e i z ht hi hz bs n sc xs hold x m news hs hg (by omega) (growslice_fits hg hbytes)
    have hge := grownCap_ge w (n + m) sc e
    have hcm := grownCap_le_maxLen w (n + m) sc e h63
    refine ⟨_, _, hrun, ⟨hL, .inr ⟨w.heap.size, 0, _, rfl, hb, ?_, hge, hcm, fun j hj => ?_, fun j hj => ⟨?_, ?_⟩⟩⟩, ⟨rfl, rfl, rfl, by rw [World.size_alloc]; exact Nat.le_succ _, fun k hk _ => Below.heap_alloc w.drew _ k hk⟩, .inr rfl⟩
    · rw [World.size_alloc]; exact Nat.lt_succ_self _
    · have e1 : (w.drew.alloc (.cells ((xs ++ news).toArray ++ Builtin.zeroCells z.cells (grownCap w (n + m) sc e - (n + m))) e)).cell? ⟨w.heap.size, j, none⟩ = _ := World.cell?_alloc_new w.drew _ _ j
      rw [Nat.zero_add, e1, Array.getElem?_append_left (by simp only [List.size_toArray]; rw [hL]; exact hj), List.getElem?_toArray]
    · have e1 : (w.drew.alloc (.cells ((xs ++ news).toArray ++ Builtin.zeroCells z.cells (grownCap w (n + m) sc e - (n + m))) e)).cell? ⟨w.heap.size, j, none⟩ = _ := World.cell?_alloc_new w.drew _ _ j
      rw [Nat.zero_add, e1]
      have hsz : ((xs ++ news).toArray ++ Builtin.zeroCells z.cells (grownCap w (n + m) sc e - (n + m))).size = grownCap w (n + m) sc e * i.size := by
        rw [Array.size_append, List.size_toArray, hL, size_zeroCells, hzs, ← Nat.add_mul]
        congr 1
        omega
      rw [Array.getElem?_eq_getElem (by rw [hsz]; exact hj)]
      rfl
    · rw [Nat.zero_add]; exact World.frozen?_alloc_new w.drew _ _ j
  rcases h.val with ⟨ao, rfl, rfl, hao⟩ | ⟨g, off, cap, rfl, h1, h2, h3, h4, h5, h6⟩
  · obtain rfl : xs = [] := List.eq_nil_of_length_eq_zero (by simpa using hxl)
    by_cases hm : m = 0
    · subst hm
      obtain rfl : news = [] := List.eq_nil_of_length_eq_zero (by simpa using hnl)
      exact ⟨_, _, run_append_nothing (P := P) w t tx ty e i ht hi ao 0 0 (Nat.le_refl _) x hs, by simpa using h, World.grownBy.refl _ _, .inl rfl⟩
    · refine grow ao 0 rfl (by omega) ?_
      cases ao with
      | none => exact run_firstCells_none w.drew i.size 0 0 0
      | some a' => exact run_firstCells_some w.drew i.size 0 a' 0 0 [] (by simp) (by intro _ _ h'; simp at h')
  · by_cases hfit : n + m ≤ cap
    · have hrc : (n + m) * i.size ≤ cap * i.size := Nat.mul_le_mul_right _ hfit
      rw [Nat.add_mul] at hrc
      have hsome : ∀ j, j < news.length → (w.cell? ⟨g, off + n * i.size + j, none⟩).isSome = true := fun j hj => by rw [Nat.add_assoc]; exact (h6 _ (by omega)).1
      have hrun := run_append_room_src (P := P) w t tx ty e i ht hi g off n cap x m news hs hfit hsome (fun j hj => by rw [Nat.add_assoc]; exact (h6 _ (by omega)).2)
      have hts := tape_setCells g news (off + n * i.size) w
      refine ⟨_, _, hrun, ⟨hL, .inr ⟨g, off, cap, rfl, h1, by rw [hts.2]; exact h2, hfit, h4, fun j hj => ?_, fun j hj => ⟨?_, (World.frozen?_setCells g _ _ _ _).trans (h6 j hj).2⟩⟩⟩, ⟨World.os_setCells _ _ _ _, hts.1, World.output_setCells _ _ _ _, Nat.le_of_eq hts.2.symm, fun k hk hne => World.heap_setCells_other w g _ news hk (fun e => hne (by rw [e]; rfl))⟩, .inl rfl⟩
      · rw [Nat.add_mul] at hj
        by_cases hjo : j < n * i.size
        · rw [World.cell?_setCells_out g _ _ _ _ (fun _ _ => Or.inl (by show off + j < off + n * i.size; omega)), List.getElem?_append_left (by omega)]
          exact h5 j hjo
        · have ht' : j - n * i.size < news.length := by omega
          have := World.cell?_setCells_in g news (off + n * i.size) w hsome (j - n * i.size) ht'
          rw [show off + n * i.size + (j - n * i.size) = off + j by omega] at this
          rw [this, List.getElem?_append_right (by omega), hxl, List.getElem?_eq_getElem ht']
      · by_cases hin : n * i.size ≤ j ∧ j < n * i.size + news.length
        · have := World.cell?_setCells_in g news (off + n * i.size) w hsome (j - n * i.size) (by omega)
          rw [show off + n * i.size + (j - n * i.size) = off + j by omega] at this
          rw [this]; rfl
        · rw [World.cell?_setCells_out g _ _ _ _ (fun _ _ => by show off + j < off + n * i.size ∨ off + n * i.size + news.length ≤ off + j; omega)]
          exact (h6 j hj).1
    · refine grow (some ⟨g, off, none⟩) cap rfl (by omega) ?_
      refine run_firstCells_some w.drew i.size n ⟨g, off, none⟩ n cap xs hxl (fun j u hu => ?_)
      rw [Addr.add_lit]
      have hj : j < n * i.size := by
        have := (List.getElem?_eq_some_iff.1 hu).1
        omega
      exact (h5 j hj).trans hu
theorem wpList_append_que (w : World) {ops : Array Oper} {rest : List Oper} {o : Oper} {a : Act} {Q : Exit → Act → World → Prop} (hgd : o.guard = none) (s x : Operand) (t tx : TypeId)
    (ho : o.op = .call { callee := .builtin .append, args := #[s, x], argTypes := #[t, tx] })
    {base : Nat} {e : TypeId} {size : Nat} (i : TypeInfo) (z : Value) (bytes : Nat) (ht : P.underlying t = some (.slice e)) (hi : P.info? e = some i) (hz : i.zero = some z) (hsize : i.size = size) (hby : i.bytes = bytes) (hzs : z.cells.size = size)
    {v : Value} {n : Nat} {xs : List Value} (hv : a.eval s = v) (h : Que w base size v n xs) (hb : base ≤ w.heap.size)
    (xv : Value) (m : Nat) (news : List Value) (hx : a.eval x = xv) (hs : Src P size tx xv m news w) (h63 : n + m ≤ maxLen) (hbytes : (n + m) * bytes ≤ 140737488355328)
    (hK : ∀ v' w', Que w' base size v' (n + m) (xs ++ news) → w.grownBy w' v.ownBlock → (v'.ownBlock = v.ownBlock ∨ v'.ownBlock = some w.heap.size) → wpList P ops Q rest (a.put o.dst v') w') : wpList P ops Q (o :: rest) a w := by
  refine wpList_plain hgd fun K hK' => ?_
  obtain ⟨v', w', hrun, r1, r2, r3⟩ := run_append_que (P := P) t tx o.type e i z size bytes ht hi hz hsize hby hzs h hb xv m news hs h63 hbytes
  unfold Oper.wp
  simp [execOp, ho, resolve, invoke, builtin, hv, hx, hrun, Result.andThen]
  exact hK' _ _ (hK v' w' r1 r2 r3)
end
end Go.Proofs.YtdplphoohnnbcaaGreatDoor

namespace Go.Proofs.YtdplphoohnnbcaaGreatDoor
open Go.RowKit Go.Shelf

set_option maxRecDepth 100000 in
set_option maxHeartbeats 1000000 in
theorem clone_any (w : World) (base : Nat) (v : Value) (l : List Int) (h : IntOwn w base v l) (hl : l.length ≤ 1000) :
    Calls Tryz.prog 160 #[v] w fun e w' => ∃ v', e = .returned v' ∧ Que w' w.heap.size 1 v' l.length (intCells l) ∧ Ext w w' := by
  obtain ⟨j0, hj0, hy0, hy1, hy2⟩ := info_parts infoInt
  have HQ := Lib.hid (Que.own h)
  have hnl : ∀ (W : World) (a : Option Addr) (n c n' c' : Nat), (binOp .eql 112 (.slice a n c) (.slice none n' c')).run Tryz.prog W = .ok (.bool a.isNone) W := fun W a n c n' c' => Lib.run_eql_slice_nil W _ _ a n c n' c' Tryz.underlying112
  obtain ⟨_, ⟨hv, hn⟩ | ⟨g, cap, cur, hv, _⟩⟩ := h
  · subst hv
    obtain rfl : l = [] := List.eq_nil_of_length_eq_zero hn
    clear hn
    go_enter Tryz.func160, Tryz.ntmps160
    go_wp2_with fail
    go_ret
    exact ⟨_, rfl, Que.nil _ _ _, Ext.refl _⟩
  · subst hv
    obtain ⟨n, hn⟩ : ∃ n, n = l.length := ⟨_, rfl⟩
    rw [← hn] at HQ hl ⊢
    have HN := Lib.hid hn
    clear hn
    go_enter Tryz.func160, Tryz.ntmps160
    go_wp2_with (at_builtin; refine wpList_append_que _ rfl _ _ 112 112 rfl (base := w.heap.size) (e := 3) (size := 1) j0 (.int .i64 0) 8 Tryz.underlying112 hj0 hy0 hy1 hy2 rfl rfl (v := .slice (some ⟨w.heap.size, 0, none⟩) 0 0) (n := 0) (xs := []) ⟨rfl, .inl ⟨_, rfl, rfl, fun a e => by cases e; exact Nat.le_refl _⟩⟩ (by simp) (.slice (some ⟨g, 0, none⟩) n cap) n (intCells l) rfl ((HQ.out.ext (Ext.alloc _ _)).src Tryz.underlying112 (intCells_one _)) (by unfold maxLen; omega) (by omega) ?_; rintro v5 w5 hq5 hg5 -; have H5 := Lib.hid (And.intro hq5 hg5); clear hq5 hg5)
    go_ret
    refine ⟨_, rfl, ?_, ?_⟩
    · have := H5.out.1
      rw [Nat.zero_add, List.nil_append] at this
      exact this
    · exact ((Below.refl _ w).alloc (Nat.le_refl _) _).grown H5.out.2 (by simp) (by intro k hk; simp [Value.ownBlock] at hk; omega)

end Go.Proofs.YtdplphoohnnbcaaGreatDoor
