/- Plain: direct causes, induction along them; stamps that are given one after the other. The events ahead of an event. Plain. Contract: lamport.Stamps. Contract: slices.Reverse at EventId. -/
import Derived.Test.YtnknkkmdbnaglaaGreatKf
import Derived.Deep.LoopGhost
namespace Go.Proofs.YtnknkkmdbnaglaaGreat
open Go.RowKit Go.Shelf

theorem Ltr.of_from {T : Tr} : ∀ (l : List T.Id) (L : Ltr) (m : Nat), ((l.foldl (Ltr.step T) L).ti m = L.ti m ∧ (l.foldl (Ltr.step T) L).tp m = L.tp m) ∨ ∃ x, x ∈ l ∧ T.kind x.1.1 x.1.2 = 3 ∧ (T.msg x.1.1 x.1.2).toNat = m ∧ (l.foldl (Ltr.step T) L).tp m = x.1.1 ∧ (l.foldl (Ltr.step T) L).ti m = x.1.2 + 1
  | [], _, _ => .inl ⟨rfl, rfl⟩
  | a :: l, L, m => by
    rw [List.foldl_cons]
    rcases Ltr.of_from l (Ltr.step T L a) m with ⟨h1, h2⟩ | ⟨x, hx, h⟩
    · rw [h1, h2]
      by_cases k2 : T.kind a.1.1 a.1.2 = 2
      · left; unfold Ltr.step; rw [if_pos k2]; exact ⟨rfl, rfl⟩
      · by_cases k3 : T.kind a.1.1 a.1.2 = 3
        · by_cases hm : (T.msg a.1.1 a.1.2).toNat = m
          · right; refine ⟨a, List.mem_cons_self, k3, hm, ?_⟩
            unfold Ltr.step; rw [if_neg k2, if_pos k3]; simp [upd, hm]
          · left; unfold Ltr.step; rw [if_neg k2, if_pos k3]; simp [upd, Ne.symm hm]
        · left; unfold Ltr.step; rw [if_neg k2, if_neg k3]; exact ⟨rfl, rfl⟩
    · exact .inr ⟨x, List.mem_cons_of_mem _ hx, h⟩
theorem Tr.Valid.letter {T : Tr} (h : T.Valid) (y : T.Id) (hy : T.kind y.1.1 y.1.2 = 3) : (Ltr.of T T.evs).tp (T.msg y.1.1 y.1.2).toNat = y.1.1 ∧ (Ltr.of T T.evs).ti (T.msg y.1.1 y.1.2).toNat = y.1.2 + 1 := by
  have hf := h.formed y
  have hp := Ltr.of_ti h.formed T.evs Ltr.zero (T.msg y.1.1 y.1.2).toNat (.inr ⟨y, evs_all y, hy, by rcases hf with h | h <;> omega⟩)
  rcases Ltr.of_from T.evs Ltr.zero (T.msg y.1.1 y.1.2).toNat with ⟨h1, _⟩ | ⟨x, _, k3, hm, h1, h2⟩
  · rw [h1] at hp; exact absurd hp (by simp [Ltr.zero])
  · have hfx := h.formed x
    have : x = y := h.uniq3 k3 hy (by rcases hf with h | h <;> rcases hfx with h' | h' <;> omega)
    subst this; exact ⟨h1, h2⟩

/-- x is directly before y -/
def Tr.Dir (T : Tr) (x y : NN) : Prop := (y.1 = x.1 ∧ y.2 = x.2 + 1) ∨ (T.kind y.1 y.2 = 3 ∧ x = T.sndN y)
theorem Tr.sndN_V {T : Tr} {y : NN} (hy : T.V y) : T.V (T.sndN y) := by
  have := T.sndN_eq ⟨y, hy⟩
  simp only at this
  rw [this]; exact (T.snd ⟨y, hy⟩).2
theorem Tr.Valid.sndN {T : Tr} (h : T.Valid) {y : NN} (hy : T.V y) (k3 : T.kind y.1 y.2 = 3) : T.kind (T.sndN y).1 (T.sndN y).2 = 2 ∧ T.msg (T.sndN y).1 (T.sndN y).2 = T.msg y.1 y.2 := by
  have := T.sndN_eq ⟨y, hy⟩
  simp only at this
  rw [this]; exact (h.snd ⟨y, hy⟩ k3).2
theorem Tr.Dir.V {T : Tr} {x y : NN} (hy : T.V y) (h : T.Dir x y) : T.V x := by
  rcases h with ⟨h1, h2⟩ | ⟨_, h⟩
  · obtain ⟨a, b⟩ := hy; rw [h1] at a b; exact ⟨a, by omega⟩
  · rw [h]; exact Tr.sndN_V hy
theorem Tr.Valid.dir_succ {T : Tr} (h : T.Valid) {x y : NN} (hy : T.V y) (hd : T.Dir x y) : y ∈ T.succ (Ltr.of T T.evs) x := by
  unfold Tr.succ
  rcases hd with ⟨h1, h2⟩ | ⟨k3, he⟩
  · have hlt : x.2 + 1 < T.en x.1 := by rw [← h1, ← h2]; exact hy.2
    rw [if_pos hlt]
    exact List.mem_append_left _ (List.mem_singleton.2 (Prod.ext h1 h2))
  · subst he
    obtain ⟨k2, hm⟩ := h.sndN hy k3
    have hl := h.letter ⟨y, hy⟩ k3
    simp only at hl
    rw [hm]
    refine List.mem_append_right _ ?_
    rw [if_pos ⟨k2, by rw [hl.2]; omega⟩, hl.1, hl.2]
    refine List.mem_singleton.2 (Prod.ext ?_ ?_)
    · simp
    · simp
/-- induction along the direct causes -/
theorem Tr.Valid.ind {T : Tr} (h : T.Valid) {P : NN → Prop} (step : ∀ y, T.V y → (∀ x, T.V x → T.Dir x y → P x) → P y) : ∀ y, T.V y → P y := by
  refine fun y0 hy0 => Classical.byContradiction fun hn0 => ?_
  have key : ∀ n, ∃ (z : NN) (S : List NN), (z :: S).Nodup ∧ S.length = n ∧ ¬ P z ∧ (∀ u, u ∈ z :: S → T.V u) ∧ ∀ u, u ∈ S → Path (T.succ (Ltr.of T T.evs)) z u := by
    intro n
    induction n with
    | zero => exact ⟨y0, [], by simp, rfl, hn0, by simpa using hy0, by simp⟩
    | succ n ih =>
      obtain ⟨z, S, hnd, hl, hz, hv, hp⟩ := ih
      have hvz := hv z List.mem_cons_self
      obtain ⟨x, hx, hd, hnx⟩ : ∃ x, T.V x ∧ T.Dir x z ∧ ¬ P x := Classical.byContradiction fun hc => hz (step z hvz fun x hx hd => Classical.byContradiction fun hnx => hc ⟨x, hx, hd, hnx⟩)
      have hs := h.dir_succ hvz hd
      have hpx : ∀ u, u ∈ z :: S → Path (T.succ (Ltr.of T T.evs)) x u := by
        intro u hu
        rcases List.mem_cons.1 hu with e | hu
        · subst e; exact Path.one hs
        · obtain ⟨k, hk⟩ := hp u hu; exact ⟨k + 1, z, hs, hk⟩
      refine ⟨x, z :: S, ?_, by simp [hl], hnx, ?_, hpx⟩
      · refine List.nodup_cons.2 ⟨fun hm => h.acy ⟨⟨x, hx⟩, hpx x hm⟩, hnd⟩
      · intro u hu
        rcases List.mem_cons.1 hu with e | hu
        · subst e; exact hx
        · exact hv u hu
  obtain ⟨z, S, hnd, hl, _, hv, _⟩ := key T.evs.length
  have := evs_count hnd hv
  simp at this; omega

def tot (f : Nat → Nat) : Nat → Nat | 0 => 0 | n + 1 => tot f n + f n
theorem tot_le {f g : Nat → Nat} : ∀ {n : Nat}, (∀ k, k < n → f k ≤ g k) → tot f n ≤ tot g n
  | 0, _ => Nat.le_refl _
  | n + 1, h => Nat.add_le_add (tot_le fun k hk => h k (by omega)) (h n (by omega))
theorem tot_congr {f g : Nat → Nat} : ∀ {n : Nat}, (∀ k, k < n → f k = g k) → tot f n = tot g n
  | 0, _ => rfl
  | n + 1, h => by unfold tot; rw [tot_congr fun k hk => h k (by omega), h n (by omega)]
theorem tot_one {f g : Nat → Nat} {p : Nat} : ∀ {n : Nat}, p < n → (∀ k, k ≠ p → f k = g k) → f p = g p + 1 → tot f n = tot g n + 1
  | n + 1, hp, h, h1 => by
    unfold tot
    by_cases e : p = n
    · subst e; rw [tot_congr (g := g) fun k hk => h k (by omega), h1]; omega
    · rw [tot_one (n := n) (by omega) h h1, h n (Ne.symm e)]; omega
theorem tot_small {f : Nat → Nat} {c : Nat} : ∀ {n : Nat}, (∀ k, k < n → f k ≤ c) → tot f n ≤ n * c
  | 0, _ => by simp [tot]
  | n + 1, h => by unfold tot; rw [Nat.succ_mul]; exact Nat.add_le_add (tot_small fun k hk => h k (by omega)) (h n (by omega))

/-- the stamps given so far -/
structure Tr.Part (T : Tr) (rows : Nat → List Int) : Prop where
  le : ∀ k, k < T.n → (rows k).length ≤ T.en k
  eq : ∀ k i, k < T.n → i < (rows k).length → (rows k).getD i 0 = max (if i = 0 then 0 else (rows k).getD (i - 1) 0) (if T.kind k i = 3 then (rows (T.sndN (k, i)).1).getD (T.sndN (k, i)).2 0 else 0) + 1
  got : ∀ k i, k < T.n → i < (rows k).length → T.kind k i = 3 → (T.sndN (k, i)).2 < (rows (T.sndN (k, i)).1).length
  sm : ∀ k i, k < T.n → i < (rows k).length → 1 ≤ (rows k).getD i 0 ∧ (rows k).getD i 0 ≤ (tot (fun k => (rows k).length) T.n : Nat)
theorem Tr.Part.nil (T : Tr) : T.Part fun _ => [] := ⟨fun _ _ => Nat.zero_le _, fun _ _ _ h => absurd h (by simp), fun _ _ _ h => absurd h (by simp), fun _ _ _ h => absurd h (by simp)⟩
theorem updR_len (rows : Nat → List Int) (p : Nat) (x : Int) (k : Nat) : (updR rows p (rows p ++ [x]) k).length = (rows k).length + if k = p then 1 else 0 := by
  unfold updR
  by_cases e : k = p
  · subst e; simp
  · simp [e]
theorem updR_get (rows : Nat → List Int) (p : Nat) (x : Int) (k i : Nat) (h : i < (rows k).length) : (updR rows p (rows p ++ [x]) k).getD i 0 = (rows k).getD i 0 := by
  unfold updR
  by_cases e : k = p
  · subst e; simp only [if_true, List.getD_eq_getElem?_getD]; rw [List.getElem?_append_left h]
  · simp [e]
theorem updR_last (rows : Nat → List Int) (p : Nat) (x : Int) : (updR rows p (rows p ++ [x]) p).getD (rows p).length 0 = x := by
  unfold updR; simp
theorem Tr.Part.push {T : Tr} {rows : Nat → List Int} (h : T.Part rows) {p : Nat} (hp : p < T.n) (hr : T.Ready rows p) : T.Part (updR rows p (rows p ++ [T.next rows p])) := by
  have hv : ∀ k i, k < T.n → i < T.en k → T.V (T.sndN (k, i)) := fun k i hk hi => Tr.sndN_V (y := (k, i)) ⟨hk, hi⟩
  have hlen := updR_len rows p (T.next rows p)
  have htot : tot (fun k => (updR rows p (rows p ++ [T.next rows p]) k).length) T.n = tot (fun k => (rows k).length) T.n + 1 :=
    tot_one hp (fun k hk => by rw [hlen, if_neg hk]; rfl) (by rw [hlen, if_pos rfl])
  have hold : ∀ k i, k < T.n → i < (updR rows p (rows p ++ [T.next rows p]) k).length → i < (rows k).length ∨ (k = p ∧ i = (rows p).length) := by
    intro k i _ hi; rw [hlen] at hi
    by_cases e : k = p
    · subst e; rw [if_pos rfl] at hi; omega
    · rw [if_neg e] at hi; omega
  have hge : ∀ k i, i < (rows k).length → (updR rows p (rows p ++ [T.next rows p]) k).getD i 0 = (rows k).getD i 0 := fun k i h => updR_get rows p _ k i h
  have hnx : 1 ≤ T.next rows p ∧ T.next rows p ≤ (tot (fun k => (rows k).length) T.n : Nat) + 1 := by
    unfold Tr.next
    have a1 : (0 : Int) ≤ (if (rows p).length = 0 then 0 else (rows p).getD ((rows p).length - 1) 0) ∧ (if (rows p).length = 0 then 0 else (rows p).getD ((rows p).length - 1) 0) ≤ (tot (fun k => (rows k).length) T.n : Nat) := by
      by_cases e : (rows p).length = 0
      · rw [if_pos e]; exact ⟨Int.le_refl _, Int.natCast_nonneg _⟩
      · rw [if_neg e]; have := h.sm p ((rows p).length - 1) hp (by omega); omega
    have a2 : (if T.kind p (rows p).length = 3 then (rows (T.sndN (p, (rows p).length)).1).getD (T.sndN (p, (rows p).length)).2 0 else 0) ≤ (tot (fun k => (rows k).length) T.n : Nat) := by
      by_cases e : T.kind p (rows p).length = 3
      · rw [if_pos e]; exact (h.sm _ _ (hv p _ hp hr.1).1 (hr.2 e)).2
      · rw [if_neg e]; exact Int.natCast_nonneg _
    omega
  refine ⟨fun k hk => ?_, fun k i hk hi => ?_, fun k i hk hi k3 => ?_, fun k i hk hi => ?_⟩
  · rw [hlen]
    by_cases e : k = p
    · subst e; rw [if_pos rfl]; exact hr.1
    · rw [if_neg e]; exact h.le k hk
  · rcases hold k i hk hi with hi | ⟨rfl, rfl⟩
    · rw [hge k i hi, h.eq k i hk hi]
      congr 2
      · by_cases e : i = 0
        · rw [if_pos e, if_pos e]
        · rw [if_neg e, if_neg e, hge k (i - 1) (by omega)]
      · by_cases e : T.kind k i = 3
        · rw [if_pos e, if_pos e, hge _ _ (h.got k i hk hi e)]
        · rw [if_neg e, if_neg e]
    · rw [updR_last]
      unfold Tr.next
      congr 2
      · by_cases e : (rows k).length = 0
        · rw [if_pos e, if_pos e]
        · rw [if_neg e, if_neg e]; exact (updR_get rows k _ k _ (by omega)).symm
      · by_cases e : T.kind k (rows k).length = 3
        · rw [if_pos e, if_pos e]; exact (updR_get rows k _ _ _ (hr.2 e)).symm
        · rw [if_neg e, if_neg e]
  · rw [hlen]
    rcases hold k i hk hi with hi | ⟨rfl, rfl⟩
    · exact Nat.lt_add_right _ (h.got k i hk hi k3)
    · exact Nat.lt_add_right _ (hr.2 k3)
  · rw [htot]
    rcases hold k i hk hi with hi | ⟨rfl, rfl⟩
    · rw [hge k i hi]; have := h.sm k i hk hi; omega
    · rw [updR_last]; omega
/-- so many stamps are to come -/
def Tr.left (T : Tr) (rows : Nat → List Int) : Nat := tot T.en T.n - tot (fun k => (rows k).length) T.n
theorem Tr.Part.left {T : Tr} {rows : Nat → List Int} (h : T.Part rows) {p : Nat} (hp : p < T.n) (hr : T.Ready rows p) : T.left (updR rows p (rows p ++ [T.next rows p])) < T.left rows := by
  have h1 := tot_le (h.push hp hr).le
  have h2 : tot (fun k => (updR rows p (rows p ++ [T.next rows p]) k).length) T.n = tot (fun k => (rows k).length) T.n + 1 :=
    tot_one hp (fun k hk => by rw [updR_len, if_neg hk]; rfl) (by rw [updR_len, if_pos rfl])
  unfold Tr.left; omega
theorem Tr.Part.small {T : Tr} {rows : Nat → List Int} (h : T.Part rows) (hn : T.n ≤ 8) (he : ∀ k, k < T.n → T.en k ≤ 1000000) : SmallR T.n rows := by
  intro k i hk hi
  have h1 := h.sm k i hk hi
  have h2 := tot_le h.le
  have h3 := tot_small he
  have h4 : T.n * 1000000 ≤ 8000000 := by omega
  omega
/-- all stamps -/
structure Tr.Stamps (T : Tr) (rows : Nat → List Int) : Prop where
  len : ∀ k, k < T.n → (rows k).length = T.en k
  eq : ∀ k i, k < T.n → i < T.en k → (rows k).getD i 0 = max (if i = 0 then 0 else (rows k).getD (i - 1) 0) (if T.kind k i = 3 then (rows (T.sndN (k, i)).1).getD (T.sndN (k, i)).2 0 else 0) + 1
  sm : ∀ k i, k < T.n → i < T.en k → 1 ≤ (rows k).getD i 0 ∧ (rows k).getD i 0 ≤ (tot T.en T.n : Nat)
/-- where nothing moves, all is done -/
theorem Tr.Part.full {T : Tr} {rows : Nat → List Int} (h : T.Part rows) (hV : T.Valid) (hs : ∀ p, p < T.n → ¬ T.Ready rows p) : T.Stamps rows := by
  have all : ∀ y, T.V y → y.2 < (rows y.1).length := by
    refine hV.ind fun y hy ih => ?_
    have hlt : ∀ i, i ≤ y.2 → i ≤ (rows y.1).length := by
      intro i hi
      cases i with
      | zero => exact Nat.zero_le _
      | succ i =>
        -- the event before
        rcases Nat.lt_or_ge i y.2 with hh | hh
        · have := ih (y.1, y.2 - 1) ⟨hy.1, Nat.lt_of_le_of_lt (Nat.sub_le _ _) hy.2⟩ (.inl ⟨rfl, by show y.2 = y.2 - 1 + 1; omega⟩)
          simp only at this; omega
        · omega
    have hle := hlt y.2 (Nat.le_refl _)
    refine Nat.lt_of_le_of_ne hle fun e => hs y.1 hy.1 ⟨by rw [← e]; exact hy.2, fun k3 => ?_⟩
    rw [← e] at k3 ⊢
    exact ih (T.sndN y) (Tr.sndN_V hy) (.inr ⟨k3, rfl⟩)
  have hlen : ∀ k, k < T.n → (rows k).length = T.en k := by
    intro k hk
    refine Nat.le_antisymm (h.le k hk) ?_
    rcases Nat.eq_zero_or_pos (T.en k) with e | e
    · omega
    · have := all (k, T.en k - 1) ⟨hk, by show T.en k - 1 < T.en k; omega⟩
      simp only at this; omega
  exact ⟨hlen, fun k i hk hi => h.eq k i hk (by rw [hlen k hk]; exact hi), fun k i hk hi => by rw [← tot_congr hlen]; exact h.sm k i hk (by rw [hlen k hk]; exact hi)⟩
/-- the stamps are determined -/
theorem Tr.Stamps.uniq {T : Tr} (hV : T.Valid) {r s : Nat → List Int} (hr : T.Stamps r) (hs : T.Stamps s) : ∀ y, T.V y → (r y.1).getD y.2 0 = (s y.1).getD y.2 0 := by
  refine hV.ind fun y hy ih => ?_
  rw [hr.eq y.1 y.2 hy.1 hy.2, hs.eq y.1 y.2 hy.1 hy.2]
  congr 2
  · by_cases e : y.2 = 0
    · rw [if_pos e, if_pos e]
    · rw [if_neg e, if_neg e]; exact ih (y.1, y.2 - 1) ⟨hy.1, Nat.lt_of_le_of_lt (Nat.sub_le _ _) hy.2⟩ (.inl ⟨rfl, by show y.2 = y.2 - 1 + 1; omega⟩)
  · by_cases e : T.kind y.1 y.2 = 3
    · rw [if_pos e, if_pos e]; exact ih (T.sndN y) (Tr.sndN_V hy) (.inr ⟨e, rfl⟩)
    · rw [if_neg e, if_neg e]

end Go.Proofs.YtnknkkmdbnaglaaGreat

namespace Go.Proofs.YtnknkkmdbnaglaaGreat
open Go.RowKit

theorem Tr.evsTo_mem {T : Tr} {k i : Nat} {x : T.Id} (h : x ∈ T.evsTo k i) : x.1.1 < k ∨ (x.1.1 = k ∧ x.1.2 < i) := by
  unfold Tr.evsTo at h
  rcases List.mem_append.1 h with h | h
  · obtain ⟨p, hp, h⟩ := List.mem_flatMap.1 h
    obtain ⟨j, hj, h⟩ := List.mem_filterMap.1 h
    unfold Tr.mk? at h
    split at h
    · cases h; exact .inl (List.mem_range.1 hp)
    · cases h
  · obtain ⟨j, hj, h⟩ := List.mem_filterMap.1 h
    unfold Tr.mk? at h
    split at h
    · cases h; exact .inr ⟨rfl, List.mem_range.1 hj⟩
    · cases h
theorem Tr.evsTo_tot (T : Tr) : ∀ (k i : Nat), k < T.n → i ≤ T.en k → (T.evsTo k i).length = tot T.en k + i
  | 0, 0, _, _ => rfl
  | k + 1, 0, hk, _ => by rw [← Tr.evsTo_next, Tr.evsTo_tot T k (T.en k) (by omega) (Nat.le_refl _)]; rfl
  | k, i + 1, hk, hi => by rw [Tr.evsTo_succ _ _ _ hk hi, List.length_append, Tr.evsTo_tot T k i hk (by omega)]; rfl
theorem Tr.evs_tot (T : Tr) : T.evs.length = tot T.en T.n := by
  unfold Tr.evs
  cases h : T.n with
  | zero => rfl
  | succ n => rw [← Tr.evsTo_next, Tr.evsTo_tot T n (T.en n) (by omega) (Nat.le_refl _)]; rfl

end Go.Proofs.YtnknkkmdbnaglaaGreat

namespace Go.Proofs.YtnknkkmdbnaglaaGreat
open Go.RowKit Go.Shelf

theorem infoInts : (Tryz.prog.info? 28).map (fun i => (i.zero, i.size, i.bytes)) = some (some (.slice none 0 0), 1, 24) := by kernel_rfl
theorem StS.made {w : World} {base g n : Nat} (h : w.ownsRow base 28 1 (.slice (some ⟨g, 0, none⟩) n n) n (madeCells (Value.slice none 0 0).cells (n * 1)).toList) (hn : n ≤ 100) :
    StS base g n (fun _ => []) (fun _ => .slice none 0 0) w := by
  obtain ⟨h1, ⟨hv, _⟩ | ⟨g', cap, cur, hv, hg, hh, hc, hm, hs, ht⟩⟩ := h
  · cases hv
  · simp only [Value.slice.injEq, Option.some.injEq, Addr.mk.injEq] at hv
    obtain ⟨⟨rfl, _⟩, _, rfl⟩ := hv
    have hb := Box.of hh
    have hz : (Value.slice none 0 0).cells = #[.slice none 0 0] := rfl
    rw [hz, toList_madeCells_one] at ht
    refine ⟨hn, fun k hk => ?_, fun k => ?_, fun k _ => IntOwn.nil _ _, fun j k _ _ _ g e => by simp [Value.ownBlock] at e, fun k _ => by simp [Value.ownBlock], fun k _ => by simp⟩
    · rw [hb.cell w (Ext.refl _)]
      have : cur[k]? = (List.replicate (n * 1) (Value.slice none 0 0))[k]? := by rw [← ht, List.getElem?_take_of_lt (by omega)]; simp
      rw [this, List.getElem?_replicate, if_pos (by omega)]
    · exact hb.frozen w (Ext.refl _) k
/-- the stamps so far, in memory -/
structure StI (T : TM) (w : World) (rows : Nat → List Int) (wr : World) : Prop where
  st : ∃ vs, StS w.heap.size w.heap.size T.n rows vs wr
  bl : Ext w wr
  pt : T.toTr.Part rows
theorem StI.ext {T : TM} {w wr w' : World} {rows : Nat → List Int} (h : StI T w rows wr) (h0 : 0 < T.n) (x : Ext wr w') : StI T w rows w' := by
  obtain ⟨⟨vs, hs⟩, h2, h3⟩ := h
  exact ⟨⟨vs, hs.ext h0 x⟩, h2.trans x, h3⟩
def StampsPost (T : TM) (w : World) (e : Ending) (w' : World) : Prop := Ext w w' ∧
  ((¬ T.toTr.Valid ∧ e = .returned (.tuple #[.slice none 0 0, .int .i64 1])) ∨
   (T.toTr.Valid ∧ ∃ base cap rows vs, w.heap.size ≤ base ∧ e = .returned (.tuple #[.slice (some ⟨base, 0, none⟩) T.n cap, .int .i64 0]) ∧ StS base base T.n rows vs w' ∧ T.toTr.Stamps rows))

end Go.Proofs.YtnknkkmdbnaglaaGreat

namespace Go.Proofs.YtnknkkmdbnaglaaGreat
open Go.RowKit Go.Shelf

/-- n events lie in block g -/
structure EvRow (w : World) (g n : Nat) (f : Nat → Int × Int) : Prop where
  c0 : ∀ k, k < n → w.cell? ⟨g, k * 2, none⟩ = some (.int .i64 (f k).1)
  c1 : ∀ k, k < n → w.cell? ⟨g, k * 2 + 1, none⟩ = some (.int .i64 (f k).2)
  fr : ∀ o, w.frozen? ⟨g, o, none⟩ = false
/-- the first i and the last i have changed places -/
def revF (f : Nat → Int × Int) (n i : Nat) : Nat → Int × Int := fun k => if k < i ∨ n - 1 - i < k then f (n - 1 - k) else f k
theorem EvRow.swap {w : World} {g n i j : Nat} {f : Nat → Int × Int} (h : EvRow w g n (revF f n i)) (hi : i < j) (hj : j = n - 1 - i) (hn : 0 < n) :
    EvRow ((((w.setCell ⟨g, i * 2, none⟩ (.int .i64 (f j).1)).setCell ⟨g, i * 2 + 1, none⟩ (.int .i64 (f j).2)).setCell ⟨g, j * 2, none⟩ (.int .i64 (f i).1)).setCell ⟨g, j * 2 + 1, none⟩ (.int .i64 (f i).2)) g n (revF f n (i + 1)) := by
  have a0 := h.c0 i (by omega)
  have a1 := h.c1 i (by omega)
  have b0 := h.c0 j (by omega)
  have b1 := h.c1 j (by omega)
  have e1 := fun o => cell_set w g (i * 2) o (.int .i64 (f j).1) a0
  have x2 : (w.setCell ⟨g, i * 2, none⟩ (.int .i64 (f j).1)).cell? ⟨g, i * 2 + 1, none⟩ = some (.int .i64 (revF f n i i).2) := by rw [e1, if_neg (by omega)]; exact a1
  have e2 := fun o => cell_set _ g (i * 2 + 1) o (.int .i64 (f j).2) x2
  have x3 : ((w.setCell ⟨g, i * 2, none⟩ (.int .i64 (f j).1)).setCell ⟨g, i * 2 + 1, none⟩ (.int .i64 (f j).2)).cell? ⟨g, j * 2, none⟩ = some (.int .i64 (revF f n i j).1) := by rw [e2, if_neg (by omega), e1, if_neg (by omega)]; exact b0
  have e3 := fun o => cell_set _ g (j * 2) o (.int .i64 (f i).1) x3
  have x4 : (((w.setCell ⟨g, i * 2, none⟩ (.int .i64 (f j).1)).setCell ⟨g, i * 2 + 1, none⟩ (.int .i64 (f j).2)).setCell ⟨g, j * 2, none⟩ (.int .i64 (f i).1)).cell? ⟨g, j * 2 + 1, none⟩ = some (.int .i64 (revF f n i j).2) := by rw [e3, if_neg (by omega), e2, if_neg (by omega), e1, if_neg (by omega)]; exact b1
  have e4 := fun o => cell_set _ g (j * 2 + 1) o (.int .i64 (f i).2) x4
  have hrev : ∀ k, k < n → revF f n (i + 1) k = if k = i then f j else if k = j then f i else revF f n i k := by
    intro k hk
    unfold revF
    by_cases k1 : k = i
    · subst k1; rw [if_pos (by omega), if_pos rfl, hj]
    · rw [if_neg k1]
      by_cases k2 : k = j
      · rw [if_pos (by omega), if_pos k2]; congr 1; omega
      · rw [if_neg k2]
        by_cases k3 : k < i ∨ n - 1 - i < k
        · rw [if_pos k3, if_pos (by omega)]
        · rw [if_neg k3, if_neg (by omega)]
  refine ⟨fun k hk => ?_, fun k hk => ?_, fun o => by rw [frozen_set, frozen_set, frozen_set, frozen_set]; exact h.fr o⟩
  · rw [e4, e3, e2, e1, hrev k hk, if_neg (by omega)]
    by_cases k2 : k = j
    · rw [if_pos (by omega), if_neg (by omega), if_pos k2]
    · rw [if_neg (by omega), if_neg (by omega)]
      by_cases k1 : k = i
      · rw [if_pos (by omega), if_pos k1]
      · rw [if_neg (by omega), if_neg k1, if_neg k2]; exact h.c0 k hk
  · rw [e4, e3, e2, e1, hrev k hk]
    by_cases k2 : k = j
    · rw [if_pos (by omega), if_neg (by omega), if_pos k2]
    · rw [if_neg (by omega), if_neg (by omega)]
      by_cases k1 : k = i
      · rw [if_pos (by omega), if_pos k1]
      · rw [if_neg (by omega), if_neg (by omega), if_neg k1, if_neg k2]; exact h.c1 k hk


end Go.Proofs.YtnknkkmdbnaglaaGreat
