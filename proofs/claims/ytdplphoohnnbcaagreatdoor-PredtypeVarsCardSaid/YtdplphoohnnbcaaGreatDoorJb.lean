/- Contract of antecederef28.collect: a node that is a variable. Contract of antecederef28.collect: a node that is a variable. Contract of antecederef28.collect: all nodes; Vars. -/
import Derived.Test.YtdplphoohnnbcaaGreatDoorJa
import Derived.Deep.CutBlock
import Derived.Sort.Walk0
import Derived.Deep.LoopGhost
import Derived.Test.YtdplphoohnnbcaaGreatDoorHh
namespace Go.Proofs.YtdplphoohnnbcaaGreatDoor
open Go.RowKit Go.Shelf

/-- the terms lie in a slice of the call's own -/
structure ColS (w0 : World) (v : Value) (L : List VK) (w : World) : Prop where
  hx : Ext w0 w
  own : TmOwn w w0.heap.size v (sortedT L)
  lt : ∀ g, v.ownBlock = some g → g < w.heap.size
/-- what lay in w lies as it lay, but for the row -/
structure ColR (v v' : Value) (w w' : World) : Prop where
  le : w.heap.size ≤ w'.heap.size
  at_ : ∀ k, k < w.heap.size → v.ownBlock ≠ some k → w'.heap[k]? = w.heap[k]? ∧ v'.ownBlock ≠ some k
theorem ColR.refl (v : Value) (w : World) : ColR v v w w := ⟨Nat.le_refl _, fun _ _ h => ⟨rfl, h⟩⟩
theorem ColR.trans {v v' v'' : Value} {a b c : World} (h : ColR v v' a b) (k : ColR v' v'' b c) : ColR v v'' a c :=
  ⟨Nat.le_trans h.le k.le, fun x h1 h2 => by
    obtain ⟨h3, h4⟩ := h.at_ x h1 h2
    obtain ⟨h5, h6⟩ := k.at_ x (Nat.lt_of_lt_of_le h1 h.le) h4
    exact ⟨h5.trans h3, h6⟩⟩
theorem Ext.colR {w w' : World} (h : Ext w w') (v : Value) : ColR v v w w' := ⟨h.le, fun k hk hn => ⟨h.block k hk, hn⟩⟩
/-- a new row -/
theorem Ext.colNew {w w' : World} (h : Ext w w') (v v' : Value) (hv : ∀ g, v'.ownBlock = some g → w.heap.size ≤ g) : ColR v v' w w' := ⟨h.le, fun k hk _ => ⟨h.block k hk, fun e => by have := hv k e; omega⟩⟩
theorem Hold.colR {w w' : World} {v v' : Value} {b : Nat} {c : Array Value} (h : Hold w b c) (k : ColR v v' w w') (hn : v.ownBlock ≠ some b) : Hold w' b c := by
  obtain ⟨t, h⟩ := h
  exact ⟨t, by rw [(k.at_ b (Array.getElem?_eq_some_iff.1 h).1 hn).1]; exact h⟩
theorem ColS.ext {w0 w w' : World} {v : Value} {L : List VK} (h : ColS w0 v L w) (x : Ext w w') : ColS w0 v L w' :=
  ⟨h.hx.trans x, h.own.ext x, fun g hg => Nat.lt_of_lt_of_le (h.lt g hg) x.le⟩
def ColPost (w0 : World) (v : Value) (L : List VK) (w : World) (e : Ending) (w' : World) : Prop := ∃ v', e = .returned v' ∧ ColS w0 v' L w' ∧ ColR v v' w w'
theorem sortedT_len (L : List VK) : (sortedT L).length ≤ L.length := by
  refine list_snoc (C := fun L => (sortedT L).length ≤ L.length) (Nat.le_refl _) (fun l x h => ?_) L
  rw [sortedT_snoc, List.length_append]
  have : ∀ S : List Trm, (insT x S).length ≤ S.length + 1 := by
    intro S
    induction S with
    | nil => exact Nat.le_refl _
    | cons s S ih =>
      unfold insT
      split
      · simp only [List.length_cons]; omega
      · split
        · simp
        · simp
  have := this (sortedT l)
  simp only [List.length_cons, List.length_nil]; omega
theorem sortedT_sum (L : List VK) : ∀ t ∈ sortedT L, 0 < t.2.2 ∧ t.2.2 ≤ L.length := fun t ht => by
  have := ((sortedT_terms L).1 t).1 ht
  have h2 := List.countP_le_length (p := fun y => decide (y = t.key)) (l := L)
  unfold cntK at this
  omega
/-- a copied element -/
theorem copyAt {w1 wr w2 : World} {v v' : Value} {l : List Trm} {n : Nat} {x : Int} {y : ByteArray} {z : Int} (hx : Ext w1 wr) (hn : l.length = n) (hown : Que wr w1.heap.size 3 v n (tmCells l)) (hq : Que w2 w1.heap.size 3 v' (n + 1) (tmCells l ++ [.int .i64 x, .string y, .int .i64 z]))
    {o : Obj} (hg : (wr.alloc o).grownBy w2 v.ownBlock) : Ext w1 w2 ∧ TmOwn w2 w1.heap.size v' (l ++ [(x, y, z)]) := by
  refine ⟨(hx.alloc' o).below.grown hg (by rw [World.size_alloc]; have := hx.le; omega) hown.block, ?_⟩
  unfold TmOwn
  rw [tmCells_snoc, List.length_append, hn]
  exact hq
/-- the new row, while the second part is copied -/
def insTo (S : List Trm) (k : Nat) (x : Trm) (i : Nat) : List Trm := S.take k ++ x :: (S.take i).drop k
theorem insTo_start (S : List Trm) (k : Nat) (x : Trm) : insTo S k x k = S.take k ++ [x] := by
  unfold insTo
  rw [List.drop_eq_nil_of_le (by rw [List.length_take]; omega)]
theorem insTo_succ {S : List Trm} {k i : Nat} {x : Trm} (hk : k ≤ i) (hi : i < S.length) : insTo S k x (i + 1) = insTo S k x i ++ [trmAt S i] := by
  unfold insTo
  rw [trmAt_eq hi, List.take_succ_eq_append_getElem hi, List.drop_append_of_le_length (by rw [List.length_take]; omega), List.append_assoc]; rfl
theorem insTo_end (S : List Trm) (k : Nat) (x : Trm) : insTo S k x S.length = S.take k ++ x :: S.drop k := by
  unfold insTo; rw [List.take_length]
theorem insTo_len {S : List Trm} {k i : Nat} {x : Trm} (hk : k ≤ i) (hi : i ≤ S.length) : (insTo S k x i).length = i + 1 := by
  unfold insTo
  rw [List.length_append, List.length_cons, List.length_drop, List.length_take, List.length_take]; omega
theorem take_snocT {S : List Trm} {i : Nat} (hi : i < S.length) : S.take (i + 1) = S.take i ++ [trmAt S i] := by
  rw [trmAt_eq hi]; exact List.take_succ_eq_append_getElem hi

end Go.Proofs.YtdplphoohnnbcaaGreatDoor

namespace Go.Proofs.YtdplphoohnnbcaaGreatDoor
open Go.RowKit Go.Shelf

set_option maxRecDepth 100000 in
set_option maxHeartbeats 4000000 in
theorem collectV_any (w0 : World) (p : Pr) (hk2 : p.kind = 2) (L : List VK) (v : Value) (w : World) (hS : ColS w0 v L w) (hL : L.length < 500) :
    Calls Tryz.prog 50 #[v, p.val] w (ColPost w0 v (L ++ [(p.proc, p.name)]) w) := by
  have hsum := sortedT_sum L
  have hlen := sortedT_len L
  obtain ⟨S, hSL⟩ : ∃ S, S = sortedT L := ⟨_, rfl⟩
  have HINS := Lib.hid (sortedT_snoc L (p.proc, p.name))
  rw [← hSL] at hsum hlen HINS
  have hown : TmOwn w w0.heap.size v S := by rw [hSL]; exact hS.own
  obtain ⟨a, g, off, cap, hv, hat, hgb, hfr⟩ := hown.at (by omega)
  have HS := Lib.hid hS
  subst hv
  have HAT := Lib.hid hat
  have HGB := Lib.hid hgb
  have HFR := Lib.hid hfr
  have HOWN := Lib.hid hown
  have HSUM := Lib.hid hsum
  obtain ⟨n, hn⟩ : ∃ n, n = S.length := ⟨_, rfl⟩
  have HN := Lib.hid hn
  rw [← hn] at hlen ⊢
  simp only [Pr.val]
  rw [hk2]
  obtain ⟨pp, hpp⟩ : ∃ x, x = p.proc := ⟨_, rfl⟩
  obtain ⟨ps, hps⟩ : ∃ x, x = p.name := ⟨_, rfl⟩
  rw [← hpp, ← hps] at HINS ⊢
  obtain ⟨j0, hj0, hy0, hy1, hy2⟩ := info_parts infoTerm
  have hL2 : (L.length : Int) < 500 := by omega
  clear hsum hSL hS hown hat hgb hfr hn hk2 hpp hps
  go_enter Tryz.func50, Tryz.ntmps50
  go_upto_region 1 with fail
  refine boxed1 (w := w) (G := fun x => Code.wp _ _ _ _ x) ?_
  intro w1 hx1 hs1 ⟨l0, c0, f0, _⟩
  have hx11 : Ext w1 w1 := Ext.refl _
  clear hs1
  go_upto_block 0 with fail
  go_cut [5] (fun v5 wx => ∃ k : Nat, k ≤ n ∧ v5 = .int .i64 k ∧ Ext w1 wx ∧ (∀ j, j < k → kLt (trmAt S j).key (pp, ps)) ∧ (k < n → ¬ kLt (trmAt S k).key (pp, ps)))
  case first =>
    go_wp2_with fail
    go_loopg [5] n (fun gg v5 wr => ∃ k : Nat, k ≤ n ∧ gg = n - k ∧ v5 = .int .i64 k ∧ Ext w1 wr ∧ ∀ j, j < k → kLt (trmAt S j).key (pp, ps))
    case atStart => exact ⟨0, by omega, rfl, rfl, hx11, fun j hj => by omega⟩
    case round =>
      obtain ⟨k, hk, rfl, rfl, hxr, hall⟩ := hrel
      have HALL := Lib.hid hall
      clear hall
      have hxwr := hx1.trans hxr
      by_cases hlt : k < n
      · have hlt' : (k : Int) < (n : Int) := by omega
        have hk0 : (0 : Int) ≤ (k : Int) := by omega
        have hkl : k < S.length := by rw [← HN.out]; exact hlt
        obtain rfl := HAT.out.pa (by omega)
        have pb := HAT.out.pb (by omega)
        have p0 : ∀ w', Ext w w' → w'.cell? ⟨g, off + k * 3, none⟩ = _ := fun w' h => HAT.out.p0 w' h k hkl
        have p1 : ∀ w', Ext w w' → w'.cell? ⟨g, off + k * 3 + 1, none⟩ = _ := fun w' h => HAT.out.p1 w' h k hkl
        obtain ⟨tx, htx⟩ : ∃ x, x = (trmAt S k).1 := ⟨_, rfl⟩
        obtain ⟨ts, hts⟩ : ∃ x, x = (trmAt S k).2.1 := ⟨_, rfl⟩
        rw [← htx] at p0
        rw [← hts] at p1
        have HT := Lib.hid (And.intro htx hts)
        clear htx hts
        by_cases h1 : tx < pp
        · go_upto_region 3 with fail
          go_quiet (fail)
          go_wp2_with fail
          go_roundg (n - (k + 1))
          case rel => exact ⟨k + 1, by omega, rfl, by go_num, hxr.drewN _, fun j hj => by
            by_cases e : j = k
            · subst e; exact .inl (by show (trmAt S j).1 < pp; rw [← HT.out.1]; exact h1)
            · exact HALL.out j (by omega)⟩
          case measure => omega
        · have d1 : decide (tx < pp) = false := decide_eq_false h1
          have H1 := Lib.hid h1
          by_cases h2 : tx = pp
          · have d2 : (tx == pp) = true := by simp [h2]
            have H2 := Lib.hid h2
            clear h2
            cases h3 : Op.bytesLess ts.toList ps.toList with
            | true =>
              have H3 := Lib.hid h3
              go_upto_region 3 with fail
              go_quiet (fail)
              go_wp2_with fail
              go_roundg (n - (k + 1))
              case rel => exact ⟨k + 1, by omega, rfl, by go_num, hxr.drewN _, fun j hj => by
                by_cases e : j = k
                · subst e
                  refine .inr ⟨by show (trmAt S j).1 = pp; rw [← HT.out.1]; exact H2.out, ?_⟩
                  have h4 := H3.out
                  rw [Proofs.bytesLess_eq, Lib.toList_data, Lib.toList_data, HT.out.2] at h4
                  exact of_decide_eq_true h4
                · exact HALL.out j (by omega)⟩
              case measure => omega
            | false =>
              have H3 := Lib.hid h3
              go_upto_region 3 with fail
              go_quiet (fail)
              go_wp2_with fail
              go_meet
              case rel => exact ⟨k, hk, rfl, hxr.drewN _, HALL.out, fun _ h => by
                rcases h with h | ⟨_, h⟩
                · exact absurd (show tx < pp by rw [HT.out.1]; exact h) (by have := H1.out; omega)
                · have h4 := H3.out
                  rw [Proofs.bytesLess_eq, Lib.toList_data, Lib.toList_data, HT.out.2] at h4
                  exact of_decide_eq_false h4 h⟩
          · have d2 : (tx == pp) = false := by simp [h2]
            have H2 := Lib.hid h2
            go_upto_region 3 with fail
            go_quiet (fail)
            go_wp2_with fail
            go_meet
            case rel => exact ⟨k, hk, rfl, hxr.drewN _, HALL.out, fun _ h => by
              rcases h with h | ⟨h, _⟩
              · exact absurd (show tx < pp by rw [HT.out.1]; exact h) (by have := H1.out; omega)
              · exact H2.out (by rw [HT.out.1]; exact h)⟩
      · have hke : k = n := by omega
        have dk : decide ((k : Int) < (n : Int)) = false := decide_eq_false (by omega)
        go_upto_region 3 with fail
        go_quiet (fail)
        go_wp2_with fail
        go_meet
        case rel => exact ⟨k, hk, rfl, hxr.drewN _, HALL.out, fun h => absurd h hlt⟩
  case rest =>
    obtain ⟨k, hk, rfl, hxr, hall, hend⟩ := hcut
    have HALL := Lib.hid hall
    have HEND := Lib.hid hend
    clear hall hend
    have hxwr := hx1.trans hxr
    have HFIN := Lib.hid (insT_at (x := (pp, ps)) (S := S) (i := k) (by rw [← HN.out]; exact hk) (fun j hj h => by rw [← trmAt_eq hj]; exact HALL.out j h) (fun h => by rw [← trmAt_eq h]; exact HEND.out (by rw [HN.out]; exact h)))
    by_cases hlt : k < n
    · have hlt' : (k : Int) < (n : Int) := by omega
      have hk0 : (0 : Int) ≤ (k : Int) := by omega
      have hkl : k < S.length := by rw [← HN.out]; exact hlt
      have HKL := Lib.hid hkl
      obtain rfl := HAT.out.pa (by omega)
      have pb := HAT.out.pb (by omega)
      have p0 : ∀ w', Ext w w' → w'.cell? ⟨g, off + k * 3, none⟩ = _ := fun w' h => HAT.out.p0 w' h k hkl
      have p1 : ∀ w', Ext w w' → w'.cell? ⟨g, off + k * 3 + 1, none⟩ = _ := fun w' h => HAT.out.p1 w' h k hkl
      have p2 : ∀ w', Ext w w' → w'.cell? ⟨g, off + k * 3 + 2, none⟩ = _ := fun w' h => HAT.out.p2 w' h k hkl
      obtain ⟨⟨tx, ts, tc⟩, htx⟩ : ∃ t, t = trmAt S k := ⟨_, rfl⟩
      rw [← htx] at p0 p1 p2
      have HT := Lib.hid htx
      by_cases h2 : tx = pp
      · have d2 : (tx == pp) = true := by simp [h2]
        have H2 := Lib.hid h2
        by_cases h3 : ts = ps
        · have d3 : (ts.toList == ps.toList) = true := by rw [h3]; simp
          have H3 := Lib.hid h3
          obtain ⟨hs1, hs2⟩ := HSUM.out _ (show trmAt S k ∈ S from by rw [trmAt_eq hkl]; exact List.getElem_mem hkl)
          rw [← htx] at hs1 hs2
          dsimp only at hs1 hs2
          have qf : ∀ w', Ext w w' → w'.frozen? ⟨g, off + k * 3 + 2, none⟩ = false := fun w' h => by
            have h0 := HFR.out (k * 3 + 2) (by omega)
            rw [← Nat.add_assoc] at h0
            rw [h.frozen (by exact (HGB.out (by omega)).2)]; exact h0
          have HGL := Lib.hid (HGB.out (by omega))
          clear h2 h3 htx hkl
          go_upto_region 5 with fail
          go_quiet (fail)
          go_wp2_with fail
          go_ret
          have e3 : sortedT (L ++ [(pp, ps)]) = S.set k ((trmAt S k).1, (trmAt S k).2.1, tc + 1) := by
            have e4 : S[k]'HKL.out = (tx, ts, tc) := by rw [← trmAt_eq HKL.out]; exact HT.out.symm
            rw [HINS.out, HFIN.out, dif_pos HKL.out, e4, ← HT.out, if_pos (show Trm.key (tx, ts, tc) = (pp, ps) from Prod.ext H2.out H3.out)]
            show S.set k (pp, ps, tc + 1) = S.set k (tx, ts, tc + 1)
            rw [H2.out, H3.out]
          have hw0 := HS.out.hx.le
          have hgle : w0.heap.size ≤ g := HOWN.out.block g rfl
          have hown2 : TmOwn (wc.drewN nq) w0.heap.size (.slice (some ⟨g, off, none⟩) S.length cap) S := by
            exact HOWN.out.ext (hxwr.drewN nq)
          have hp := Que.putC hown2 (j := k * 3 + 2) (by have := HKL.out; omega) (.int .i64 (tc + 1))
          rw [← tmCells_set _ _ _ HKL.out, ← e3, ← Nat.add_assoc] at hp
          have hl9 : (sortedT (L ++ [(pp, ps)])).length = S.length := by rw [e3, List.length_set]
          refine ⟨_, rfl, ⟨(HS.out.hx.trans (hxwr.drewN nq)).setCell hgle _, ?_, fun g' hg' => ?_⟩, ⟨?_, fun k' h1 h2 => ⟨?_, h2⟩⟩⟩
          · unfold TmOwn
            rw [hl9, HN.out]; exact hp
          · cases hg'
            rw [World.size_setCell]
            exact Nat.lt_of_lt_of_le HGL.out.2 (hxwr.drewN nq).le
          · rw [World.size_setCell]; exact (hxwr.drewN nq).le
          · rw [Below.heap_setCell _ _ _ _ (fun e => h2 (by rw [show k' = g from e]; rfl))]
            exact (hxwr.drewN nq).block k' h1
        · have d3 : (ts.toList == ps.toList) = false := by
            rw [beq_eq_false_iff_ne]; rw [Lib.toList_data, Lib.toList_data]
            exact fun h => h3 (bytes_ext h)
          have HNE := Lib.hid (show ¬ (trmAt S k).key = (pp, ps) from by rw [← htx]; exact fun h => h3 (congrArg Prod.snd h))
          clear h2 h3 htx hkl
          go_upto_region 5 with fail
          go_quiet (fail)
          clear pb p0 p1 p2
          clear HALL HEND
          go_wp2_with fail
          go_loopg [6, 7] k (fun gg v6 v7 wr => ∃ i : Nat, i ≤ k ∧ gg = k - i ∧ v7 = .int .i64 i ∧ Ext w1 wr ∧ TmOwn wr w1.heap.size v6 (S.take i))
          case atStart => exact ⟨0, by omega, rfl, rfl, (by first | exact hxr.drewN _ | exact hxr), Que.nil _ _ _⟩
          case round =>
            obtain ⟨i, hi, rfl, rfl, hxr, hown6⟩ := hrel
            by_cases hik : i < k
            · have hik' : (i : Int) < (k : Int) := by omega
              have HLN := Lib.hid (show (S.take i).length = i from (by rw [List.length_take, ← HN.out]; omega))
              have hq6 : Que wr w1.heap.size 3 u6 i (tmCells (S.take i)) := by have h := hown6; unfold TmOwn at h; rwa [HLN.out] at h
              obtain ⟨a6, c6, rfl⟩ := hq6.slice
              have HQ6 := Lib.hid hq6
              clear hq6 hown6
              have hi' : (i : Int) < (n : Int) := by omega
              have hi0 : (0 : Int) ≤ (i : Int) := by omega
              have hil : i < S.length := by rw [← HN.out]; omega
              try (obtain rfl := HAT.out.pa (by omega))
              have pb := HAT.out.pb (by omega)
              have hx0r := hx1.trans hxr
              have p0 : ∀ w', Ext w w' → w'.cell? ⟨g, off + i * 3, none⟩ = _ := fun w' h => HAT.out.p0 w' h i hil
              have p1 : ∀ w', Ext w w' → w'.cell? ⟨g, off + i * 3 + 1, none⟩ = _ := fun w' h => HAT.out.p1 w' h i hil
              have p2 : ∀ w', Ext w w' → w'.cell? ⟨g, off + i * 3 + 2, none⟩ = _ := fun w' h => HAT.out.p2 w' h i hil
              obtain ⟨⟨tx, ts, tc⟩, ht⟩ : ∃ t, t = trmAt S i := ⟨_, rfl⟩
              rw [← ht] at p0 p1 p2
              have HTT := Lib.hid ht
              clear ht
              go_wp2_with (at_builtin; refine wpList_append_que _ rfl _ _ 44 44 rfl (base := w1.heap.size) (e := 49) (size := 3) j0 (.agg #[.int .i64 0, .string ⟨#[]⟩, .int .i64 0]) 32 Tryz.underlying44 hj0 hy0 hy1 hy2 rfl rfl (v := .slice a6 i c6) (n := i) (xs := tmCells (S.take i)) (by exact HQ6.out.ext (Ext.alloc _ _)) (by rw [World.size_alloc]; have := hxr.le; omega) _ 1 [.int .i64 tx, .string ts, .int .i64 tc] rfl (by exact Src.ofSlice _ Tryz.underlying44 ⟨wr.heap.size, 0, none⟩ 1 1 _ rfl (news_okT wr _ _) (by intro u hu; simp at hu; rcases hu with rfl | rfl | rfl <;> rfl)) (by unfold maxLen; omega) (by omega) ?_; rintro v8 w8 hq8 hg8 -; obtain ⟨a8, cp8, rfl⟩ := hq8.slice; have H8 := Lib.hid (copyAt hxr HLN.out HQ6.out hq8 hg8); clear hq8 hg8)
              go_roundg (k - (i + 1))
              case rel => exact ⟨i + 1, by omega, rfl, by go_num, H8.out.1, by rw [take_snocT (by rw [← HN.out]; omega), ← HTT.out]; exact H8.out.2⟩
              case measure => omega
            · obtain rfl : i = k := by omega
              have HLN := Lib.hid (show (S.take i).length = i from (by rw [List.length_take, ← HN.out]; omega))
              have hq6 : Que wr w1.heap.size 3 u6 i (tmCells (S.take i)) := by have h := hown6; unfold TmOwn at h; rwa [HLN.out] at h
              obtain ⟨a6, c6, rfl⟩ := hq6.slice
              have HQ6 := Lib.hid hq6
              clear hq6 hown6
              have hx0r := hx1.trans hxr
              go_wp2_with (at_builtin; refine wpList_append_que _ rfl _ _ 44 44 rfl (base := w1.heap.size) (e := 49) (size := 3) j0 (.agg #[.int .i64 0, .string ⟨#[]⟩, .int .i64 0]) 32 Tryz.underlying44 hj0 hy0 hy1 hy2 rfl rfl (v := .slice a6 i c6) (n := i) (xs := tmCells (S.take i)) (by exact HQ6.out.ext (Ext.alloc _ _)) (by rw [World.size_alloc]; have := hxr.le; omega) _ 1 [.int .i64 pp, .string ps, .int .i64 1] rfl (by exact Src.ofSlice _ Tryz.underlying44 ⟨wr.heap.size, 0, none⟩ 1 1 _ rfl (news_okT wr _ _) (by intro u hu; simp at hu; rcases hu with rfl | rfl | rfl <;> rfl)) (by unfold maxLen; omega) (by omega) ?_; rintro v8 w8 hq8 hg8 -; obtain ⟨a8, cp8, rfl⟩ := hq8.slice; have H8 := Lib.hid (copyAt hxr HLN.out HQ6.out hq8 hg8); clear hq8 hg8)
              go_wp2_with fail
              go_loopg [6, 8] (n - i) (fun gg v6 v8 wr => ∃ j : Nat, i ≤ j ∧ j ≤ n ∧ gg = n - j ∧ v8 = .int .i64 j ∧ Ext w1 wr ∧ TmOwn wr w1.heap.size v6 (insTo S i (pp, ps, 1) j))
              case atStart => exact ⟨i, by omega, by omega, rfl, rfl, H8.out.1, by rw [insTo_start]; exact H8.out.2⟩
              case round =>
                obtain ⟨j, hij, hj, rfl, rfl, hxr, hown6⟩ := hrel
                by_cases hjn : j < n
                · skip
                  have HLN := Lib.hid (show (insTo S i (pp, ps, 1) j).length = (j+1) from (insTo_len hij (by rw [← HN.out]; omega)))
                  have hq6 : Que wr w1.heap.size 3 u6 (j+1) (tmCells (insTo S i (pp, ps, 1) j)) := by have h := hown6; unfold TmOwn at h; rwa [HLN.out] at h
                  obtain ⟨a6, c6, rfl⟩ := hq6.slice
                  have HQ6 := Lib.hid hq6
                  clear hq6 hown6
                  have hj' : (j : Int) < (n : Int) := by omega
                  have hj0' : (0 : Int) ≤ (j : Int) := by omega
                  have hjl : j < S.length := by rw [← HN.out]; omega
                  try (obtain rfl := HAT.out.pa (by omega))
                  have pb := HAT.out.pb (by omega)
                  have hx0r := hx1.trans hxr
                  have p0 : ∀ w', Ext w w' → w'.cell? ⟨g, off + j * 3, none⟩ = _ := fun w' h => HAT.out.p0 w' h j hjl
                  have p1 : ∀ w', Ext w w' → w'.cell? ⟨g, off + j * 3 + 1, none⟩ = _ := fun w' h => HAT.out.p1 w' h j hjl
                  have p2 : ∀ w', Ext w w' → w'.cell? ⟨g, off + j * 3 + 2, none⟩ = _ := fun w' h => HAT.out.p2 w' h j hjl
                  obtain ⟨⟨tx, ts, tc⟩, ht⟩ : ∃ t, t = trmAt S j := ⟨_, rfl⟩
                  rw [← ht] at p0 p1 p2
                  have HTT := Lib.hid ht
                  clear ht
                  go_wp2_with (at_builtin; refine wpList_append_que _ rfl _ _ 44 44 rfl (base := w1.heap.size) (e := 49) (size := 3) j0 (.agg #[.int .i64 0, .string ⟨#[]⟩, .int .i64 0]) 32 Tryz.underlying44 hj0 hy0 hy1 hy2 rfl rfl (v := .slice a6 (j+1) c6) (n := (j+1)) (xs := tmCells (insTo S i (pp, ps, 1) j)) (by exact HQ6.out.ext (Ext.alloc _ _)) (by rw [World.size_alloc]; have := hxr.le; omega) _ 1 [.int .i64 tx, .string ts, .int .i64 tc] rfl (by exact Src.ofSlice _ Tryz.underlying44 ⟨wr.heap.size, 0, none⟩ 1 1 _ rfl (news_okT wr _ _) (by intro u hu; simp at hu; rcases hu with rfl | rfl | rfl <;> rfl)) (by unfold maxLen; omega) (by omega) ?_; rintro v8 w8 hq8 hg8 -; obtain ⟨a8, cp8, rfl⟩ := hq8.slice; have H8 := Lib.hid (copyAt hxr HLN.out HQ6.out hq8 hg8); clear hq8 hg8)
                  go_roundg (n - (j + 1))
                  case rel => exact ⟨j + 1, by omega, by omega, rfl, by go_num, H8.out.1, by rw [insTo_succ hij (by rw [← HN.out]; omega), ← HTT.out]; exact H8.out.2⟩
                  case measure => omega
                · obtain rfl : j = n := by omega
                  have HLN := Lib.hid (show (insTo S i (pp, ps, 1) j).length = (j+1) from (insTo_len hij (by rw [← HN.out]; omega)))
                  have hq6 : Que wr w1.heap.size 3 u6 (j+1) (tmCells (insTo S i (pp, ps, 1) j)) := by have h := hown6; unfold TmOwn at h; rwa [HLN.out] at h
                  obtain ⟨a6, c6, rfl⟩ := hq6.slice
                  have HQ6 := Lib.hid hq6
                  clear hq6 hown6
                  have HF := Lib.hid (show sortedT (L ++ [(pp, ps)]) = insTo S i (pp, ps, 1) j from by
                    rw [HINS.out, HFIN.out, HN.out, insTo_end]
                    by_cases h : i < S.length
                    · rw [dif_pos h]
                      rw [if_neg (by rw [← trmAt_eq h]; exact HNE.out)]
                    · rw [dif_neg h, List.take_of_length_le (by omega), List.drop_eq_nil_of_le (by omega)])
                  have HHX := Lib.hid HS.out.hx
                  have HOK := Lib.hid (HQ6.out)
                  have hle := HHX.out.le
                  go_wp2_with fail
                  go_ret
                  have hxw := hx1.trans hxr
                  have hl9 : (sortedT (L ++ [(pp, ps)])).length = j + 1 := by rw [HF.out]; exact HLN.out
                  have ho9 : TmOwn wr w0.heap.size (.slice a6 (j + 1) c6) (sortedT (L ++ [(pp, ps)])) := by
                    unfold TmOwn
                    rw [hl9, HF.out]; exact HOK.out.mono (by have := hx1.le; omega)
                  refine ⟨_, rfl, ⟨HHX.out.trans hxw, ho9, fun g hg => ?_⟩, hxw.colNew _ _ fun g hg => Nat.le_trans hx1.le (HOK.out.block g hg)⟩
                  rcases HOK.out.val with ⟨ao, hv, hn, _⟩ | ⟨g', off', cap', hv, _, hlt, _⟩
                  · omega
                  · rw [hv] at hg; cases hg; exact hlt
      · have d2 : (tx == pp) = false := by simp [h2]
        have HNE := Lib.hid (show ¬ (trmAt S k).key = (pp, ps) from by rw [← htx]; exact fun h => h2 (congrArg Prod.fst h))
        clear h2 htx hkl
        go_upto_region 5 with fail
        go_quiet (fail)
        clear pb p0 p1 p2
        clear HALL HEND
        go_wp2_with fail
        go_loopg [6, 7] k (fun gg v6 v7 wr => ∃ i : Nat, i ≤ k ∧ gg = k - i ∧ v7 = .int .i64 i ∧ Ext w1 wr ∧ TmOwn wr w1.heap.size v6 (S.take i))
        case atStart => exact ⟨0, by omega, rfl, rfl, (by first | exact hxr.drewN _ | exact hxr), Que.nil _ _ _⟩
        case round =>
          obtain ⟨i, hi, rfl, rfl, hxr, hown6⟩ := hrel
          by_cases hik : i < k
          · have hik' : (i : Int) < (k : Int) := by omega
            have HLN := Lib.hid (show (S.take i).length = i from (by rw [List.length_take, ← HN.out]; omega))
            have hq6 : Que wr w1.heap.size 3 u6 i (tmCells (S.take i)) := by have h := hown6; unfold TmOwn at h; rwa [HLN.out] at h
            obtain ⟨a6, c6, rfl⟩ := hq6.slice
            have HQ6 := Lib.hid hq6
            clear hq6 hown6
            have hi' : (i : Int) < (n : Int) := by omega
            have hi0 : (0 : Int) ≤ (i : Int) := by omega
            have hil : i < S.length := by rw [← HN.out]; omega
            try (obtain rfl := HAT.out.pa (by omega))
            have pb := HAT.out.pb (by omega)
            have hx0r := hx1.trans hxr
            have p0 : ∀ w', Ext w w' → w'.cell? ⟨g, off + i * 3, none⟩ = _ := fun w' h => HAT.out.p0 w' h i hil
            have p1 : ∀ w', Ext w w' → w'.cell? ⟨g, off + i * 3 + 1, none⟩ = _ := fun w' h => HAT.out.p1 w' h i hil
            have p2 : ∀ w', Ext w w' → w'.cell? ⟨g, off + i * 3 + 2, none⟩ = _ := fun w' h => HAT.out.p2 w' h i hil
            obtain ⟨⟨tx, ts, tc⟩, ht⟩ : ∃ t, t = trmAt S i := ⟨_, rfl⟩
            rw [← ht] at p0 p1 p2
            have HTT := Lib.hid ht
            clear ht
            go_wp2_with (at_builtin; refine wpList_append_que _ rfl _ _ 44 44 rfl (base := w1.heap.size) (e := 49) (size := 3) j0 (.agg #[.int .i64 0, .string ⟨#[]⟩, .int .i64 0]) 32 Tryz.underlying44 hj0 hy0 hy1 hy2 rfl rfl (v := .slice a6 i c6) (n := i) (xs := tmCells (S.take i)) (by exact HQ6.out.ext (Ext.alloc _ _)) (by rw [World.size_alloc]; have := hxr.le; omega) _ 1 [.int .i64 tx, .string ts, .int .i64 tc] rfl (by exact Src.ofSlice _ Tryz.underlying44 ⟨wr.heap.size, 0, none⟩ 1 1 _ rfl (news_okT wr _ _) (by intro u hu; simp at hu; rcases hu with rfl | rfl | rfl <;> rfl)) (by unfold maxLen; omega) (by omega) ?_; rintro v8 w8 hq8 hg8 -; obtain ⟨a8, cp8, rfl⟩ := hq8.slice; have H8 := Lib.hid (copyAt hxr HLN.out HQ6.out hq8 hg8); clear hq8 hg8)
            go_roundg (k - (i + 1))
            case rel => exact ⟨i + 1, by omega, rfl, by go_num, H8.out.1, by rw [take_snocT (by rw [← HN.out]; omega), ← HTT.out]; exact H8.out.2⟩
            case measure => omega
          · obtain rfl : i = k := by omega
            have HLN := Lib.hid (show (S.take i).length = i from (by rw [List.length_take, ← HN.out]; omega))
            have hq6 : Que wr w1.heap.size 3 u6 i (tmCells (S.take i)) := by have h := hown6; unfold TmOwn at h; rwa [HLN.out] at h
            obtain ⟨a6, c6, rfl⟩ := hq6.slice
            have HQ6 := Lib.hid hq6
            clear hq6 hown6
            have hx0r := hx1.trans hxr
            go_wp2_with (at_builtin; refine wpList_append_que _ rfl _ _ 44 44 rfl (base := w1.heap.size) (e := 49) (size := 3) j0 (.agg #[.int .i64 0, .string ⟨#[]⟩, .int .i64 0]) 32 Tryz.underlying44 hj0 hy0 hy1 hy2 rfl rfl (v := .slice a6 i c6) (n := i) (xs := tmCells (S.take i)) (by exact HQ6.out.ext (Ext.alloc _ _)) (by rw [World.size_alloc]; have := hxr.le; omega) _ 1 [.int .i64 pp, .string ps, .int .i64 1] rfl (by exact Src.ofSlice _ Tryz.underlying44 ⟨wr.heap.size, 0, none⟩ 1 1 _ rfl (news_okT wr _ _) (by intro u hu; simp at hu; rcases hu with rfl | rfl | rfl <;> rfl)) (by unfold maxLen; omega) (by omega) ?_; rintro v8 w8 hq8 hg8 -; obtain ⟨a8, cp8, rfl⟩ := hq8.slice; have H8 := Lib.hid (copyAt hxr HLN.out HQ6.out hq8 hg8); clear hq8 hg8)
            go_wp2_with fail
            go_loopg [6, 8] (n - i) (fun gg v6 v8 wr => ∃ j : Nat, i ≤ j ∧ j ≤ n ∧ gg = n - j ∧ v8 = .int .i64 j ∧ Ext w1 wr ∧ TmOwn wr w1.heap.size v6 (insTo S i (pp, ps, 1) j))
            case atStart => exact ⟨i, by omega, by omega, rfl, rfl, H8.out.1, by rw [insTo_start]; exact H8.out.2⟩
            case round =>
              obtain ⟨j, hij, hj, rfl, rfl, hxr, hown6⟩ := hrel
              by_cases hjn : j < n
              · skip
                have HLN := Lib.hid (show (insTo S i (pp, ps, 1) j).length = (j+1) from (insTo_len hij (by rw [← HN.out]; omega)))
                have hq6 : Que wr w1.heap.size 3 u6 (j+1) (tmCells (insTo S i (pp, ps, 1) j)) := by have h := hown6; unfold TmOwn at h; rwa [HLN.out] at h
                obtain ⟨a6, c6, rfl⟩ := hq6.slice
                have HQ6 := Lib.hid hq6
                clear hq6 hown6
                have hj' : (j : Int) < (n : Int) := by omega
                have hj0' : (0 : Int) ≤ (j : Int) := by omega
                have hjl : j < S.length := by rw [← HN.out]; omega
                try (obtain rfl := HAT.out.pa (by omega))
                have pb := HAT.out.pb (by omega)
                have hx0r := hx1.trans hxr
                have p0 : ∀ w', Ext w w' → w'.cell? ⟨g, off + j * 3, none⟩ = _ := fun w' h => HAT.out.p0 w' h j hjl
                have p1 : ∀ w', Ext w w' → w'.cell? ⟨g, off + j * 3 + 1, none⟩ = _ := fun w' h => HAT.out.p1 w' h j hjl
                have p2 : ∀ w', Ext w w' → w'.cell? ⟨g, off + j * 3 + 2, none⟩ = _ := fun w' h => HAT.out.p2 w' h j hjl
                obtain ⟨⟨tx, ts, tc⟩, ht⟩ : ∃ t, t = trmAt S j := ⟨_, rfl⟩
                rw [← ht] at p0 p1 p2
                have HTT := Lib.hid ht
                clear ht
                go_wp2_with (at_builtin; refine wpList_append_que _ rfl _ _ 44 44 rfl (base := w1.heap.size) (e := 49) (size := 3) j0 (.agg #[.int .i64 0, .string ⟨#[]⟩, .int .i64 0]) 32 Tryz.underlying44 hj0 hy0 hy1 hy2 rfl rfl (v := .slice a6 (j+1) c6) (n := (j+1)) (xs := tmCells (insTo S i (pp, ps, 1) j)) (by exact HQ6.out.ext (Ext.alloc _ _)) (by rw [World.size_alloc]; have := hxr.le; omega) _ 1 [.int .i64 tx, .string ts, .int .i64 tc] rfl (by exact Src.ofSlice _ Tryz.underlying44 ⟨wr.heap.size, 0, none⟩ 1 1 _ rfl (news_okT wr _ _) (by intro u hu; simp at hu; rcases hu with rfl | rfl | rfl <;> rfl)) (by unfold maxLen; omega) (by omega) ?_; rintro v8 w8 hq8 hg8 -; obtain ⟨a8, cp8, rfl⟩ := hq8.slice; have H8 := Lib.hid (copyAt hxr HLN.out HQ6.out hq8 hg8); clear hq8 hg8)
                go_roundg (n - (j + 1))
                case rel => exact ⟨j + 1, by omega, by omega, rfl, by go_num, H8.out.1, by rw [insTo_succ hij (by rw [← HN.out]; omega), ← HTT.out]; exact H8.out.2⟩
                case measure => omega
              · obtain rfl : j = n := by omega
                have HLN := Lib.hid (show (insTo S i (pp, ps, 1) j).length = (j+1) from (insTo_len hij (by rw [← HN.out]; omega)))
                have hq6 : Que wr w1.heap.size 3 u6 (j+1) (tmCells (insTo S i (pp, ps, 1) j)) := by have h := hown6; unfold TmOwn at h; rwa [HLN.out] at h
                obtain ⟨a6, c6, rfl⟩ := hq6.slice
                have HQ6 := Lib.hid hq6
                clear hq6 hown6
                have HF := Lib.hid (show sortedT (L ++ [(pp, ps)]) = insTo S i (pp, ps, 1) j from by
                  rw [HINS.out, HFIN.out, HN.out, insTo_end]
                  by_cases h : i < S.length
                  · rw [dif_pos h]
                    rw [if_neg (by rw [← trmAt_eq h]; exact HNE.out)]
                  · rw [dif_neg h, List.take_of_length_le (by omega), List.drop_eq_nil_of_le (by omega)])
                have HHX := Lib.hid HS.out.hx
                have HOK := Lib.hid (HQ6.out)
                have hle := HHX.out.le
                go_wp2_with fail
                go_ret
                have hxw := hx1.trans hxr
                have hl9 : (sortedT (L ++ [(pp, ps)])).length = j + 1 := by rw [HF.out]; exact HLN.out
                have ho9 : TmOwn wr w0.heap.size (.slice a6 (j + 1) c6) (sortedT (L ++ [(pp, ps)])) := by
                  unfold TmOwn
                  rw [hl9, HF.out]; exact HOK.out.mono (by have := hx1.le; omega)
                refine ⟨_, rfl, ⟨HHX.out.trans hxw, ho9, fun g hg => ?_⟩, hxw.colNew _ _ fun g hg => Nat.le_trans hx1.le (HOK.out.block g hg)⟩
                rcases HOK.out.val with ⟨ao, hv, hn, _⟩ | ⟨g', off', cap', hv, _, hlt, _⟩
                · omega
                · rw [hv] at hg; cases hg; exact hlt
    · have dk : decide ((k : Int) < (n : Int)) = false := decide_eq_false (by omega)
      go_upto_region 5 with fail
      go_quiet (fail)
      clear HALL HEND
      go_wp2_with fail
      go_loopg [6, 7] k (fun gg v6 v7 wr => ∃ i : Nat, i ≤ k ∧ gg = k - i ∧ v7 = .int .i64 i ∧ Ext w1 wr ∧ TmOwn wr w1.heap.size v6 (S.take i))
      case atStart => exact ⟨0, by omega, rfl, rfl, (by first | exact hxr.drewN _ | exact hxr), Que.nil _ _ _⟩
      case round =>
        obtain ⟨i, hi, rfl, rfl, hxr, hown6⟩ := hrel
        by_cases hik : i < k
        · have hik' : (i : Int) < (k : Int) := by omega
          have HLN := Lib.hid (show (S.take i).length = i from (by rw [List.length_take, ← HN.out]; omega))
          have hq6 : Que wr w1.heap.size 3 u6 i (tmCells (S.take i)) := by have h := hown6; unfold TmOwn at h; rwa [HLN.out] at h
          obtain ⟨a6, c6, rfl⟩ := hq6.slice
          have HQ6 := Lib.hid hq6
          clear hq6 hown6
          have hi' : (i : Int) < (n : Int) := by omega
          have hi0 : (0 : Int) ≤ (i : Int) := by omega
          have hil : i < S.length := by rw [← HN.out]; omega
          try (obtain rfl := HAT.out.pa (by omega))
          have pb := HAT.out.pb (by omega)
          have hx0r := hx1.trans hxr
          have p0 : ∀ w', Ext w w' → w'.cell? ⟨g, off + i * 3, none⟩ = _ := fun w' h => HAT.out.p0 w' h i hil
          have p1 : ∀ w', Ext w w' → w'.cell? ⟨g, off + i * 3 + 1, none⟩ = _ := fun w' h => HAT.out.p1 w' h i hil
          have p2 : ∀ w', Ext w w' → w'.cell? ⟨g, off + i * 3 + 2, none⟩ = _ := fun w' h => HAT.out.p2 w' h i hil
          obtain ⟨⟨tx, ts, tc⟩, ht⟩ : ∃ t, t = trmAt S i := ⟨_, rfl⟩
          rw [← ht] at p0 p1 p2
          have HTT := Lib.hid ht
          clear ht
          go_wp2_with (at_builtin; refine wpList_append_que _ rfl _ _ 44 44 rfl (base := w1.heap.size) (e := 49) (size := 3) j0 (.agg #[.int .i64 0, .string ⟨#[]⟩, .int .i64 0]) 32 Tryz.underlying44 hj0 hy0 hy1 hy2 rfl rfl (v := .slice a6 i c6) (n := i) (xs := tmCells (S.take i)) (by exact HQ6.out.ext (Ext.alloc _ _)) (by rw [World.size_alloc]; have := hxr.le; omega) _ 1 [.int .i64 tx, .string ts, .int .i64 tc] rfl (by exact Src.ofSlice _ Tryz.underlying44 ⟨wr.heap.size, 0, none⟩ 1 1 _ rfl (news_okT wr _ _) (by intro u hu; simp at hu; rcases hu with rfl | rfl | rfl <;> rfl)) (by unfold maxLen; omega) (by omega) ?_; rintro v8 w8 hq8 hg8 -; obtain ⟨a8, cp8, rfl⟩ := hq8.slice; have H8 := Lib.hid (copyAt hxr HLN.out HQ6.out hq8 hg8); clear hq8 hg8)
          go_roundg (k - (i + 1))
          case rel => exact ⟨i + 1, by omega, rfl, by go_num, H8.out.1, by rw [take_snocT (by rw [← HN.out]; omega), ← HTT.out]; exact H8.out.2⟩
          case measure => omega
        · obtain rfl : i = k := by omega
          have HLN := Lib.hid (show (S.take i).length = i from (by rw [List.length_take, ← HN.out]; omega))
          have hq6 : Que wr w1.heap.size 3 u6 i (tmCells (S.take i)) := by have h := hown6; unfold TmOwn at h; rwa [HLN.out] at h
          obtain ⟨a6, c6, rfl⟩ := hq6.slice
          have HQ6 := Lib.hid hq6
          clear hq6 hown6
          have hx0r := hx1.trans hxr
          go_wp2_with (at_builtin; refine wpList_append_que _ rfl _ _ 44 44 rfl (base := w1.heap.size) (e := 49) (size := 3) j0 (.agg #[.int .i64 0, .string ⟨#[]⟩, .int .i64 0]) 32 Tryz.underlying44 hj0 hy0 hy1 hy2 rfl rfl (v := .slice a6 i c6) (n := i) (xs := tmCells (S.take i)) (by exact HQ6.out.ext (Ext.alloc _ _)) (by rw [World.size_alloc]; have := hxr.le; omega) _ 1 [.int .i64 pp, .string ps, .int .i64 1] rfl (by exact Src.ofSlice _ Tryz.underlying44 ⟨wr.heap.size, 0, none⟩ 1 1 _ rfl (news_okT wr _ _) (by intro u hu; simp at hu; rcases hu with rfl | rfl | rfl <;> rfl)) (by unfold maxLen; omega) (by omega) ?_; rintro v8 w8 hq8 hg8 -; obtain ⟨a8, cp8, rfl⟩ := hq8.slice; have H8 := Lib.hid (copyAt hxr HLN.out HQ6.out hq8 hg8); clear hq8 hg8)
          go_wp2_with fail
          go_loopg [6, 8] (n - i) (fun gg v6 v8 wr => ∃ j : Nat, i ≤ j ∧ j ≤ n ∧ gg = n - j ∧ v8 = .int .i64 j ∧ Ext w1 wr ∧ TmOwn wr w1.heap.size v6 (insTo S i (pp, ps, 1) j))
          case atStart => exact ⟨i, by omega, by omega, rfl, rfl, H8.out.1, by rw [insTo_start]; exact H8.out.2⟩
          case round =>
            obtain ⟨j, hij, hj, rfl, rfl, hxr, hown6⟩ := hrel
            by_cases hjn : j < n
            · skip
              exfalso
              omega
            · obtain rfl : j = n := by omega
              have HLN := Lib.hid (show (insTo S i (pp, ps, 1) j).length = (j+1) from (insTo_len hij (by rw [← HN.out]; omega)))
              have hq6 : Que wr w1.heap.size 3 u6 (j+1) (tmCells (insTo S i (pp, ps, 1) j)) := by have h := hown6; unfold TmOwn at h; rwa [HLN.out] at h
              obtain ⟨a6, c6, rfl⟩ := hq6.slice
              have HQ6 := Lib.hid hq6
              clear hq6 hown6
              have HF := Lib.hid (show sortedT (L ++ [(pp, ps)]) = insTo S i (pp, ps, 1) j from by
                rw [HINS.out, HFIN.out, HN.out, insTo_end]
                by_cases h : i < S.length
                · rw [dif_pos h]
                  exact absurd h (by rw [← HN.out]; omega)
                · rw [dif_neg h, List.take_of_length_le (by omega), List.drop_eq_nil_of_le (by omega)])
              have HHX := Lib.hid HS.out.hx
              have HOK := Lib.hid (HQ6.out)
              have hle := HHX.out.le
              go_wp2_with fail
              go_ret
              have hxw := hx1.trans hxr
              have hl9 : (sortedT (L ++ [(pp, ps)])).length = j + 1 := by rw [HF.out]; exact HLN.out
              have ho9 : TmOwn wr w0.heap.size (.slice a6 (j + 1) c6) (sortedT (L ++ [(pp, ps)])) := by
                unfold TmOwn
                rw [hl9, HF.out]; exact HOK.out.mono (by have := hx1.le; omega)
              refine ⟨_, rfl, ⟨HHX.out.trans hxw, ho9, fun g hg => ?_⟩, hxw.colNew _ _ fun g hg => Nat.le_trans hx1.le (HOK.out.block g hg)⟩
              rcases HOK.out.val with ⟨ao, hv, hn, _⟩ | ⟨g', off', cap', hv, _, hlt, _⟩
              · omega
              · rw [hv] at hg; cases hg; exact hlt

end Go.Proofs.YtdplphoohnnbcaaGreatDoor

namespace Go.Proofs.YtdplphoohnnbcaaGreatDoor
open Go.RowKit Go.Shelf

theorem foldK_len {L : List VK} {p : Pr} : ∀ i, (foldK (fun i => (p.kid i).foldP stepTm) i L).length ≤ L.length + Pr.sum (fun i => (p.kid i).cnt) i :=
  fun i => foldK_m (m := List.length) (f := fun i => (p.kid i).foldP stepTm) (g := fun i => (p.kid i).cnt) (fun i s => foldP_m stepTm_len (p.kid i) s) i L
set_option maxRecDepth 100000 in
set_option maxHeartbeats 2000000 in
theorem collect_any (w0 : World) : ∀ p : Pr, p.All Pr.NodeOk → p.At w0 → ∀ (L : List VK) (v : Value) (w : World), ColS w0 v L w → L.length + p.cnt ≤ 500 →
    Calls Tryz.prog 50 #[v, p.val] w (ColPost w0 v (p.foldP stepTm L) w) := by
  intro p
  induction p using Pr.ind with
  | h p ih =>
    intro hn hp L v w hS hL
    rw [Pr.foldP_eq]
    have hcnt := Pr.cnt_eq p
    by_cases hk : p.kind = 2
    · have hlen : (p.len : Int) = partsI p.kind := hn.here.2.2.1
      have h0 : p.len = 0 := by rw [hk, show partsI 2 = 0 from by decide] at hlen; omega
      rw [h0]
      have e : stepTm p L = L ++ [(p.proc, p.name)] := if_pos hk
      show Calls _ _ _ w (ColPost w0 v (stepTm p L) w)
      rw [e]
      exact collectV_any w0 p hk L v w hS (by omega)
    · have e : stepTm p L = L := if_neg hk
      rw [e]
      have d2 : (p.kind == 2) = false := by simp [hk]
      have HIH := Lib.hid (fun i hi L v W h1 h2 => ih i hi (hn.kid hi) (hp.kid hi) L v W h1 h2)
      have HP := Lib.hid hp.here
      have HS := Lib.hid hS
      have HSUM := Lib.hid (show ∀ i, i < p.len → (foldK (fun i => (p.kid i).foldP stepTm) i L).length + (p.kid i).cnt ≤ 500 from fun i hi => by
        have h1 := foldK_len (L := L) (p := p) i
        have h2 := Pr.sum_mono (f := fun i => (p.kid i).cnt) (k := i + 1) (n := p.len) hi
        have h3 : Pr.sum (fun i => (p.kid i).cnt) (i + 1) = Pr.sum (fun i => (p.kid i).cnt) i + (p.kid i).cnt := rfl
        omega)
      obtain ⟨pa, hpa⟩ : ∃ a, a = p.a := ⟨_, rfl⟩
      have hpn := hp.here.hn
      simp only [Pr.val]
      rw [← hpa]
      have HPA := Lib.hid hpa
      clear ih hn hp hS hL hcnt hk e hpa
      go_enter Tryz.func50, Tryz.ntmps50
      go_upto_region 1 with fail
      refine boxed1 (w := w) (G := fun x => Code.wp _ _ _ _ x) ?_
      intro w1 hx1 hs1 ⟨l0, c0, f0, k0⟩
      have hx11 : Ext w1 w1 := Ext.refl _
      have HK0 := Lib.hid (show Hold w1 w.heap.size #[.int .i64 p.kind, .int .i64 p.num, .int .i64 p.proc, .int .i64 p.peer, .string p.name, .slice pa p.len p.cap] from k0)
      have HS1 := Lib.hid (HS.out.ext hx1)
      have HV1 := Lib.hid (show v.ownBlock ≠ some w.heap.size from fun e => by have := HS.out.lt _ e; omega)
      clear hs1 k0
      go_wp2_with fail
      go_loopg [0, 9] p.len (fun gg v0 v9 wr => ∃ i : Nat, i ≤ p.len ∧ gg = p.len - i ∧ v9 = .int .i64 i ∧ ColS w0 v0 (foldK (fun i => (p.kid i).foldP stepTm) i L) wr ∧ ColR v v0 w1 wr)
      case atStart => exact ⟨0, by omega, rfl, rfl, HS1.out, ColR.refl _ _⟩
      case round =>
        obtain ⟨i, hi, rfl, rfl, hcs, hcr⟩ := hrel
        have HCS := Lib.hid hcs
        have HCR := Lib.hid hcr
        have hx0r := hcs.hx
        have HBR := Lib.hid (Hold.colR HK0.out hcr HV1.out)
        have HVR := Lib.hid (hcr.at_ w.heap.size HK0.out.lt HV1.out).2
        have hxrr : Ext wr wr := Ext.refl _
        clear hcs hcr l0 c0 f0
        by_cases hlt : i < p.len
        · have hlt' : (i : Int) < (p.len : Int) := by omega
          obtain rfl : pa = some ⟨p.b, p.off, none⟩ := by rw [HPA.out]; exact HP.out.ha (by omega)
          obtain ⟨lb, cb, fb, _⟩ := HBR.out.box
          have kb : ∀ w', Ext w0 w' → p.b < w'.heap.size := HP.out.hb (by omega)
          have k0 := fun w' (h : Ext w0 w') => HP.out.c0 w' h i hlt
          have k1 := fun w' (h : Ext w0 w') => HP.out.c1 w' h i hlt
          have k2 := fun w' (h : Ext w0 w') => HP.out.c2 w' h i hlt
          have k3 := fun w' (h : Ext w0 w') => HP.out.c3 w' h i hlt
          have k4 := fun w' (h : Ext w0 w') => HP.out.c4 w' h i hlt
          have k5 := fun w' (h : Ext w0 w') => HP.out.c5 w' h i hlt
          have hc := HIH.out i hlt _ _ wr HCS.out (HSUM.out i hlt)
          simp only [Pr.val] at hc
          have HC := Lib.hid hc
          clear hc
          go_wp2_with fail
          go_at_call 50
          refine HC.out.mono ?_
          rintro e w2 ⟨v2, rfl, hs2, hr2⟩
          have H2 := Lib.hid (And.intro hs2 hr2)
          clear hs2 hr2 k0 k1 k2 k3 k4 k5 kb lb cb fb HC
          go_wp2_with fail
          go_roundg (p.len - (i + 1))
          case rel => exact ⟨i + 1, by omega, rfl, by go_num, H2.out.1, HCR.out.trans H2.out.2⟩
          case measure => omega
        · have hie : i = p.len := by omega
          subst hie
          obtain ⟨lb, cb, fb, _⟩ := HBR.out.box
          have HX1 := Lib.hid hx1
          go_wp2_with fail
          go_ret
          exact ⟨_, rfl, HCS.out, (HX1.out.colR v).trans HCR.out⟩
set_option maxRecDepth 100000 in
set_option maxHeartbeats 1000000 in
theorem rVars_any (w : World) (p : Pr) (hn : p.All Pr.NodeOk) (hp : p.At w) (hc : p.cnt ≤ 500) :
    Calls Tryz.prog 19 #[p.val] w fun e w' => ∃ v, e = .returned v ∧ Ext w w' ∧ TmOwn w' w.heap.size v (sortedT (p.foldP stepTm [])) := by
  have hC := fun W (h : Ext w W) => collect_any W p hn (hp.ext h) [] (.slice none 0 0) W ⟨Ext.refl _, Que.nil _ _ _, (fun g hg => by cases hg)⟩ (by simp; exact hc)
  simp only [Pr.val] at hC ⊢
  have HC := Lib.hid hC
  clear hC hn hp hc
  go_enter Tryz.func19, Tryz.ntmps19
  go_upto_region 1 with fail
  refine boxed1 (w := w) (G := fun x => Code.wp _ _ _ _ x) ?_
  intro w1 hx1 hs1 ⟨l0, c0, f0, _⟩
  have hx11 : Ext w1 w1 := Ext.refl _
  clear hs1
  go_wp2_with fail
  go_at_call 50
  refine (HC.out _ hx1).mono ?_
  rintro e w2 ⟨v2, rfl, hs2, hr2⟩
  have H2 := Lib.hid (And.intro hs2 hr2)
  clear hs2 hr2
  go_wp2_with fail
  go_ret
  exact ⟨_, rfl, hx1.trans H2.out.1.hx, H2.out.1.own.mono hx1.le⟩

end Go.Proofs.YtdplphoohnnbcaaGreatDoor
