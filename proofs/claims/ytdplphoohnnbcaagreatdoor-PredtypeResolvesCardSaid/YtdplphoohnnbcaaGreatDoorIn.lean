/- antecederef12.acyclic: plain part. Contract of antecederef14: Fits. Contract of antecederef12: acyclic. -/
import Derived.Test.YtdplphoohnnbcaaGreatDoorIm
import Derived.Test.YtdplphoohnnbcaaGreatDoorIk
import Derived.Test.YtdplphoohnnbcaaGreatDoorHg
import Derived.Deep.LoopGhost
import Derived.Deep.RegionHeld3
namespace Go.Proofs.YtdplphoohnnbcaaGreatDoor

/-- the next event of p can be taken -/
def Tr.ReadyC (T : Tr) (c : Nat → Nat) (p : Nat) : Prop := c p < T.en p ∧ (T.kind p (c p) = 3 → (T.sndN (p, c p)).2 < c (T.sndN (p, c p)).1)
/-- so many events of each process are taken; each behind those before it -/
structure Tr.AcI (T : Tr) (c : Nat → Nat) : Prop where
  le : ∀ p, p < T.n → c p ≤ T.en p
  rk : ∃ r : NN → Nat, (∀ p i, p < T.n → i < c p → r (p, i) < tot c T.n) ∧ ∀ p i, p < T.n → i < c p → ∀ y, T.Dir y (p, i) → y.2 < c y.1 ∧ r y < r (p, i)
theorem tot_zero (n : Nat) : tot (fun _ => 0) n = 0 := by
  induction n with
  | zero => rfl
  | succ n ih => rw [tot, ih]
theorem Tr.AcI.start (T : Tr) : T.AcI (fun _ => 0) := ⟨fun _ _ => Nat.zero_le _, fun _ => 0, fun _ _ _ h => absurd h (Nat.not_lt_zero _), fun _ _ _ h => absurd h (Nat.not_lt_zero _)⟩
theorem tot_upd {c : Nat → Nat} {p n : Nat} (hp : p < n) : tot (updC c p (c p + 1)) n = tot c n + 1 :=
  tot_add (d := 1) hp (fun k hk => by unfold updC; rw [if_neg hk]) (by unfold updC; rw [if_pos rfl])
theorem Tr.AcI.step {T : Tr} {c : Nat → Nat} {p : Nat} (h : T.AcI c) (hp : p < T.n) (hr : T.ReadyC c p) : T.AcI (updC c p (c p + 1)) := by
  obtain ⟨r, r1, r2⟩ := h.rk
  have hge : ∀ k, c k ≤ updC c p (c p + 1) k := fun k => by
    unfold updC
    by_cases e : k = p
    · rw [if_pos e, e]; omega
    · rw [if_neg e]; omega
  refine ⟨fun q hq => ?_, fun y => if y = (p, c p) then tot c T.n else r y, fun q i hq hi => ?_, fun q i hq hi y hy => ?_⟩
  · unfold updC
    by_cases e : q = p
    · rw [if_pos e, e]; exact hr.1
    · rw [if_neg e]; exact h.le q hq
  · rw [tot_upd hp]
    dsimp only
    by_cases e : (q, i) = (p, c p)
    · rw [if_pos e]; omega
    · rw [if_neg e]
      have : i < c q := by
        unfold updC at hi
        by_cases e2 : q = p
        · rw [if_pos e2] at hi
          have : i ≠ c p := fun h3 => e (by rw [e2, h3])
          rw [e2]; omega
        · rw [if_neg e2] at hi; exact hi
      have := r1 q i hq this; omega
  · by_cases e : (q, i) = (p, c p)
    · have e1 : q = p := congrArg Prod.fst e
      have e2 : i = c p := congrArg Prod.snd e
      subst e1 e2
      have hyc : y.2 < c y.1 ∧ y ≠ (q, c q) := by
        rcases hy with ⟨h1, h2⟩ | ⟨h1, h2⟩
        · have h1 : q = y.1 := h1
          have h2 : c q = y.2 + 1 := h2
          rw [← h1]
          exact ⟨by omega, fun e3 => by have : y.2 = c q := congrArg Prod.snd e3; omega⟩
        · have := hr.2 h1
          rw [← h2] at this
          exact ⟨this, fun e3 => by have h5 : y.1 = q := congrArg Prod.fst e3; have h6 : y.2 = c q := congrArg Prod.snd e3; rw [h5, h6] at this; omega⟩
      refine ⟨Nat.lt_of_lt_of_le hyc.1 (hge _), ?_⟩
      dsimp only
      rw [if_pos rfl, if_neg hyc.2]
      by_cases hyn : y.1 < T.n
      · exact r1 y.1 y.2 hyn hyc.1
      · exfalso
        have hV : T.V y := Tr.Dir.V (y := (q, c q)) ⟨hq, hr.1⟩ hy
        exact hyn hV.1
    · have hold : i < c q := by
        unfold updC at hi
        by_cases e2 : q = p
        · rw [if_pos e2] at hi
          have : i ≠ c p := fun h3 => e (by rw [e2, h3])
          rw [e2]; omega
        · rw [if_neg e2] at hi; exact hi
      obtain ⟨h1, h2⟩ := r2 q i hq hold y hy
      refine ⟨Nat.lt_of_lt_of_le h1 (hge _), ?_⟩
      dsimp only
      rw [if_neg e]
      have hne : y ≠ (p, c p) := fun e3 => by
        have h5 : y.1 = p := congrArg Prod.fst e3
        have h6 : y.2 = c p := congrArg Prod.snd e3
        rw [h5, h6] at h1; omega
      rw [if_neg hne]; exact h2
theorem Tr.AcI.acy {T : Tr} {c : Nat → Nat} (h : T.AcI c) (hP : T.Pre) (hc : ∀ p, p < T.n → c p = T.en p) : T.Acy := by
  obtain ⟨r, r1, r2⟩ := h.rk
  rintro ⟨x, hp⟩
  have := path_rank (V := T.V) r (fun a b ha hb => by
    obtain ⟨hd, hv⟩ := hP.succ_dir ha hb
    exact ⟨hv, (r2 b.1 b.2 hv.1 (by rw [hc _ hv.1]; exact hv.2) a hd).2⟩) x.2 hp
  exact absurd this.2 (Nat.lt_irrefl _)
theorem Tr.AcI.full {T : Tr} {c : Nat → Nat} (hP : T.Pre) (hA : T.Acy) (h : T.AcI c) (hn : ∀ p, p < T.n → ¬ T.ReadyC c p) : ∀ p, p < T.n → c p = T.en p := by
  have hV : T.Valid := Tr.valid_iff.2 ⟨hP, hA⟩
  have key := hV.ind (P := fun y => y.2 < c y.1) (fun y hy ih => by
    refine Classical.byContradiction fun hny => ?_
    have hle := h.le y.1 hy.1
    by_cases he : y.2 = c y.1
    · refine hn y.1 hy.1 ⟨by rw [← he]; exact hy.2, fun h3 => ?_⟩
      have hd : T.Dir (T.sndN y) y := .inr ⟨by rw [← he] at h3; exact h3, rfl⟩
      have := ih _ (Tr.Dir.V hy hd) hd
      rw [← he]; exact this
    · have hd : T.Dir (y.1, y.2 - 1) y := .inl ⟨rfl, by show y.2 = y.2 - 1 + 1; omega⟩
      have : y.2 - 1 < c y.1 := ih _ (Tr.Dir.V hy hd) hd
      omega)
  intro p hp
  refine Classical.byContradiction fun hne => ?_
  have hle := h.le p hp
  have := key (p, c p) ⟨hp, by show c p < T.en p; omega⟩
  exact absurd this (Nat.lt_irrefl _)

end Go.Proofs.YtdplphoohnnbcaaGreatDoor

namespace Go.Proofs.YtdplphoohnnbcaaGreatDoor
open Go.RowKit Go.Shelf

/-- a number for each event -/
def Tr.FitsM (T : Tr) (M : Mx) : Prop := M.n = T.n ∧ ∀ k, k < T.n → M.rn k = T.en k
theorem BoolPost.no {p : Prop} {w w' : World} (h : ¬ p) (x : Ext w w') : BoolPost p w (.returned (.bool false)) w' := ⟨false, rfl, ⟨(fun h => by cases h), fun h' => absurd h' h⟩, x⟩
theorem BoolPost.yes {p : Prop} {w w' : World} (h : p) (x : Ext w w') : BoolPost p w (.returned (.bool true)) w' := ⟨true, rfl, ⟨fun _ => h, fun _ => rfl⟩, x⟩

end Go.Proofs.YtdplphoohnnbcaaGreatDoor

namespace Go.Proofs.YtdplphoohnnbcaaGreatDoor
open Go.RowKit Go.Shelf

/-- the counts in memory -/
structure AcW (T : TM) (w : World) (c : Nat → Nat) (wr : World) : Prop where
  h0 : Hold wr w.heap.size #[.slice (some ⟨T.b, T.off, none⟩) T.n T.cap]
  cn : CRow wr (w.heap.size + 1) T.n c
  bl : Ext w wr
  pl : T.toTr.AcI c
theorem AcW.ext {T : TM} {w wr w' : World} {c : Nat → Nat} (h : AcW T w c wr) (x : Ext wr w') : AcW T w c w' := ⟨h.h0.ext x, h.cn.ext x, h.bl.trans x, h.pl⟩
theorem AcW.set {T : TM} {w wr : World} {c : Nat → Nat} {p : Nat} (h : AcW T w c wr) (hp : p < T.n) (hr : T.toTr.ReadyC c p) : AcW T w (updC c p (c p + 1)) (wr.setCell ⟨w.heap.size + 1, p, none⟩ (.int .i64 (c p + 1 : Nat))) :=
  ⟨h.h0.other _ _ (by show _ ≠ w.heap.size + 1; omega), h.cn.set p _ hp, h.bl.setCell (by show _ ≤ w.heap.size + 1; omega) _, h.pl.step hp hr⟩
def Tr.leftC (T : Tr) (c : Nat → Nat) : Nat := tot T.en T.n - tot c T.n
theorem AcW.less {T : TM} {w wr : World} {c : Nat → Nat} {p : Nat} (h : AcW T w c wr) (hp : p < T.n) (hr : T.toTr.ReadyC c p) : T.toTr.leftC (updC c p (c p + 1)) < T.toTr.leftC c := by
  have h2 := tot_le (n := T.n) (h.pl.step hp hr).le
  have h3 := tot_upd (c := c) (p := p) (n := T.n) hp
  unfold Tr.leftC; rw [h3] at h2 ⊢
  have h2 : tot c T.n + 1 ≤ tot T.en T.n := h2
  show tot T.en T.n - _ < tot T.en T.n - _
  omega
theorem boxed1r {w : World} {c : Array Value} {t : TypeId} {G : World → Prop}
    (h : ∀ w2, Ext w w2 → w2.heap.size = w.heap.size + 1 → Box w2 w.heap.size c → G w2) : G (w.alloc (.cells c t)).drew :=
  h _ (Ext.alloc _ _).drew (by simp) ((Box.of (t := t) (by show (w.heap.push _)[w.heap.size]? = _; simp) : Box (w.alloc (.cells c t)) w.heap.size c).ext (Ext.refl _).drew)
set_option maxRecDepth 100000 in
set_option maxHeartbeats 4000000 in
theorem racyclic_any (w : World) (T : TM) (hT : T.At w) (hP : T.toTr.Pre) :
    Calls Tryz.prog 105 #[T.val] w (BoolPost T.toTr.Acy w) := by
  obtain ⟨j0, hj0, hy0, hy1, hy2⟩ := info_parts infoInt
  have hn1 := hP.n1
  have hn8 := hP.n8
  have hE8 : ∀ k, k < T.n → T.en k ≤ 64 := fun k hk => (hP.pr k hk).2.2.2.2
  have pa := hT.P.pa (by omega)
  have pb := hT.P.pb (by omega)
  have p2 := hT.P.p2
  have hFd := fun kd m W (h : Ext w W) => rfind_any W T (hT.ext h) (by omega) kd m
  simp only [TM.val, pa] at hFd
  have HFd := Lib.hid hFd
  have HT := Lib.hid hT
  have HP := Lib.hid hP
  clear hT hP hFd
  go_enter Tryz.func105, Tryz.ntmps105
  go_upto_region 1 with fail
  refine boxed1 (w := w) (G := fun x => Code.wp _ _ _ _ x) ?_
  intro w1 hx1 hs1 ⟨l0, c0, _, k0⟩
  have hx11 : Ext w1 w1 := Ext.refl _
  go_upto_region 2 with (at_make; refine wpList_make_full _ rfl _ _ 112 rfl w1.heap.size 3 j0 (.int .i64 0) 1 Tryz.underlying112 hj0 hy0 hy1 .i64 .i64 _ _ T.n rfl rfl rfl rfl (by rw [hy2]; omega) (by unfold maxLen; omega) (Nat.le_refl _) ?_; intro w3 hown3 hg3)
  have hx3 : Ext w1 w3 := (Below.refl _ _).grown hg3 (Nat.le_refl _) (by simp)
  rw [hs1] at hown3
  have HI0 := Lib.hid (AcW.mk (T := T) (w := w) (c := fun _ => 0) (wr := w3) (Hold.ext k0 hx3) (CRow.made hown3) (hx1.trans hx3) (Tr.AcI.start T.toTr))
  clear hown3 hg3 k0 hs1 l0 c0 hx11 hx3 hx1
  go_wp2_with fail
  go_loopg [4] (T.toTr.leftC (fun _ => 0) + 1) (fun gg v wr => ∃ c : Nat → Nat, T.toTr.leftC c < gg ∧ AcW T w c wr)
  case atStart => exact ⟨_, Nat.lt_succ_self _, HI0.out⟩
  case round =>
    obtain ⟨c, hgg, hI⟩ := hrel
    have HGG := Lib.hid hgg
    have HI := Lib.hid hI
    clear hgg hI
    go_wp2_with fail
    go_loopg [4, 5] T.n (fun gg v4 v5 wi => ∃ (c2 : Nat → Nat) (p : Nat) (mv : Bool), v4 = .bool mv ∧ v5 = .int .i64 p ∧ p ≤ T.n ∧ gg = T.n - p ∧ AcW T w c2 wi ∧ T.toTr.leftC c2 ≤ T.toTr.leftC c ∧ (mv = true → T.toTr.leftC c2 < T.toTr.leftC c) ∧ (mv = false → ∀ q, q < p → ¬ T.toTr.ReadyC c2 q))
    case atStart => exact ⟨c, 0, false, rfl, rfl, by omega, rfl, HI.out, Nat.le_refl _, (fun h => by cases h), fun _ q hq => by omega⟩
    case round =>
      obtain ⟨c2, p, mv, rfl, rfl, hp, rfl, hI, hm0, hm1, hm2⟩ := hrel
      have HI2 := Lib.hid hI
      have HM := Lib.hid (And.intro hm0 (And.intro hm1 hm2))
      obtain ⟨l0, c0, _, _⟩ := hI.h0.box
      have hxr := hI.bl
      have hrr : Ext wr wr := Ext.refl _
      clear hI hm0 hm1 hm2
      by_cases hpn : p < T.n
      · have hpn' : (p : Int) < (T.n : Int) := by omega
        have hen := hE8 p hpn
        go_wp2_with fail
        go_loopg [4] (T.en p - c2 p) (fun gg v4 wx => ∃ (c3 : Nat → Nat) (mv : Bool), v4 = .bool mv ∧ gg = T.en p - c3 p ∧ AcW T w c3 wx ∧ T.toTr.leftC c3 ≤ T.toTr.leftC c ∧ (mv = true → T.toTr.leftC c3 < T.toTr.leftC c) ∧ (mv = false → ∀ q, q < p → ¬ T.toTr.ReadyC c3 q))
        case atStart => exact ⟨c2, mv, rfl, rfl, HI2.out, HM.out.1, HM.out.2.1, HM.out.2.2⟩
        case round =>
          obtain ⟨c3, mv, rfl, rfl, hI, hm0, hm1, hm2⟩ := hrel
          have HI3 := Lib.hid hI
          have HM3 := Lib.hid (And.intro hm0 (And.intro hm1 hm2))
          obtain ⟨l0, c0, _, _⟩ := hI.h0.box
          have hxr := hI.bl
          have hrr : Ext wr wr := Ext.refl _
          have hle := hI.pl.le p hpn
          have hcn : ∀ w', Ext wr w' → w'.cell? ⟨w.heap.size + 1, p, none⟩ = some (.int .i64 (c3 p)) := fun w' h => h.cell (hI.cn.c p hpn)
          have hcl : ∀ w', Ext wr w' → w.heap.size + 1 < w'.heap.size := fun w' h => Nat.lt_of_lt_of_le hI.cn.lt h.le
          clear hI hm0 hm1 hm2
          by_cases hlt : c3 p < T.en p
          · have dl : decide ((c3 p : Int) < (T.en p : Int)) = true := decide_eq_true (by omega)
            have dl' : decide (c3 p < T.en p) = true := decide_eq_true hlt
            have hlt' : (c3 p : Int) < (T.en p : Int) := by omega
            go_upto_region 6 with fail
            go_quiet (fail)
            go_upto_region 7 with fail
            refine drewd (w := wr) (G := fun x => Code.wp _ _ _ _ x) ?_
            intro w4 hx4
            have hx44 : Ext w4 w4 := Ext.refl _
            have hxw4 := hxr.trans hx4
            have ea := HT.out.E.ea p hpn (by omega)
            have eb := HT.out.E.eb p hpn (by omega)
            have e0 : ∀ w', Ext w4 w' → w'.cell? ⟨T.eb p, T.eo p + c3 p * 5, none⟩ = some (.int .i64 (T.kind p (c3 p))) := fun w' h => HT.out.E.e0 w' (hxw4.trans h) p (c3 p) hpn hlt
            have e1 : ∀ w', Ext w4 w' → w'.cell? ⟨T.eb p, T.eo p + c3 p * 5 + 1, none⟩ = some (.int .i64 (T.peer p (c3 p))) := fun w' h => HT.out.E.e1 w' (hxw4.trans h) p (c3 p) hpn hlt
            have e2 : ∀ w', Ext w4 w' → w'.cell? ⟨T.eb p, T.eo p + c3 p * 5 + 2, none⟩ = some (.int .i64 (T.msg p (c3 p))) := fun w' h => HT.out.E.e2 w' (hxw4.trans h) p (c3 p) hpn hlt
            have e3 : ∀ w', Ext w4 w' → w'.cell? ⟨T.eb p, T.eo p + c3 p * 5 + 3, none⟩ = some (.int .i64 (T.time p (c3 p))) := fun w' h => HT.out.E.e3 w' (hxw4.trans h) p (c3 p) hpn hlt
            have e4 : ∀ w', Ext w4 w' → w'.cell? ⟨T.eb p, T.eo p + c3 p * 5 + 4, none⟩ = some (.slice (T.aa p (c3 p)) (T.an p (c3 p)) (T.ac p (c3 p))) := fun w' h => HT.out.E.e4 w' (hxw4.trans h) p (c3 p) hpn hlt
            have p24 : ∀ w', Ext w4 w' → w'.cell? ⟨T.b, T.off + p * 3 + 2, none⟩ = some (.slice (T.ea p) (T.en p) (T.ec p)) := fun w' h => HT.out.P.p2 w' (hxw4.trans h) p hpn
            have cn4 : ∀ w', Ext w4 w' → w'.cell? ⟨w.heap.size + 1, p, none⟩ = some (.int .i64 (c3 p)) := fun w' h => hcn w' (hx4.trans h)
            have c04 : ∀ w', Ext w4 w' → w'.cell? ⟨w.heap.size, 0, none⟩ = some (.slice (some ⟨T.b, T.off, none⟩) T.n T.cap) := fun w' h => c0 w' (hx4.trans h) 0
            clear c0 hcn p2 dl dl'
            go_region_held3 (fun w' => Ext w4 w') (first | exact (Ext.refl w4).drew | exact ((Ext.refl w4).alloc' _).drew) (first | fail)
            simp only [Exit.then]
            go_upto_region 8 with fail
            refine boxed1r (w := w4) (G := fun x => Code.wp _ _ _ _ x) ?_
            intro w5 hx5 hs5 ⟨l5, c5, _, _⟩
            have hx55 : Ext w5 w5 := Ext.refl _
            have hxr5 := hx4.trans hx5
            have hxw5 := hxw4.trans hx5
            clear e0 e1 e2 e3 e4 p24 cn4 c04 eb ea hs5
            generalize w4.heap.size = xb at l5 c5 ⊢
            obtain ⟨l0, c0, _, _⟩ := (HI3.out.ext hxr5).h0.box
            by_cases hk3 : T.kind p (c3 p) = 3
            · have k1 : (T.kind p (c3 p) == 3) = true := by simpa using hk3
              have hsV : T.toTr.V (T.toTr.sndN (p, c3 p)) := T.toTr.sndN_V (y := (p, c3 p)) ⟨hpn, hlt⟩
              have hFd2 := HFd.out 2 (T.msg p (c3 p)) w5 hxw5
              rw [HP.out.first_snd ⟨(p, c3 p), hpn, hlt⟩ hk3, ← T.toTr.sndN_eq ⟨(p, c3 p), hpn, hlt⟩] at hFd2
              obtain ⟨⟨sk, si⟩, hss⟩ : ∃ s, s = T.toTr.sndN (p, c3 p) := ⟨_, rfl⟩
              rw [← hss] at hFd2 hsV
              have HSS := Lib.hid hss
              have HK3 := Lib.hid hk3
              have hsk : sk < T.n := hsV.1
              have hsi : si < T.en sk := hsV.2
              have hes := hE8 sk hsk
              simp only [evV] at hFd2
              clear hk3 hss hsV
              go_upto_region 10 with (go_at_call 137; refine hFd2.mono ?_; rintro e w6 ⟨rfl, hx6⟩)
              refine boxed1 (w := w6) (G := fun x => Code.wp _ _ _ _ x) ?_
              intro w7 hx7 hs7 ⟨l7, c7, _, _⟩
              have hx77 : Ext w7 w7 := Ext.refl _
              have hxr7 := hxr5.trans (hx6.trans hx7)
              have hxw7 := hxw5.trans (hx6.trans hx7)
              have cn7 : ∀ w', Ext w7 w' → w'.cell? ⟨w.heap.size + 1, sk, none⟩ = some (.int .i64 (c3 sk)) := fun w' h => h.cell ((HI3.out.ext hxr7).cn.c sk hsk)
              have cl7 : ∀ w', Ext w7 w' → w.heap.size + 1 < w'.heap.size := fun w' h => Nat.lt_of_lt_of_le (HI3.out.ext hxr7).cn.lt h.le
              have hsk' : (sk : Int) < (T.n : Int) := by omega
              clear hs7 hFd2
              generalize w6.heap.size = yb at l7 c7 ⊢
              by_cases hw8 : c3 sk < si + 1
              · have b1 : decide ((c3 sk : Int) < (si : Int) + 1) = true := decide_eq_true (by omega)
                have HNR := Lib.hid (show ¬ T.toTr.ReadyC c3 p from fun h => by have := h.2 HK3.out; rw [← HSS.out] at this; exact absurd this (by show ¬ si < c3 sk; omega))
                go_quiet (fail)
                go_wp2_with fail
                go_roundg (T.n - (p + 1))
                case rel => exact ⟨c3, p + 1, mv, rfl, by go_num, by omega, rfl, (HI3.out.ext hxr7).ext (hx77.drewN _), HM3.out.1, HM3.out.2.1, fun h q hq => by
                  rcases Nat.lt_or_ge q p with h' | h'
                  · exact HM3.out.2.2 h q h'
                  · obtain rfl : q = p := by omega
                    exact HNR.out⟩
                case measure => omega
              · have b1 : decide ((c3 sk : Int) < (si : Int) + 1) = false := decide_eq_false (by omega)
                have HRD := Lib.hid (show T.toTr.ReadyC c3 p from ⟨hlt, fun _ => by rw [← HSS.out]; show si < c3 sk; omega⟩)
                go_quiet (fail)
                go_upto_region 11 with fail
                refine drewd (w := w7) (G := fun x => Code.wp _ _ _ _ x) ?_
                intro w8 hx8
                have hxr8 := hxr7.trans hx8
                clear cn7 cl7 b1
                have hII := HI3.out.ext hxr8
                have cnW : ∀ w', Ext w8 w' → w'.cell? ⟨w.heap.size + 1, p, none⟩ = some (.int .i64 (c3 p)) := fun w' h => h.cell (hII.cn.c p hpn)
                have clW : ∀ w', Ext w8 w' → w.heap.size + 1 < w'.heap.size := fun w' h => Nat.lt_of_lt_of_le hII.cn.lt h.le
                have cfW := hII.cn.fr
                have hWW : Ext w8 w8 := Ext.refl _
                have HII := Lib.hid hII
                clear hII
                go_wp2_with fail
                go_roundg (T.en p - (c3 p + 1))
                case rel => exact ⟨updC c3 p (c3 p + 1), true, rfl, by unfold updC; rw [if_pos rfl], by have := HII.out.set hpn HRD.out; rw [Int.natCast_add] at this; exact this, Nat.le_trans (Nat.le_of_lt (HII.out.less hpn HRD.out)) HM3.out.1, (fun _ => Nat.lt_of_lt_of_le (HII.out.less hpn HRD.out) HM3.out.1), (fun h => by cases h)⟩
                case measure => omega
            · have k1 : (T.kind p (c3 p) == 3) = false := by simpa using hk3
              have HRD := Lib.hid (show T.toTr.ReadyC c3 p from ⟨hlt, fun h => absurd h hk3⟩)
              clear hk3
              have hII := HI3.out.ext hxr5
              have cnW : ∀ w', Ext w5 w' → w'.cell? ⟨w.heap.size + 1, p, none⟩ = some (.int .i64 (c3 p)) := fun w' h => h.cell (hII.cn.c p hpn)
              have clW : ∀ w', Ext w5 w' → w.heap.size + 1 < w'.heap.size := fun w' h => Nat.lt_of_lt_of_le hII.cn.lt h.le
              have cfW := hII.cn.fr
              have hWW : Ext w5 w5 := Ext.refl _
              have HII := Lib.hid hII
              clear hII
              go_wp2_with fail
              go_roundg (T.en p - (c3 p + 1))
              case rel => exact ⟨updC c3 p (c3 p + 1), true, rfl, by unfold updC; rw [if_pos rfl], by have := HII.out.set hpn HRD.out; rw [Int.natCast_add] at this; exact this, Nat.le_trans (Nat.le_of_lt (HII.out.less hpn HRD.out)) HM3.out.1, (fun _ => Nat.lt_of_lt_of_le (HII.out.less hpn HRD.out) HM3.out.1), (fun h => by cases h)⟩
              case measure => omega
          · have dl : decide ((c3 p : Int) < (T.en p : Int)) = false := decide_eq_false (by omega)
            have dl' : decide (c3 p < T.en p) = false := decide_eq_false hlt
            have HNR := Lib.hid (show ¬ T.toTr.ReadyC c3 p from fun h => hlt h.1)
            go_upto_region 6 with fail
            go_quiet (fail)
            go_wp2_with fail
            go_roundg (T.n - (p + 1))
            case rel => exact ⟨c3, p + 1, mv, rfl, by go_num, by omega, rfl, (HI3.out.ext hrr).ext (hrr.drewN _), HM3.out.1, HM3.out.2.1, fun h q hq => by
              rcases Nat.lt_or_ge q p with h' | h'
              · exact HM3.out.2.2 h q h'
              · obtain rfl : q = p := by omega
                exact HNR.out⟩
            case measure => omega
      · have hpn' : ¬ (p : Int) < (T.n : Int) := by omega
        cases mv with
        | true =>
          go_wp2_with fail
          go_roundg (T.toTr.leftC c)
          case rel => exact ⟨c2, (by have := HM.out.2.1; simpa using this), HI2.out⟩
          case measure => exact HGG.out
        | false =>
          have HNO := Lib.hid (show ∀ q, q < T.n → ¬ T.toTr.ReadyC c2 q from fun q hq => HM.out.2.2 rfl q (by omega))
          go_wp2_with fail
          clear hpn'
          go_loopg [8] T.n (fun gg v8 wx => ∃ k : Nat, k ≤ T.n ∧ gg = T.n - k ∧ v8 = .int .i64 k ∧ Ext wr wx ∧ ∀ j, j < k → ¬ c2 j < T.en j)
          case atStart => exact ⟨0, by omega, rfl, rfl, hrr, fun j hj => by omega⟩
          case round =>
            obtain ⟨k, hk, rfl, rfl, hxx, hok⟩ := hrel
            have HOK := Lib.hid hok
            clear hok
            have hI4 := HI2.out.ext hxx
            have hx4 := hI4.bl
            obtain ⟨l0, c0, _, _⟩ := hI4.h0.box
            have h44 : Ext wr wr := Ext.refl _
            have cn4 : k < T.n → ∀ w', Ext wr w' → w'.cell? ⟨w.heap.size + 1, k, none⟩ = some (.int .i64 (c2 k)) := fun hk w' h => h.cell (hI4.cn.c k hk)
            have cl4 : ∀ w', Ext wr w' → w.heap.size + 1 < w'.heap.size := fun w' h => Nat.lt_of_lt_of_le hI4.cn.lt h.le
            clear hI4
            by_cases hlk : k < T.n
            · have hlk' : (k : Int) < (T.n : Int) := by omega
              have cn5 := cn4 hlk
              have p2k : ∀ w', Ext w w' → w'.cell? ⟨T.b, T.off + k * 3 + 2, none⟩ = some (.slice (T.ea k) (T.en k) (T.ec k)) := fun w' h => p2 w' h k hlk
              clear cn4
              by_cases hce : c2 k < T.en k
              · have b1 : decide ((c2 k : Int) < (T.en k : Int)) = true := decide_eq_true (by omega)
                have b2 : decide (c2 k < T.en k) = true := decide_eq_true hce
                have HCE := Lib.hid hce
                clear hce
                go_upto_region 17 with fail
                go_quiet (fail)
                go_wp2_with fail
                go_ret
                exact BoolPost.no (fun hA => by have := HI2.out.pl.full HP.out hA HNO.out k hlk; have := HCE.out; omega) (hx4.drewN _)
              · have b1 : decide ((c2 k : Int) < (T.en k : Int)) = false := decide_eq_false (by omega)
                have b2 : decide (c2 k < T.en k) = false := decide_eq_false hce
                have HCE := Lib.hid hce
                clear hce
                go_upto_region 17 with fail
                go_quiet (fail)
                go_wp2_with fail
                go_roundg (T.n - (k + 1))
                case rel => exact ⟨k + 1, by omega, rfl, by go_num, hxx.drewN _, fun j hj => by
                  by_cases e : j = k
                  · subst e; exact HCE.out
                  · exact HOK.out j (by omega)⟩
                case measure => omega
            · have hke : k = T.n := by omega
              subst hke
              clear cn4
              go_wp2_with fail
              go_ret
              exact BoolPost.yes (HI2.out.pl.acy HP.out fun q hq => by have := HOK.out q hq; have := HI2.out.pl.le q hq; omega) hx4

end Go.Proofs.YtdplphoohnnbcaaGreatDoor
