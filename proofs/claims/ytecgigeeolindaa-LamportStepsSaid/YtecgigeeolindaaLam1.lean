/- Contracts: lamport.Step, lamport.sent. -/
import Derived.Test.YtecgigeeolindaaMat
namespace Go.Proofs.Ytecgigeeolindaa
open Go.RowKit Go.Shelf

/-- what Step returns -/
def stepV (clock got : Int) : Value := if min clock got < 0 ∨ 1125899906842624 ≤ max clock got then .tuple #[.int .i64 0, .int .i64 2] else .tuple #[.int .i64 (max clock got + 1), .int .i64 0]
theorem stepV_bad {clock got : Int} (h : clock < 0 ∨ got < 0 ∨ 1125899906842624 ≤ clock ∨ 1125899906842624 ≤ got) : stepV clock got = .tuple #[.int .i64 0, .int .i64 2] := by
  unfold stepV; rw [if_pos (by omega)]
theorem stepV_ok {clock got n : Int} (h1 : 0 ≤ clock) (h2 : 0 ≤ got) (h3 : clock < 1125899906842624) (h4 : got < 1125899906842624) (hn : n = max clock got + 1) : stepV clock got = .tuple #[.int .i64 n, .int .i64 0] := by
  unfold stepV; rw [if_neg (by omega), hn]
set_option maxHeartbeats 1000000 in
theorem step_any (clock got : Int) (w : World) :
    Calls Try.prog 10 #[.int .i64 clock, .int .i64 got] w fun e w' => e = .returned (stepV clock got) ∧ w = w' := by
  by_cases h1 : clock < 0
  · rw [stepV_bad (.inl h1)]
    go_enter Try.func10, Try.ntmps10
    go_wp2
    all_goals go_ret2
    all_goals first | exact ⟨rfl, rfl⟩ | (exfalso; omega)
  · by_cases h2 : got < 0
    · rw [stepV_bad (.inr (.inl h2))]
      go_enter Try.func10, Try.ntmps10
      go_wp2
      all_goals go_ret2
      all_goals first | exact ⟨rfl, rfl⟩ | (exfalso; omega)
    · by_cases h3 : 1125899906842624 ≤ clock ∨ 1125899906842624 ≤ got
      · rw [stepV_bad (.inr (.inr h3))]
        go_enter Try.func10, Try.ntmps10
        go_wp2
        all_goals go_ret2
        all_goals first | exact ⟨rfl, rfl⟩ | (exfalso; omega)
      · have h4 : clock < 1125899906842624 := by omega
        have h5 : got < 1125899906842624 := by omega
        clear h3
        go_enter Try.func10, Try.ntmps10
        go_wp2
        all_goals go_ret2
        all_goals first | exact ⟨ret_eq (stepV_ok (by omega) (by omega) h4 h5 (by omega)).symm, rfl⟩ | (exfalso; omega)
/-- what sent returns -/
def sentV (M : Mx) (s : NN) : Value := if M.rn s.1 ≤ s.2 then .tuple #[.int .i64 0, .bool false] else .tuple #[.int .i64 (M.val s.1 s.2), .bool true]
set_option maxRecDepth 100000 in
set_option maxHeartbeats 1000000 in
theorem sent_any (w : World) (T : TM) (hT : T.At w) (hV : T.toTr.Valid) (M : MM) (hM : M.At w) (hMn : M.n = T.n) (x : T.toTr.Id) (hx : T.kind x.1.1 x.1.2 = 3) :
    Calls Try.prog 46 #[T.val, T.ev x.1.1 x.1.2, .slice M.a M.n M.cap] w fun e w' => e = .returned (sentV M.toMx (T.toTr.snd x).1) ∧ Ext w w' := by
  obtain ⟨s, hs⟩ : ∃ s, s = T.toTr.snd x := ⟨_, rfl⟩
  rw [← hs]
  have HS := Lib.hid hs
  clear hs
  obtain ⟨⟨sk, si⟩, hsk, hsi⟩ := s
  dsimp only at hsk hsi
  have hskM : sk < M.n := by omega
  have hsk' : (sk : Int) < (M.n : Int) := by omega
  have pa := hM.pa (by omega)
  have pb := hM.pb (by omega)
  have p0 := hM.p0
  have r0 := hM.r0
  have hsn := hT.E.he sk hsk
  have HT := Lib.hid hT
  have HV := Lib.hid hV
  clear hT hV hMn
  go_enter Try.func46, Try.ntmps46
  go_upto_region 1 with fail
  refine boxed2 (w := w) (G := fun x => Code.wp _ _ _ _ x) ?_
  intro w1 hx1 hs1 ⟨l0, c0, _, _⟩ ⟨l1, c1, _, _⟩
  have hx11 : Ext w1 w1 := Ext.refl _
  clear hs1
  have hS : Calls Try.prog 39 #[T.val, .int .i64 (T.msg x.1.1 x.1.2)] w1 fun e w' => e = .returned (.tuple #[.agg #[.int .i64 sk, .int .i64 (si + 1)], .bool true]) ∧ Ext w1 w' :=
    (sender_any w1 T (HT.out.ext hx1) HV.out _).mono fun e w' ⟨hx', p, q, b, he, hf⟩ => by
      obtain ⟨hp, hq, hb⟩ := HV.out.found hx hf
      rw [← HS.out] at hp hq
      exact ⟨by rw [he, hp, hq, hb], hx'⟩
  clear HS
  go_upto_region 2 with (go_at_call 39; refine hS.mono ?_; rintro e w2 ⟨rfl, hx2⟩)
  refine boxed1 (w := w2) (G := fun x => Code.wp _ _ _ _ x) ?_
  intro w3 hx3 hs3 ⟨l3, c3, _, _⟩
  clear hs3 hS
  have hx33 : Ext w3 w3 := Ext.refl _
  have hxw3 : Ext w w3 := hx1.trans (hx2.trans hx3)
  by_cases hle : M.rn sk ≤ si
  · go_quiet (fail)
    go_wp2
    go_ret2
    exact ⟨ret_eq (by unfold sentV; rw [if_pos hle]; rfl), hxw3.drewN _⟩
  · have ra := hM.ra sk hskM (by omega)
    have rb := hM.rb sk hskM (by omega)
    have hle' : (si : Int) < (M.rn sk : Int) := by omega
    have hlN : si < M.rn sk := by omega
    have hlb : decide ((M.rn sk : Int) < (si : Int) + 1) = false := by simp; omega
    go_quiet (fail)
    go_wp2
    have hw1 : IntKind.i64.wrap (si : Int) = (si : Int) := IntWalk.i64_in _ (by omega)
    go_quiet (fail)
    clear hw1
    go_wp2
    go_ret2
    exact ⟨ret_eq (by unfold sentV; rw [if_neg hle]; rfl), (hxw3.drewN _).drewN _⟩

end Go.Proofs.Ytecgigeeolindaa
