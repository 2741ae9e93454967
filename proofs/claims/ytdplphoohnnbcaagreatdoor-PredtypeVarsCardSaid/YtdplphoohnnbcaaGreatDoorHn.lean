/- Contracts of predtype: isProc, known, resolved. Contract: variable.Range. -/
import Derived.Test.YtdplphoohnnbcaaGreatDoorHi
import Derived.Test.YtdplphoohnnbcaaGreatDoorHm
namespace Go.Proofs.YtdplphoohnnbcaaGreatDoor
open Go.RowKit Go.Shelf

/-- a number is a process -/
def Tr.IsP (T : Tr) (p : Int) : Prop := 0 ≤ p ∧ p < T.n
def Tr.isPB (T : Tr) (p : Int) : Bool := decide (0 ≤ p) && decide (p < (T.n : Int))
theorem Tr.isPB_iff (T : Tr) (p : Int) : T.isPB p = true ↔ T.IsP p := by simp [Tr.isPB, Tr.IsP]
set_option maxHeartbeats 400000 in
theorem isProc_any (w : World) (T : Tr) (a : Option Addr) (cap : Nat) (p : Int) :
    Calls Tryz.prog 67 #[.agg #[.slice a T.n cap], .int .i64 p] w fun e w' => e = .returned (.bool (T.isPB p)) ∧ Ext w w' := by
  obtain ⟨b, hb⟩ : ∃ b, b = T.isPB p := ⟨_, rfl⟩
  rw [← hb]
  have HB := Lib.hid hb
  clear hb
  go_enter Tryz.func67, Tryz.ntmps67
  go_wp2
  all_goals go_ret
  all_goals refine ⟨ret_bool ?_, Ext.alloc _ _⟩
  all_goals (rw [HB.out, Bool.eq_iff_iff]; simp [Tr.isPB]; try omega)
/-- process p has a variable of this name -/
def Tr.hasV (T : Tr) (p : Nat) (nm : ByteArray) : Bool := anyB (fun v => strEq (T.vname p v) nm) (T.vn p)
set_option maxHeartbeats 400000 in
theorem known1_any (w : World) (s nm : ByteArray) (v1 : Value) (bx : Nat) (hc : w.cell? ⟨bx, 0, none⟩ = some (.string nm)) :
    Calls Tryz.prog 101 #[.agg #[.string s, v1], .pointer (some ⟨bx, 0, none⟩)] w fun e w' => e = .returned (.bool (strEq s nm)) ∧ Ext w w' := by
  have hlt := cell_lt hc
  dsimp only at hlt
  go_enter Tryz.func101, Tryz.ntmps101
  go_wp2
  go_ret
  exact ⟨ret_bool (by simp [strEq]), Ext.alloc _ _⟩
set_option maxRecDepth 100000 in
set_option maxHeartbeats 1000000 in
theorem known_any (w : World) (T : TM) (hT : T.At w) (p : Nat) (hp : p < T.n) (nm : ByteArray) :
    Calls Tryz.prog 68 #[T.val, .int .i64 p, .string nm] w fun e w' => e = .returned (.bool (T.toTr.hasV p nm)) ∧ Ext w w' := by
  have hvn := hT.V.hv p hp
  have hp' : (p : Int) < (T.n : Int) := by omega
  have pa := hT.P.pa (by omega)
  have pb := hT.P.pb (by omega)
  have p1 : ∀ w', Ext w w' → w'.cell? ⟨T.b, T.off + p * 3 + 1, none⟩ = some (.slice (T.va p) (T.vn p) (T.vc p)) := fun w' h => hT.P.p1 w' h p hp
  have HT := Lib.hid hT
  clear hT
  go_enter Tryz.func68, Tryz.ntmps68
  go_upto_region 1 with fail
  refine boxed2 (w := w) (G := fun x => Code.wp _ _ _ _ x) ?_
  intro w1 hx1 hs1 ⟨l0, c0, _, _⟩ ⟨l1, c1, _, _⟩
  have hx11 : Ext w1 w1 := Ext.refl _
  clear hs1
  have hI := has_Var w1 (T.va p) (T.vb p) (T.vo p) (T.vn p) (T.vc p) (fun v => .string (T.vname p v)) (fun v => .int .i64 (T.vinit p v)) 101 #[.pointer (some ⟨w.heap.size + 1, 0, none⟩)] (fun v => strEq (T.vname p v) nm)
    hvn (fun h => HT.out.V.va p hp h) (fun w' h v hv => HT.out.V.v0 w' (hx1.trans h) p v hp hv) (fun w' h v hv => HT.out.V.v1 w' (hx1.trans h) p v hp hv) (enters_of Tryz.func101 (by kernel_rfl) rfl)
    (fun v hv w' h => known1_any w' _ nm _ _ (by exact c1 w' h 0))
  go_wp2_with fail
  go_at_call 100
  refine hI.mono ?_
  rintro e w2 ⟨rfl, hx2⟩
  have hx12 := hx1.trans hx2
  clear hI
  go_wp2_with fail
  go_ret
  exact ⟨rfl, hx12⟩
/-- the names of a node are resolved -/
def Tr.ResP (T : Tr) (kind proc peer : Int) (name : ByteArray) : Prop :=
  (kind = 2 → T.IsP proc ∧ peer = 0 ∧ T.hasV proc.toNat name = true) ∧ (kind = 3 → T.IsP proc ∧ peer = 0 ∧ name.toList = []) ∧
    (kind = 4 → T.IsP proc ∧ T.IsP peer ∧ proc ≠ peer ∧ name.toList = [])
def Tr.ResN (T : Tr) (q : Pr) : Prop := T.ResP q.kind q.proc q.peer q.name
set_option maxRecDepth 100000 in
set_option maxHeartbeats 2000000 in
theorem resolved1_any (w0 w : World) (T : TM) (hT : T.At w0) (hx : Ext w0 w) (bt : Nat) (hb : Hold w bt #[.slice T.a T.n T.cap]) (kind num proc peer : Int) (name : ByteArray) (v5 : Value) :
    Calls Tryz.prog 66 #[.agg #[.int .i64 kind, .int .i64 num, .int .i64 proc, .int .i64 peer, .string name, v5], .pointer (some ⟨bt, 0, none⟩)] w (BoolPost (T.toTr.ResP kind proc peer name) w) := by
  have hn := hT.P.hn
  have HT := Lib.hid hT
  obtain ⟨lt, ct, _, _⟩ := hb.box
  clear hT hb
  by_cases h2 : kind = 2
  · subst h2
    go_enter Tryz.func66, Tryz.ntmps66
    go_upto_region 1 with fail
    refine boxed1 (w := w) (G := fun x => Code.wp _ _ _ _ x) ?_
    intro w1 hx1 hs1 ⟨l0, c0, _, _⟩
    have hx11 : Ext w1 w1 := Ext.refl _
    have hIP := fun W p => isProc_any W T.toTr T.a T.cap p
    have HIP := Lib.hid hIP
    clear hs1 hIP
    go_wp2_with fail
    go_at_call 67
    refine (HIP.out _ _).mono ?_
    rintro e w2 ⟨rfl, hx2⟩
    have hx12 := hx1.trans hx2
    have hxx := hx2
    cases hp : T.toTr.isPB proc with
    | false =>
      have HN := Lib.hid (show ¬ T.toTr.IsP proc from fun h => by rw [(T.toTr.isPB_iff proc).2 h] at hp; cases hp)
      clear hp
      go_wp2_with fail
      go_ret
      exact BoolPost.n (fun h => HN.out (h.1 rfl).1) hx12
    | true =>
      have hisp := (T.toTr.isPB_iff proc).1 hp
      clear hp
      obtain ⟨k, rfl⟩ : ∃ k : Nat, proc = k := ⟨proc.toNat, by have := hisp.1; omega⟩
      have hk : k < T.n := by have := hisp.2; omega
      have HIS := Lib.hid hisp
      clear hisp
      by_cases h3 : peer = 0
      · have d3 : (peer == 0) = true := by simp [h3]
        have H3 := Lib.hid h3
        clear h3
        have hK := known_any w2 T (HT.out.ext (hx.trans hx12)) k hk name
        go_wp2_with fail
        go_at_call 68
        refine hK.mono ?_
        rintro e w3 ⟨rfl, hx3⟩
        have hx13 := hx12.trans hx3
        clear hK
        go_wp2_with fail
        go_ret
        exact BoolPost.mk0 ⟨fun h => ⟨fun _ => ⟨HIS.out, H3.out, h⟩, (fun h => by omega), (fun h => by omega)⟩, fun h => (h.1 rfl).2.2⟩ hx13
      · have d3 : (peer == 0) = false := by simp [h3]
        have H3 := Lib.hid h3
        clear h3
        go_wp2_with fail
        go_ret
        exact BoolPost.n (fun h => H3.out (h.1 rfl).2.1) hx12
  · have d2 : (kind == 2) = false := by simp [h2]
    by_cases h3 : kind = 3
    · subst h3
      go_enter Tryz.func66, Tryz.ntmps66
      go_upto_region 1 with fail
      refine boxed1 (w := w) (G := fun x => Code.wp _ _ _ _ x) ?_
      intro w1 hx1 hs1 ⟨l0, c0, _, _⟩
      have hx11 : Ext w1 w1 := Ext.refl _
      have hIP := fun W p => isProc_any W T.toTr T.a T.cap p
      have HIP := Lib.hid hIP
      clear hs1 hIP
      go_wp2_with fail
      go_at_call 67
      refine (HIP.out _ _).mono ?_
      rintro e w2 ⟨rfl, hx2⟩
      have hx12 := hx1.trans hx2
      have hxx := hx2
      cases hp : T.toTr.isPB proc with
      | false =>
        have HN := Lib.hid (show ¬ T.toTr.IsP proc from fun h => by rw [(T.toTr.isPB_iff proc).2 h] at hp; cases hp)
        clear hp
        go_wp2_with fail
        go_ret
        exact BoolPost.n (fun h => HN.out (h.2.1 rfl).1) hx12
      | true =>
        have HIS := Lib.hid ((T.toTr.isPB_iff proc).1 hp)
        clear hp
        by_cases h3 : peer = 0
        · have d3 : (peer == 0) = true := by simp [h3]
          have H3 := Lib.hid h3
          clear h3
          by_cases q3 : name.toList = []
          · have e3 : name.toList.isEmpty = true := by simp [q3]
            have Q3 := Lib.hid q3
            go_wp2_with fail
            go_ret
            exact BoolPost.y ⟨(fun h => by omega), fun _ => ⟨HIS.out, H3.out, Q3.out⟩, (fun h => by omega)⟩ hx12
          · have e3 : name.toList.isEmpty = false := by simp [q3]
            have Q3 := Lib.hid q3
            go_wp2_with fail
            go_ret
            exact BoolPost.n (fun h => Q3.out (h.2.1 rfl).2.2) hx12
        · have d3 : (peer == 0) = false := by simp [h3]
          have H3 := Lib.hid h3
          clear h3
          go_wp2_with fail
          go_ret
          exact BoolPost.n (fun h => H3.out (h.2.1 rfl).2.1) hx12
    · have d3 : (kind == 3) = false := by simp [h3]
      by_cases h4 : kind = 4
      · subst h4
        go_enter Tryz.func66, Tryz.ntmps66
        go_upto_region 1 with fail
        refine boxed1 (w := w) (G := fun x => Code.wp _ _ _ _ x) ?_
        intro w1 hx1 hs1 ⟨l0, c0, _, _⟩
        have hx11 : Ext w1 w1 := Ext.refl _
        have hIP := fun W p => isProc_any W T.toTr T.a T.cap p
        have HIP := Lib.hid hIP
        clear hs1 hIP
        go_wp2_with fail
        go_at_call 67
        refine (HIP.out _ _).mono ?_
        rintro e w2 ⟨rfl, hx2⟩
        have hx12 := hx1.trans hx2
        have hxx := hx2
        cases hp : T.toTr.isPB proc with
        | false =>
          have HN := Lib.hid (show ¬ T.toTr.IsP proc from fun h => by rw [(T.toTr.isPB_iff proc).2 h] at hp; cases hp)
          clear hp
          go_wp2_with fail
          go_ret
          exact BoolPost.n (fun h => HN.out (h.2.2 rfl).1) hx12
        | true =>
          have HIS := Lib.hid ((T.toTr.isPB_iff proc).1 hp)
          clear hp
          go_wp2_with fail
          go_at_call 67
          refine (HIP.out _ _).mono ?_
          rintro e w3 ⟨rfl, hx3⟩
          have hx12 := hx12.trans hx3
          have hxy := hxx.trans hx3
          cases hp : T.toTr.isPB peer with
          | false =>
            have HN := Lib.hid (show ¬ T.toTr.IsP peer from fun h => by rw [(T.toTr.isPB_iff peer).2 h] at hp; cases hp)
            clear hp
            go_wp2_with fail
            go_ret
            exact BoolPost.n (fun h => HN.out (h.2.2 rfl).2.1) hx12
          | true =>
            have HIS2 := Lib.hid ((T.toTr.isPB_iff peer).1 hp)
            clear hp
            by_cases h5 : proc = peer
            · have d5 : (proc != peer) = false := by simp [h5]
              have H5 := Lib.hid h5
              clear h5
              go_wp2_with fail
              go_ret
              exact BoolPost.n (fun h => (h.2.2 rfl).2.2.1 H5.out) hx12
            · have d5 : (proc != peer) = true := by simp [h5]
              have H5 := Lib.hid h5
              clear h5
              by_cases q3 : name.toList = []
              · have e3 : name.toList.isEmpty = true := by simp [q3]
                have Q3 := Lib.hid q3
                go_wp2_with fail
                go_ret
                exact BoolPost.y ⟨(fun h => by omega), (fun h => by omega), fun _ => ⟨HIS.out, HIS2.out, H5.out, Q3.out⟩⟩ hx12
              · have e3 : name.toList.isEmpty = false := by simp [q3]
                have Q3 := Lib.hid q3
                go_wp2_with fail
                go_ret
                exact BoolPost.n (fun h => Q3.out (h.2.2 rfl).2.2.2) hx12
      · have d4 : (kind == 4) = false := by simp [h4]
        have HH := Lib.hid (And.intro h2 (And.intro h3 h4))
        clear h2 h3 h4
        go_enter Tryz.func66, Tryz.ntmps66
        go_upto_region 1 with fail
        refine boxed1 (w := w) (G := fun x => Code.wp _ _ _ _ x) ?_
        intro w1 hx1 hs1 ⟨l0, c0, _, _⟩
        have hx11 : Ext w1 w1 := Ext.refl _
        have hIP := fun W p => isProc_any W T.toTr T.a T.cap p
        have HIP := Lib.hid hIP
        clear hs1 hIP
        go_wp2_with fail
        go_ret
        exact BoolPost.y ⟨fun h => absurd h HH.out.1, fun h => absurd h HH.out.2.1, fun h => absurd h HH.out.2.2⟩ hx1
set_option maxRecDepth 100000 in
set_option maxHeartbeats 1000000 in
theorem resolved_any (w : World) (T : TM) (hT : T.At w) (p : Pr) (hp : p.At w) : Calls Tryz.prog 29 #[T.val, p.val] w (BoolPost (p.All T.toTr.ResN) w) := by
  have HP := Lib.hid hp
  have HT := Lib.hid hT
  clear hp hT
  simp only [Pr.val]
  go_enter Tryz.func29, Tryz.ntmps29
  go_upto_region 1 with fail
  refine boxed2 (w := w) (G := fun x => Code.wp _ _ _ _ x) ?_
  intro w1 hx1 hs1 ⟨l0, c0, _, k0⟩ ⟨l1, c1, _, k1⟩
  have hx11 : Ext w1 w1 := Ext.refl _
  have HK := Lib.hid k0
  clear hs1 k0 k1
  have hE := each_bool w1 66 #[.pointer (some ⟨w.heap.size, 0, none⟩)] (enters_of Tryz.func66 (by kernel_rfl) rfl) T.toTr.ResN (fun _ => True) (fun q hq _ w' hx => resolved1_any w w' T HT.out (hx1.trans hx) w.heap.size (Hold.ext HK.out hx) q.kind q.num q.proc q.peer q.name _) p (HP.out.ext hx1) All_true
  simp only [Pr.val] at hE
  go_wp2_with fail
  go_at_call 38
  refine hE.mono ?_
  rintro e w4 ⟨b, rfl, hb, hx4⟩
  have HB := Lib.hid hb
  clear hb hE
  go_wp2_with fail
  go_ret
  exact BoolPost.mk0 HB.out (hx1.trans hx4)

end Go.Proofs.YtdplphoohnnbcaaGreatDoor

namespace Go.Proofs.YtdplphoohnnbcaaGreatDoor
open Go.RowKit Go.Shelf

def Tr.RangeIs (T : Tr) (p : Int) (nm : ByteArray) (l h c : Int) : Prop := ∃ x, T.VFindIs p nm x c ∧ (c ≠ 0 → l = 0 ∧ h = 0) ∧ (c = 0 → LowHigh (T.ValOf p.toNat x.toNat) l h)
def RangePost (T : Tr) (p : Int) (nm : ByteArray) (w : World) (e : Ending) (w' : World) : Prop := Ext w w' ∧ ∃ l h c : Int, e = .returned (.tuple #[.int .i64 l, .int .i64 h, .int .i64 c]) ∧ T.RangeIs p nm l h c
theorem intCells_get (l : List Int) (j : Nat) (h : j < l.length) : (intCells l)[j]? = some (.int .i64 (l.getD j 0)) := by
  unfold intCells; rw [List.getElem?_map, List.getElem?_eq_getElem h, List.getD_eq_getElem?_getD, List.getElem?_eq_getElem h]; rfl
set_option maxRecDepth 100000 in
set_option maxHeartbeats 1000000 in
theorem vRange_any (w : World) (T : TM) (hT : T.At w) (p : Int) (nm : ByteArray) :
    Calls Tryz.prog 90 #[T.val, .int .i64 p, .string nm] w (RangePost T.toTr p nm w) := by
  have HT := Lib.hid hT
  clear hT
  obtain ⟨ta, hta⟩ : ∃ a, a = T.a := ⟨_, rfl⟩
  have hF := fun W (h : Ext w W) => vfind_any W T (HT.out.ext h) p nm
  simp only [TM.val] at hF ⊢
  rw [← hta] at hF ⊢
  have HTA := Lib.hid hta
  have HF := Lib.hid hF
  clear hta hF
  go_enter Tryz.func90, Tryz.ntmps90
  go_upto_region 1 with fail
  refine boxed1 (w := w) (G := fun x => Code.wp _ _ _ _ x) ?_
  intro w1 hx1 hs1 ⟨l0, c0, _, _⟩
  have hx11 : Ext w1 w1 := Ext.refl _
  clear hs1
  go_wp2_with fail
  go_at_call 121
  refine (HF.out w1 hx1).mono ?_
  rintro e w2 ⟨hx2, x, c, rfl, hfi⟩
  have HFI := Lib.hid hfi
  have hx02 := hx1.trans hx2
  by_cases hc : c = 0
  · obtain ⟨hV, h0, h1, v, hv, _, _, rfl, _⟩ : T.toTr.Valid ∧ 0 ≤ p ∧ p < T.n ∧ ∃ v : Nat, v < T.vn p.toNat ∧ strEq (T.vname p.toNat v) nm = true ∧ T.varI p.toNat nm = v ∧ x = v ∧ c = 0 := by
      rcases hfi with ⟨_, _, h⟩ | ⟨_, _, _, h⟩ | ⟨_, _, _, _, _, h⟩ | h
      · omega
      · omega
      · omega
      · exact h
    subst hc
    obtain ⟨k, rfl⟩ : ∃ k : Nat, p = k := ⟨p.toNat, by omega⟩
    rw [Int.toNat_natCast] at hv
    have hk : k < T.n := by omega
    have hk' : (k : Int) < (T.n : Int) := by omega
    obtain rfl : ta = some ⟨T.b, T.off, none⟩ := by rw [HTA.out]; exact HT.out.P.pa (by omega)
    have pb := HT.out.P.pb (by omega)
    have p0 : ∀ w', Ext w w' → w'.cell? ⟨T.b, T.off + k * 3, none⟩ = some (.string (T.name k)) := fun w' h => HT.out.P.p0 w' h k hk
    have p1 : ∀ w', Ext w w' → w'.cell? ⟨T.b, T.off + k * 3 + 1, none⟩ = some (.slice (T.va k) (T.vn k) (T.vc k)) := fun w' h => HT.out.P.p1 w' h k hk
    have p2 : ∀ w', Ext w w' → w'.cell? ⟨T.b, T.off + k * 3 + 2, none⟩ = some (.slice (T.ea k) (T.en k) (T.ec k)) := fun w' h => HT.out.P.p2 w' h k hk
    have hvals := values_any w2 T (HT.out.ext hx02) hV k hk v hv
    have HV := Lib.hid hV
    have hen := hV.en64 hk
    clear hfi hV h0 h1
    go_wp2_with fail
    go_at_call 122
    refine hvals.mono ?_
    rintro e w3 ⟨hx3, u, rfl, hq⟩
    have hx03 := hx02.trans hx3
    have HQ := Lib.hid hq
    obtain ⟨g, off, cap, rfl, _, _, _, hcell⟩ := hq.shape (by omega)
    have hcell2 : ∀ j, j < T.en k + 1 → w3.cell? ⟨g, off + j, none⟩ = some (.int .i64 (T.st k v j)) := fun j hj => by
      rw [hcell j (by omega), intCells_get _ _ (by unfold Tr.stV; simp; omega)]
      unfold Tr.stV
      rw [List.getD_eq_getElem?_getD, List.getElem?_map, List.getElem?_range hj]; rfl
    have hmin := min_any w3 g off (T.en k + 1) cap (fun j => T.st k v j) (by omega) (by omega) hcell2
    have hmax := max_any w3 g off (T.en k + 1) cap (fun j => T.st k v j) (by omega) (by omega) hcell2
    clear hcell hcell2 hq hvals p0 p1 p2 pb
    go_wp2_with fail
    go_at_call 91
    refine hmin.mono ?_
    rintro e w4 ⟨rfl, lo, rfl, hlo1, hlo2⟩
    have HLO := Lib.hid (And.intro hlo1 hlo2)
    clear hlo1 hlo2 hmin
    go_wp2_with fail
    go_at_call 92
    refine hmax.mono ?_
    rintro e w4 ⟨rfl, hi, rfl, hhi1, hhi2⟩
    have HHI := Lib.hid (And.intro hhi1 hhi2)
    clear hhi1 hhi2 hmax
    go_wp2_with fail
    go_ret3
    refine ⟨hx03, lo, hi, 0, rfl, v, HFI.out, fun h => absurd rfl h, fun _ => ?_⟩
    simp only [Int.toNat_natCast]
    obtain ⟨⟨j1, hj1, e1⟩, a1⟩ := HLO.out
    obtain ⟨⟨j2, hj2, e2⟩, a2⟩ := HHI.out
    refine ⟨e1 ▸ T.toTr.st_of k v j1 (by omega), e2 ▸ T.toTr.st_of k v j2 (by omega), fun x hx => ?_⟩
    obtain ⟨j, hj, e⟩ := HV.out.of_st hk hx
    have b1 : lo ≤ T.toTr.st k v j := a1 j (by omega)
    have b2 : T.toTr.st k v j ≤ hi := a2 j (by omega)
    omega
  · have d0 : (c != 0) = true := by simp [hc]
    have HC := Lib.hid hc
    clear hfi hc
    go_wp2_with fail
    go_ret3
    exact ⟨hx02, 0, 0, c, rfl, x, HFI.out, fun _ => ⟨rfl, rfl⟩, fun h => absurd h HC.out⟩

end Go.Proofs.YtdplphoohnnbcaaGreatDoor
