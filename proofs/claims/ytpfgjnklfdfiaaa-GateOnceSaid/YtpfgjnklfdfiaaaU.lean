/- Gate: the law GateOnce, walked. -/
import Derived.Test.YtpfgjnklfdfiaaaV
namespace Go.Proofs.Ytpfgjnklfdfiaaa
open Go.RowKit Go.Conc

def bl (l : List Bool) : List Value := l.map Value.bool

theorem bl_get (l : List Bool) (k : Nat) (h : k < l.length) : (bl l)[k]? = some (.bool l[k]) := by
  simp [bl, h]

set_option maxRecDepth 100000 in
set_option maxHeartbeats 8000000 in
theorem gateOnce_bad (many x0 x1 x2 : Int) (h : many < 1 ∨ 256 < many) (v : Value) (w : World) :
    Calls Try.prog 6 #[.int .i64 many, .agg #[.int .i64 x0, .int .i64 x1, .int .i64 x2], v] w fun e w' => e = .returned (.bool true) ∧ Below w.heap.size w w' := by
  have HN := Lib.hid (new_bad many h)
  rcases h with h | h
  all_goals
    go_enter Try.func6, Try.ntmps6
    go_wp2_with (fail)
    refine (awake_any _).mono ?_
    rintro e w1 ⟨rfl, rfl⟩
    go_wp2_with (fail)
    refine (HN.out _).mono ?_
    rintro e w1 ⟨rfl, rfl⟩
    go_wp2_with (fail)
    go_ret
    exact ⟨by simp; try omega, (Below.refl _ _).alloc (Nat.le_refl _) _⟩

set_option maxRecDepth 100000 in
set_option maxHeartbeats 8000000 in
theorem gateOnce_walk (many : Int) (x0 x1 x2 : Int) (l : List Bool) (g c : Nat) (A : Option Addr) (w : World) (hr : Rd w g A (bl l)) (hlen : l.length ≤ 9223372036854775807) :
    Calls Try.prog 6 #[.int .i64 many, .agg #[.int .i64 x0, .int .i64 x1, .int .i64 x2], .slice A l.length c] w fun e w' => e = .returned (.bool true) ∧ Below w.heap.size w w' := by
  by_cases hbad : many < 1 ∨ 256 < many
  · exact gateOnce_bad many x0 x1 x2 hbad _ w
  obtain ⟨many, rfl⟩ : ∃ m : Nat, many = m := ⟨many.toNat, by omega⟩
  have m1 : 1 ≤ many := by omega
  have m2 : many ≤ 256 := by omega
  clear hbad
  have HN := Lib.hid (new_any many m1 m2)
  obtain ⟨va, vb, hA, hB, hab⟩ := split_nat x0 x1 x2 many
  obtain ⟨ya, yb, hA', hB', hab'⟩ := split_nat 1 0 1 many
  have HS := Lib.hid (fun w => split_any x0 x1 x2 many w)
  rw [hA, hB] at HS
  have HF := Lib.hid (fun (w : World) (b cu cm nu nm : Nat) (h : GAt w b cu cm many nu nm) => fill_any b cu cm many nu nm va vb x0 x1 x2 w h m2 hA hB hab)
  have HF1 := Lib.hid (fun (w : World) (b cu cm nu nm : Nat) (h : GAt w b cu cm many nu nm) => fill_any b cu cm many nu nm ya yb 1 0 1 w h m2 hA' hB' hab')
  clear hA hB hA' hB'
  go_enter Try.func6, Try.ntmps6
  go_wp2_with (fail)
  refine (awake_any _).mono ?_
  rintro e w1 ⟨rfl, rfl⟩
  go_wp2_with (fail)
  refine (HN.out _).mono ?_
  rintro e w2 ⟨b, cu, cm, rfl, hG, hb, hcu, hcm, hO⟩
  have HO := Lib.hid (((Only.refl (fun _ => False) w).alloc (.cells #[.int .i64 x0, .int .i64 x1, .int .i64 x2] 36)).trans hO)
  have HX := Lib.hid ((At.new w 36 #[.int .i64 x0, .int .i64 x1, .int .i64 x2]).only hO id)
  have HG := Lib.hid hG
  clear hG hO
  simp at hb hcu hcm
  go_wp2_with (fail)
  refine (HF1.out _ _ _ _ _ _ HG.out).mono ?_
  rintro e w3 ⟨rfl, hG3, hO3⟩
  have hX := HX.out.only hO3 (by omega)
  have c0 := hX.cell 0
  have c1 := hX.cell 1
  have c2 := hX.cell 2
  simp at c0 c1 c2
  have HX3 := Lib.hid hX
  have HG3 := Lib.hid hG3
  have HO3 := Lib.hid (HO.out.trans' hO3 (fun i hi h => by omega))
  clear hG3 hO3 hX
  go_wp2_with (fail)
  refine (HF.out _ _ _ _ _ _ HG3.out).mono ?_
  rintro e w4 ⟨rfl, hG4, hO4⟩
  have hX := HX3.out.only hO4 (by omega)
  clear c0 c1 c2
  have c0 := hX.cell 0
  have c1 := hX.cell 1
  have c2 := hX.cell 2
  simp at c0 c1 c2
  have HG4 := Lib.hid hG4
  have HO4 := Lib.hid (HO3.out.trans' hO4 (fun i hi h => by omega))
  clear hG4 hO4 hX
  go_wp2_with (fail)
  refine (HS.out _).mono ?_
  rintro e w5 ⟨rfl, rfl⟩
  go_wp2_with (fail)
  clear c0 c1 c2
  obtain ⟨wo, rfl⟩ : ∃ wo : World, wo = w4 := ⟨_, rfl⟩
  go_loopw [10, 11, 12] (fun v10 v11 v12 wr => ∃ (k a' b' : Nat), k ≤ l.length ∧ a' ≤ many ∧ b' ≤ many ∧ v10 = .int .i64 a' ∧ v11 = .int .i64 b' ∧ v12 = .int .i64 k ∧ GAt wr b cu cm many a' b' ∧ Only (fun _ => False) w wr) (fun v10 v11 v12 wr => (l.length - intOf v12).toNat)
  case atStart => exact ⟨0, va, vb, by omega, by omega, by omega, rfl, rfl, rfl, HG4.out, HO4.out⟩
  case round =>
    obtain ⟨k, a', b', hk, ha', hb', rfl, rfl, rfl, hG5, hO5⟩ := hrel
    have HG5 := Lib.hid hG5
    have HO5 := Lib.hid hO5
    have n0 : (0 : Int) ≤ k := by omega
    by_cases hkl : k < l.length ∧ k < 600
    · obtain ⟨hk1, hk2⟩ := hkl
      have i1 : (k : Int) < l.length := by omega
      have i2 : (k : Int) < 600 := by omega
      have hne : bl l ≠ [] := by
        intro h
        have : (bl l).length = 0 := by rw [h]; rfl
        simp [bl] at this
        subst this; simp at hk1
      obtain ⟨off, rfl, hlt, hget⟩ := (hr.only hO5 id).at hne
      have ck := hget k _ (bl_get l k hk1)
      have HT1 := Lib.hid (take_any b cu cm many a' b' 1 _ hG5)
      have HT2 := Lib.hid (take_any b cu cm many a' b' 2 _ hG5)
      have l1 : leftN a' b' 1 = a' := rfl
      have l2 : leftN a' b' 2 = b' := rfl
      rw [l1] at HT1
      rw [l2] at HT2
      clear l1 l2 hG5 hO5 hne hget
      cases hb : l[k] with
      | true =>
        rw [hb] at ck
        clear HT2
        by_cases hz : a' = 0
        · subst hz
          have d : decide (0 < 0) = false := rfl
          rw [d] at HT1
          clear d
          go_wp2_with (fail)
          refine HT1.out.mono ?_
          rintro e w6 ⟨rfl, hG6, hO6⟩
          have HO6 := Lib.hid (HO5.out.trans' hO6 (fun i hi h => by omega))
          have HG6 := Lib.hid hG6
          clear hO6 hG6
          go_wp2
          go_roundw
          case rel => exact ⟨k + 1, 0, b', by omega, by omega, by omega, rfl, rfl, by simp, HG6.out, HO6.out⟩
          case measure => simp [intOf]; omega
        · have d : decide (0 < a') = true := by simp; omega
          have d2 : (0 : Int) < a' := by omega
          have d3 : (a' : Int) ≤ 256 := by omega
          rw [d] at HT1
          go_wp2_with (fail)
          refine HT1.out.mono ?_
          rintro e w6 ⟨rfl, hG6, hO6⟩
          have HO6 := Lib.hid (HO5.out.trans' hO6 (fun i hi h => by omega))
          have HG6 := Lib.hid hG6
          clear hO6 hG6
          go_wp2
          go_roundw
          case rel => exact ⟨k + 1, a' - 1, b', by omega, by omega, by omega, by simp; omega, rfl, by simp, HG6.out, HO6.out⟩
          case measure => simp [intOf]; omega
      | false =>
        rw [hb] at ck
        clear HT1
        by_cases hz : b' = 0
        · subst hz
          have d : decide (0 < 0) = false := rfl
          rw [d] at HT2
          clear d
          go_wp2_with (fail)
          refine HT2.out.mono ?_
          rintro e w6 ⟨rfl, hG6, hO6⟩
          have HO6 := Lib.hid (HO5.out.trans' hO6 (fun i hi h => by omega))
          have HG6 := Lib.hid hG6
          clear hO6 hG6
          go_wp2
          go_roundw
          case rel => exact ⟨k + 1, a', 0, by omega, by omega, by omega, rfl, rfl, by simp, HG6.out, HO6.out⟩
          case measure => simp [intOf]; omega
        · have d : decide (0 < b') = true := by simp; omega
          have d2 : (0 : Int) < b' := by omega
          have d3 : (b' : Int) ≤ 256 := by omega
          rw [d] at HT2
          go_wp2_with (fail)
          refine HT2.out.mono ?_
          rintro e w6 ⟨rfl, hG6, hO6⟩
          have HO6 := Lib.hid (HO5.out.trans' hO6 (fun i hi h => by omega))
          have HG6 := Lib.hid hG6
          clear hO6 hG6
          go_wp2
          go_roundw
          case rel => exact ⟨k + 1, a', b' - 1, by omega, by omega, by omega, rfl, by simp; omega, by simp, HG6.out, HO6.out⟩
          case measure => simp [intOf]; omega
    · have HL1 := Lib.hid (left_any b cu cm many a' b' 1 _ hG5)
      have HL2 := Lib.hid (left_any b cu cm many a' b' 2 _ hG5)
      have l1 : leftN a' b' 1 = a' := rfl
      have l2 : leftN a' b' 2 = b' := rfl
      rw [l1] at HL1
      rw [l2] at HL2
      clear l1 l2 hG5 hO5
      have hs : k = l.length ∨ (k < l.length ∧ 600 ≤ k) := by omega
      rcases hs with rfl | ⟨h1, h2⟩
      all_goals
        try (have i1 : (k : Int) < l.length := by omega)
        try (have i2 : ¬ (k : Int) < 600 := by omega)
        go_wp2_with (fail)
        refine HL1.out.mono ?_
        rintro e w6 ⟨rfl, rfl⟩
        go_wp2_with (fail)
        refine HL2.out.mono ?_
        rintro e w6 ⟨rfl, rfl⟩
        go_wp2_with (fail)
        go_ret
        exact ⟨by simp, HO5.out.below (Nat.le_refl _) (fun i hi h => h)⟩
end Go.Proofs.Ytpfgjnklfdfiaaa
