/- Gate: the law GateOthers, walked. -/
import Derived.Test.YtpfgjnklfdfiaaaV
namespace Go.Proofs.Ytpfgjnklfdfiaaa
open Go.RowKit Go.Conc

theorem GAt.old {w w' : World} {b cu cm many nu nm B : Nat} (h : GAt w b cu cm many nu nm) (k : Only (fun i => B ≤ i ∧ i ≠ b ∧ i ≠ cu ∧ i ≠ cm) w w') : GAt w' b cu cm many nu nm :=
  h.far k (by omega) (by omega) (by omega)

set_option maxHeartbeats 4000000 in
theorem gateOthers_walk (x0 x1 x2 kind : Int) (w : World) :
    Calls Try.prog 7 #[.agg #[.int .i64 x0, .int .i64 x1, .int .i64 x2], .int .i64 kind] w fun e w' => e = .returned (.bool true) ∧ Below w.heap.size w w' := by
  have HN := Lib.hid (fun w => (new_any 20 (by omega) (by omega) w : Calls Try.prog 11 #[.int .i64 20] w _))
  obtain ⟨va, vb, hA, hB, hab⟩ := split_nat x0 x1 x2 20
  have HF := Lib.hid (fun (w : World) (b cu cm nu nm : Nat) (h : GAt w b cu cm 20 nu nm) => fill_any b cu cm 20 nu nm va vb x0 x1 x2 w h (by omega) hA hB hab)
  have HL := Lib.hid (fun (w : World) (b cu cm : Nat) (kind : Int) (h : GAt w b cu cm 20 va vb) => left_any b cu cm 20 va vb kind w h)
  clear hA hB
  have hk : kind = 1 ∨ kind = 2 ∨ (kind ≠ 1 ∧ kind ≠ 2) := by omega
  rcases hk with rfl | rfl | ⟨hk1, hk2⟩
  case inr.inr =>
    have hl0 : leftN va vb kind = 0 := by simp [leftN, hk1, hk2]
    have e1 : lessU va kind = va := by simp [lessU, hk1]
    have e2 : lessM vb kind = vb := by simp [lessM, hk2]
    have hz : decide (0 < leftN va vb kind) = false := by simp [hl0]
    have HT := Lib.hid (fun (w : World) (b cu cm : Nat) (h : GAt w b cu cm 20 va vb) => take_any b cu cm 20 va vb kind w h)
    have d1 : (kind == 1) = false := beq_false_of_ne hk1
    have d2 : (kind == 2) = false := beq_false_of_ne hk2
    rw [hz, e1, e2] at HT
    have L1 : leftN va vb 1 = va := rfl
    have L2 : leftN va vb 2 = vb := rfl
    have HL1 := Lib.hid (fun (w : World) (b cu cm : Nat) (h : GAt w b cu cm 20 va vb) => HL.out w b cu cm 1 h)
    have HL2 := Lib.hid (fun (w : World) (b cu cm : Nat) (h : GAt w b cu cm 20 va vb) => HL.out w b cu cm 2 h)
    have HL3 := Lib.hid (fun (w : World) (b cu cm : Nat) (h : GAt w b cu cm 20 va vb) => HL.out w b cu cm kind h)
    rw [L1] at HL1
    rw [L2] at HL2
    rw [hl0] at HL3
    clear hl0 e1 e2 hz hk1 hk2 HL L1 L2
    go_enter Try.func7, Try.ntmps7
    go_wp2_with (fail)
    refine (awake_any _).mono ?_
    rintro e w1 ⟨rfl, rfl⟩
    go_wp2_with (fail)
    refine (HN.out _).mono ?_
    rintro e w2 ⟨b, cu, cm, rfl, hG, hb, hcu, hcm, hO⟩
    have hX := (At.new w 36 #[.int .i64 x0, .int .i64 x1, .int .i64 x2]).only hO id
    have c0 := hX.cell 0
    have c1 := hX.cell 1
    have c2 := hX.cell 2
    simp at c0 c1 c2
    have HO := Lib.hid (((Only.refl (fun _ => False) w).alloc (.cells #[.int .i64 x0, .int .i64 x1, .int .i64 x2] 36)).trans hO)
    have HG := Lib.hid hG
    clear hG hO hX
    simp at hb hcu hcm
    go_wp2_with (fail)
    refine (HF.out _ _ _ _ _ _ HG.out).mono ?_
    rintro e w3 ⟨rfl, hG3, hO3⟩
    have HG3 := Lib.hid hG3
    have HO3 := Lib.hid hO3
    clear hG3 hO3
    go_wp2_with (fail)
    refine (HL1.out _ _ _ _ HG3.out).mono ?_
    rintro e w4 ⟨rfl, rfl⟩
    go_wp2_with (fail)
    refine (HL2.out _ _ _ _ HG3.out).mono ?_
    rintro e w5 ⟨rfl, rfl⟩
    go_wp2_with (fail)
    refine (HT.out _ _ _ _ HG3.out).mono ?_
    rintro e w6 ⟨rfl, hG6, hO6⟩
    have HG6 := Lib.hid hG6
    have HO6 := Lib.hid hO6
    clear hG6 hO6
    go_wp2_with (fail)
    refine (HL3.out _ _ _ _ HG6.out).mono ?_
    rintro e w7 ⟨rfl, rfl⟩
    go_wp2_with (fail)
    refine (HL1.out _ _ _ _ HG6.out).mono ?_
    rintro e w8 ⟨rfl, rfl⟩
    go_wp2_with (fail)
    refine (HL2.out _ _ _ _ HG6.out).mono ?_
    rintro e w9 ⟨rfl, rfl⟩
    go_wp2_with (fail)
    go_ret
    refine ⟨by simp, ?_⟩
    exact ((HO.out.trans' HO3.out (fun i hi h => by omega)).trans' HO6.out (fun i hi h => by omega)).below (Nat.le_refl _) (fun i hi h => h)
  all_goals
    have HL1 := Lib.hid (fun (w : World) (b cu cm : Nat) (h : GAt w b cu cm 20 va vb) => HL.out w b cu cm 1 h)
    have HL2 := Lib.hid (fun (w : World) (b cu cm : Nat) (h : GAt w b cu cm 20 va vb) => HL.out w b cu cm 2 h)
    have L1 : leftN va vb 1 = va := rfl
    have L2 : leftN va vb 2 = vb := rfl
    rw [L1] at HL1
    rw [L2] at HL2
    clear HL L1 L2
    go_enter Try.func7, Try.ntmps7
    go_wp2_with (fail)
    refine (awake_any _).mono ?_
    rintro e w1 ⟨rfl, rfl⟩
    go_wp2_with (fail)
    refine (HN.out _).mono ?_
    rintro e w2 ⟨b, cu, cm, rfl, hG, hb, hcu, hcm, hO⟩
    have hX := (At.new w 36 #[.int .i64 x0, .int .i64 x1, .int .i64 x2]).only hO id
    have c0 := hX.cell 0
    have c1 := hX.cell 1
    have c2 := hX.cell 2
    simp at c0 c1 c2
    have HO := Lib.hid (((Only.refl (fun _ => False) w).alloc (.cells #[.int .i64 x0, .int .i64 x1, .int .i64 x2] 36)).trans hO)
    have HG := Lib.hid hG
    clear hG hO hX
    simp at hb hcu hcm
    go_wp2_with (fail)
    refine (HF.out _ _ _ _ _ _ HG.out).mono ?_
    rintro e w3 ⟨rfl, hG3, hO3⟩
    have HG3 := Lib.hid hG3
    have HO3 := Lib.hid hO3
    clear hG3 hO3
    go_wp2_with (fail)
    refine (HL1.out _ _ _ _ HG3.out).mono ?_
    rintro e w4 ⟨rfl, rfl⟩
    go_wp2_with (fail)
    refine (HL2.out _ _ _ _ HG3.out).mono ?_
    rintro e w5 ⟨rfl, rfl⟩
    go_wp2_with (fail)
    go_ret
    refine ⟨by simp; omega, ?_⟩
    exact (HO.out.trans' HO3.out (fun i hi h => by omega)).below (Nat.le_refl _) (fun i hi h => h)
end Go.Proofs.Ytpfgjnklfdfiaaa
