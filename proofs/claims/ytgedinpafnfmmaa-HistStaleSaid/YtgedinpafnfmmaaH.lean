/- Hist: the law HistStale. -/
import Derived.Test.YtgedinpafnfmmaaG
namespace Go.Proofs.Ytgedinpafnfmmaa
open Go.RowKit

theorem stale_no {v o x0 x1 x2 : Int} (hv : 1 ≤ v) (ho : 0 ≤ o) (hne : v ≠ o) (h0 : 1 ≤ x0) (h0' : x0 ≤ 1000) (h1 : 1 ≤ x1) (h1' : x1 ≤ 1000) (h2 : 1 ≤ x2) (h2' : x2 ≤ 1000) :
    right [⟨1, v, 9000, 9000 + x0⟩, ⟨2, v, 0, x1⟩, ⟨2, o, 2000, 2000 + x2⟩] = true ∧ chk [⟨1, v, 9000, 9000 + x0⟩, ⟨2, v, 0, x1⟩, ⟨2, o, 2000, 2000 + x2⟩] = false := by
  have hr : right [⟨1, v, 9000, 9000 + x0⟩, ⟨2, v, 0, x1⟩, ⟨2, o, 2000, 2000 + x2⟩] = true := by
    simp [right, Dd.may]; omega
  refine ⟨hr, ?_⟩
  cases hc : chk [⟨1, v, 9000, 9000 + x0⟩, ⟨2, v, 0, x1⟩, ⟨2, o, 2000, 2000 + x2⟩]
  · rfl
  exfalso
  have hs := (chk_iff hr).1 hc
  cases hs with
  | done h =>
    have := h ⟨2, v, 0, x1⟩ (by simp)
    simp at this; omega
  | @step _ R _ x hp hB hk hs =>
    have hx : x ∈ [(⟨1, v, 9000, 9000 + x0⟩ : Dd), ⟨2, v, 0, x1⟩, ⟨2, o, 2000, 2000 + x2⟩] := hp.mem_iff.2 List.mem_cons_self
    have hin : (⟨2, v, 0, x1⟩ : Dd) ∈ x :: R := hp.mem_iff.1 (by simp)
    simp only [List.mem_cons, List.not_mem_nil, or_false] at hx
    rcases hx with rfl | rfl | rfl
    · have hy : (⟨2, v, 0, x1⟩ : Dd) ∈ R := by
        rcases List.mem_cons.1 hin with h | h
        · simp at h
        · exact h
      have := hB _ hy
      simp [Dd.before] at this
      omega
    · have hR : R.Perm [⟨1, v, 9000, 9000 + x0⟩, ⟨2, o, 2000, 2000 + x2⟩] := (List.perm_cons _).1 (hp.symm.trans (List.Perm.swap _ _ _))
      have hs2 := hs.perm hR
      simp only at hs2
      cases hs2 with
      | done h =>
        have := h ⟨2, o, 2000, 2000 + x2⟩ (by simp)
        simp at this; omega
      | @step _ R2 _ y hp2 hB2 hk2 hs3 =>
        have hy : y ∈ [(⟨1, v, 9000, 9000 + x0⟩ : Dd), ⟨2, o, 2000, 2000 + x2⟩] := hp2.mem_iff.2 List.mem_cons_self
        simp only [List.mem_cons, List.not_mem_nil, or_false] at hy
        rcases hy with rfl | rfl
        · have hR2 : R2.Perm [⟨2, o, 2000, 2000 + x2⟩] := (List.perm_cons _).1 hp2.symm
          have := hB2 ⟨2, o, 2000, 2000 + x2⟩ (hR2.mem_iff.2 (by simp))
          simp [Dd.before] at this
          omega
        · have hR2 : R2.Perm [⟨1, v, 9000, 9000 + x0⟩] := (List.perm_cons _).1 (hp2.symm.trans (List.Perm.swap _ _ _))
          have := (ser_one _ _).1 (hs3.perm hR2)
          simp at this
          omega
    · have hy : (⟨2, v, 0, x1⟩ : Dd) ∈ R := by
        rcases List.mem_cons.1 hin with h | h
        · simp at h <;> omega
        · exact h
      have := hB _ hy
      simp [Dd.before] at this
      omega

theorem stale_yes {v o x0 x1 : Int} (hv : 1 ≤ v) (ho : 0 ≤ o) (h0 : 1 ≤ x0) (h1 : 1 ≤ x1) :
    right [⟨1, v, 9000, 9000 + x0⟩, ⟨2, v, 0, x1⟩, ⟨2, o, 2000, -1⟩] = true ∧ chk [⟨1, v, 9000, 9000 + x0⟩, ⟨2, v, 0, x1⟩, ⟨2, o, 2000, -1⟩] = true := by
  have hr : right [⟨1, v, 9000, 9000 + x0⟩, ⟨2, v, 0, x1⟩, ⟨2, o, 2000, -1⟩] = true := by
    simp [right, Dd.may]; omega
  refine ⟨hr, (chk_iff hr).2 (.step ⟨2, v, 0, x1⟩ (R := [⟨1, v, 9000, 9000 + x0⟩, ⟨2, o, 2000, -1⟩]) (List.Perm.swap _ _ _) ?_ (.inl rfl) (.step ⟨1, v, 9000, 9000 + x0⟩ (List.Perm.refl _) ?_ (.inr rfl) (.done ?_)))⟩
  · intro y hy
    simp only [List.mem_cons, List.not_mem_nil, or_false] at hy
    rcases hy with rfl | rfl
    · simp [Dd.before]; omega
    · simp [Dd.before]
  · simp [Dd.before]
  · simp

set_option maxRecDepth 100000 in
set_option maxHeartbeats 8000000 in
theorem histStale_walk (v o x0 x1 x2 : Int) (w : World) (hv : (Lit.int .i64 v).wf = true) (ho : (Lit.int .i64 o).wf = true) :
    Calls Try.prog 5 #[.int .i64 v, .int .i64 o, .agg #[.int .i64 x0, .int .i64 x1, .int .i64 x2]] w fun e w' => e = .returned (.bool true) ∧ Below w.heap.size w w' := by
  have HV := Lib.hid hv
  have HW := Lib.hid ho
  clear hv ho
  have HO0 := Lib.hid ((Only.refl (fun _ => False) w).alloc (.cells #[.int .i64 x0, .int .i64 x1, .int .i64 x2] 32))
  have HX := Lib.hid (At.new w 32 #[.int .i64 x0, .int .i64 x1, .int .i64 x2])
  go_enter Try.func5, Try.ntmps5
  go_wp2_with (fail)
  refine (awake_any _).mono ?_
  rintro e w1 ⟨rfl, hO1⟩
  have HO1 := Lib.hid (HO0.out.trans hO1)
  have hX1 := HX.out.only hO1 id
  have c0 := hX1.cell 0
  have c1 := hX1.cell 1
  have c2 := hX1.cell 2
  simp at c0 c1 c2
  clear hO1 hX1 HO0 HX
  by_cases hbad : v < 1 ∨ o < 0 ∨ v = o ∨ x0 < 1 ∨ 1000 < x0 ∨ x1 < 1 ∨ 1000 < x1 ∨ x2 < 1 ∨ 1000 < x2
  · have hb : v < 1 ∨ (¬ v < 1 ∧ o < 0) ∨ (¬ v < 1 ∧ ¬ o < 0 ∧ v = o) ∨ (¬ v < 1 ∧ ¬ o < 0 ∧ v ≠ o ∧ x0 < 1) ∨ (¬ v < 1 ∧ ¬ o < 0 ∧ v ≠ o ∧ ¬ x0 < 1 ∧ 1000 < x0) ∨ (¬ v < 1 ∧ ¬ o < 0 ∧ v ≠ o ∧ ¬ x0 < 1 ∧ ¬ 1000 < x0 ∧ x1 < 1) ∨
        (¬ v < 1 ∧ ¬ o < 0 ∧ v ≠ o ∧ ¬ x0 < 1 ∧ ¬ 1000 < x0 ∧ ¬ x1 < 1 ∧ 1000 < x1) ∨ (¬ v < 1 ∧ ¬ o < 0 ∧ v ≠ o ∧ ¬ x0 < 1 ∧ ¬ 1000 < x0 ∧ ¬ x1 < 1 ∧ ¬ 1000 < x1 ∧ x2 < 1) ∨
        (¬ v < 1 ∧ ¬ o < 0 ∧ v ≠ o ∧ ¬ x0 < 1 ∧ ¬ 1000 < x0 ∧ ¬ x1 < 1 ∧ ¬ 1000 < x1 ∧ ¬ x2 < 1 ∧ 1000 < x2) := by omega
    clear hbad
    rcases hb with h | ⟨h1, h2⟩ | ⟨h1, h2, h3⟩ | ⟨h1, h2, h3, h4⟩ | ⟨h1, h2, h3, h4, h5⟩ | ⟨h1, h2, h3, h4, h5, h6⟩ | ⟨h1, h2, h3, h4, h5, h6, h7⟩ | ⟨h1, h2, h3, h4, h5, h6, h7, h8⟩ | ⟨h1, h2, h3, h4, h5, h6, h7, h8, h9⟩
    all_goals
      try have h3' := beq_false_of_ne h3
      go_wp2
      go_ret
      exact ⟨rfl, HO1.out.below (Nat.le_refl _) (fun i hi h => h)⟩
  · have g1 : ¬ v < 1 := by omega
    have g2 : ¬ o < 0 := by omega
    have g3 : (v == o) = false := beq_false_of_ne (by omega)
    have g4 : ¬ x0 < 1 := by omega
    have g5 : ¬ 1000 < x0 := by omega
    have g6 : ¬ x1 < 1 := by omega
    have g7 : ¬ 1000 < x1 := by omega
    have g8 : ¬ x2 < 1 := by omega
    have g9 : ¬ 1000 < x2 := by omega
    obtain ⟨r1, k1⟩ := stale_no (v := v) (o := o) (x0 := x0) (x1 := x1) (x2 := x2) (by omega) (by omega) (by omega) (by omega) (by omega) (by omega) (by omega) (by omega) (by omega)
    obtain ⟨r2, k2⟩ := stale_yes (v := v) (o := o) (x0 := x0) (x1 := x1) (by omega) (by omega) (by omega) (by omega)
    have hA := At.new w1 30 #[.int .i64 1, .int .i64 v, .int .i64 9000, .int .i64 (9000 + x0), .int .i64 2, .int .i64 v, .int .i64 0, .int .i64 x1, .int .i64 2, .int .i64 o, .int .i64 2000, .int .i64 (2000 + x2)]
    have H1 := Lib.hid (check_any w1.heap.size 3 _ [⟨1, v, 9000, 9000 + x0⟩, ⟨2, v, 0, x1⟩, ⟨2, o, 2000, 2000 + x2⟩] _ (Rd.fresh hA _ rfl) (by simp) (by
      intro i hi
      match i, hi with
      | 0, _ => exact HV.out
      | 1, _ => exact HV.out
      | 2, _ => exact HW.out))
    rw [k1, right_eno r1] at H1
    have HO2 := Lib.hid (HO1.out.alloc (.cells #[.int .i64 1, .int .i64 v, .int .i64 9000, .int .i64 (9000 + x0), .int .i64 2, .int .i64 v, .int .i64 0, .int .i64 x1, .int .i64 2, .int .i64 o, .int .i64 2000, .int .i64 (2000 + x2)] 30))
    have HA := Lib.hid hA
    have K2 := Lib.hid k2
    have R2 := Lib.hid r2
    clear hA k1 k2 r1 r2 hbad
    simp only [List.length_cons, List.length_nil] at H1
    go_wp2_with (fail)
    refine H1.out.mono ?_
    rintro e w2 ⟨rfl, hO2⟩
    have hA2 := HA.out.only hO2 id
    have a11 := hA2.cell 11
    have f11 := hA2.frozen 11
    have hA3 := hA2.set 11 (.int .i64 (-1))
    have HO3 := Lib.hid ((HO2.out.trans hO2).setCell (p := ⟨w1.heap.size, 11, none⟩) (fun h => by have := HO1.out.size; simp at h; omega) (.int .i64 (-1)))
    have H2 := Lib.hid (check_any w1.heap.size 3 _ [⟨1, v, 9000, 9000 + x0⟩, ⟨2, v, 0, x1⟩, ⟨2, o, 2000, -1⟩] _ (Rd.fresh hA3 _ rfl) (by simp) (by
      intro i hi
      match i, hi with
      | 0, _ => exact HV.out
      | 1, _ => exact HV.out
      | 2, _ => exact HW.out))
    rw [K2.out, right_eno R2.out] at H2
    simp only [List.length_cons, List.length_nil] at H2
    simp at a11
    clear hA2 hA3 hO2 H1 HA HO1 HO2
    go_wp2_with (fail)
    refine H2.out.mono ?_
    rintro e w3 ⟨rfl, hO3⟩
    have HO4 := Lib.hid (HO3.out.trans hO3)
    clear hO3 H2
    go_wp2
    go_ret
    exact ⟨rfl, HO4.out.below (Nat.le_refl _) (fun i hi h => h)⟩
end Go.Proofs.Ytgedinpafnfmmaa
