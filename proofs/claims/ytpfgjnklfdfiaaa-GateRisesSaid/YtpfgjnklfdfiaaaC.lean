/- Gate: the walks of GateSplits and GateRises. -/
import Derived.Test.YtpfgjnklfdfiaaaB
namespace Go.Proofs.Ytpfgjnklfdfiaaa
open Go.RowKit

set_option maxHeartbeats 400000 in
theorem gateSplits_walk (x0 x1 x2 x3 : Int) (w : World) :
    Calls Try.prog 3 #[.agg #[.int .i64 x0, .int .i64 x1, .int .i64 x2, .int .i64 x3]] w fun e w' => e = .returned (.bool true) ∧ Below w.heap.size w w' := by
  go_enter Try.func3, Try.ntmps3
  go_wp2_with (first | (go_at_call 8; refine (awake_any _).mono ?_; rintro e w' ⟨rfl, rfl⟩) | (go_at_call 9; refine (split_any _ _ _ _ _).mono ?_; rintro e w' ⟨rfl, rfl⟩) | (go_at_call 10; refine (refsplit_any _ _ _ _ _).mono ?_; rintro e w' ⟨rfl, rfl⟩))
  go_ret
  exact ⟨by simp, (Below.refl _ _).alloc (Nat.le_refl _) _⟩

theorem splitA_mono (x0 x1 x2 x3 more : Int) (h : bad x1 x2 x3 = false) (hm : x0 ≤ more) : splitA x0 x1 x2 x3 ≤ splitA more x1 x2 x3 := by
  have hb : ¬ (x1 < 0 ∨ x2 ≤ x1 ∨ 4096 < x2 ∨ x3 < 0 ∨ 256 < x3) := fun h' => by have := (bad_iff _ _ _).2 h'; simp [h] at this
  have hd : ∀ f, x1 < f → f < x2 → 0 ≤ x3 * (f - x1) / (x2 - x1) ∧ x3 * (f - x1) / (x2 - x1) ≤ x3 := fun f h1 h2 =>
    div_bd _ _ _ (Int.mul_nonneg (by omega) (by omega)) (by omega) (Int.mul_le_mul_of_nonneg_left (by omega) (by omega)) (by omega)
  simp only [splitA, h, Bool.false_eq_true, if_false]
  by_cases c1 : x0 ≤ x1
  · rw [if_pos c1]
    by_cases c2 : more ≤ x1
    · rw [if_pos c2]; omega
    · rw [if_neg c2]
      by_cases c3 : x2 ≤ more
      · rw [if_pos c3]; omega
      · rw [if_neg c3]; exact (hd more (by omega) (by omega)).1
  · rw [if_neg c1, if_neg (show ¬ more ≤ x1 by omega)]
    by_cases c2 : x2 ≤ x0
    · rw [if_pos c2, if_pos (show x2 ≤ more by omega)]; omega
    · rw [if_neg c2]
      by_cases c3 : x2 ≤ more
      · rw [if_pos c3]; exact (hd x0 (by omega) (by omega)).2
      · rw [if_neg c3]; exact Int.ediv_le_ediv (by omega) (Int.mul_le_mul_of_nonneg_left (by omega) (by omega))

theorem splitA_bd (x0 x1 x2 x3 : Int) (h : bad x1 x2 x3 = false) : 0 ≤ splitA x0 x1 x2 x3 ∧ splitA x0 x1 x2 x3 ≤ x3 := by
  have hb : ¬ (x1 < 0 ∨ x2 ≤ x1 ∨ 4096 < x2 ∨ x3 < 0 ∨ 256 < x3) := fun h' => by have := (bad_iff _ _ _).2 h'; simp [h] at this
  simp only [splitA, h, Bool.false_eq_true, if_false]
  split
  · omega
  · split
    · omega
    · exact div_bd _ _ _ (Int.mul_nonneg (by omega) (by omega)) (by omega) (Int.mul_le_mul_of_nonneg_left (by omega) (by omega)) (by omega)

set_option maxHeartbeats 4000000 in
theorem gateRises_walk (x0 x1 x2 x3 more : Int) (w : World) :
    Calls Try.prog 4 #[.agg #[.int .i64 x0, .int .i64 x1, .int .i64 x2, .int .i64 x3], .int .i64 more] w fun e w' => e = .returned (.bool true) ∧ Below w.heap.size w w' := by
  by_cases hb : bad x1 x2 x3 = true
  · have hA : ∀ f, splitA f x1 x2 x3 = 0 := fun f => by simp [splitA, hb]
    have hB : ∀ f, splitB f x1 x2 x3 = 0 := fun f => by simp [splitB, hb]
    have hs := fun (f : Int) (w : World) => split_any f x1 x2 x3 w
    simp only [hA, hB] at hs
    have Hs := Lib.hid hs; clear hs hA hB
    rw [bad_iff] at hb
    rcases hb with h | h | h | h | h
    all_goals
      go_enter Try.func4, Try.ntmps4
      go_wp2_with (first | (go_at_call 8; refine (awake_any _).mono ?_; rintro e w' ⟨rfl, rfl⟩) | (go_at_call 9; refine (Hs.out _ _).mono ?_; rintro e w' ⟨rfl, rfl⟩))
      all_goals (go_ret; exact ⟨rfl, (Below.refl _ _).alloc (Nat.le_refl _) _⟩)
  · have hb' : bad x1 x2 x3 = false := by simpa using hb
    rw [bad_iff] at hb
    have h1 : 0 ≤ x1 := by omega
    have h2 : x1 < x2 := by omega
    have h3 : x2 ≤ 4096 := by omega
    have h4 : 0 ≤ x3 := by omega
    have h5 : x3 ≤ 256 := by omega
    obtain ⟨a1, a2⟩ := splitA_bd x0 _ _ _ hb'
    obtain ⟨c1, c2⟩ := splitA_bd more _ _ _ hb'
    have hB : ∀ f, splitB f x1 x2 x3 = x3 - splitA f x1 x2 x3 := fun f => by simp [splitB, hb']
    have hm : x0 ≤ more → splitA x0 x1 x2 x3 ≤ splitA more x1 x2 x3 := splitA_mono x0 x1 x2 x3 more hb'
    have hl : x0 ≤ x1 → splitA x0 x1 x2 x3 ≤ 0 := fun h => by simp [splitA, hb', h]
    have hh : x2 ≤ x0 → x3 ≤ splitA x0 x1 x2 x3 := fun h => by simp [splitA, hb', show ¬ x0 ≤ x1 by omega, h]
    have hs := fun (f : Int) (w : World) => split_any f x1 x2 x3 w
    simp only [hB] at hs
    have Hs := Lib.hid hs; clear hs hB hb hb'
    have hs0 := fun w => Hs.out x0 w
    have hs1 := fun w => Hs.out more w
    generalize splitA x0 x1 x2 x3 = a at *
    generalize splitA more x1 x2 x3 = c at *
    have Hs0 := Lib.hid hs0
    have Hs1 := Lib.hid hs1
    clear Hs hs0 hs1
    have t1 : (a + (x3 - a) != x3) = false := by rw [bne_eq_false_iff_eq]; omega
    have t2 : (c + (x3 - c) != x3) = false := by rw [bne_eq_false_iff_eq]; omega
    have Hm := Lib.hid hm
    have Hl := Lib.hid hl
    have Hh := Lib.hid hh
    clear hm hl hh
    have e1 : more < x0 ∨ (x0 ≤ more ∧ a ≤ c) := by by_cases h : x0 ≤ more; exact .inr ⟨h, Hm.out h⟩; exact .inl (by omega)
    have e2 : x1 < x0 ∨ (x0 ≤ x1 ∧ a ≤ 0) := by by_cases h : x0 ≤ x1; exact .inr ⟨h, Hl.out h⟩; exact .inl (by omega)
    have e3 : x0 < x2 ∨ (x2 ≤ x0 ∧ x3 ≤ a) := by by_cases h : x2 ≤ x0; exact .inr ⟨h, Hh.out h⟩; exact .inl (by omega)
    clear Hm Hl Hh
    have E1 := Lib.hid e1
    have E2 := Lib.hid e2
    have E3 := Lib.hid e3
    clear e1 e2 e3
    go_enter Try.func4, Try.ntmps4
    go_wp2_with (first | (go_at_call 8; refine (awake_any _).mono ?_; rintro e w' ⟨rfl, rfl⟩) | fail)
    refine (Hs0.out _).mono ?_; rintro e w' ⟨rfl, rfl⟩
    go_wp2_with (fail)
    refine (Hs1.out _).mono ?_; rintro e w' ⟨rfl, rfl⟩
    go_wp2
    all_goals (
      go_ret
      have e1 := E1.out
      have e2 := E2.out
      have e3 := E3.out
      refine ⟨ret_b ?_, (Below.refl _ _).alloc (Nat.le_refl _) _⟩
      first | (simp; done) | (simp; omega))

end Go.Proofs.Ytpfgjnklfdfiaaa
