/- Gate: contracts of the reference's Split, of awake. -/
import Derived.Test.YtpfgjnklfdfiaaaA
namespace Go.Proofs.Ytpfgjnklfdfiaaa
open Go.RowKit

set_option maxHeartbeats 400000 in
theorem refsplit_any (free low high many : Int) (w : World) :
    Calls Try.prog 10 #[.int .i64 free, .int .i64 low, .int .i64 high, .int .i64 many] w fun e w' => e = .returned (.tuple #[.int .i64 (splitA free low high many), .int .i64 (splitB free low high many)]) ∧ w = w' := by
  by_cases hb : bad low high many = true
  · have hA : splitA free low high many = 0 := by simp [splitA, hb]
    have hB : splitB free low high many = 0 := by simp [splitB, hb]
    rw [hA, hB]
    rw [bad_iff] at hb
    rcases hb with h | h | h | h | h
    all_goals
      go_enter Try.func10, Try.ntmps10
      go_wp2
      all_goals (go_ret2; exact ⟨rfl, rfl⟩)
  · have hb' : bad low high many = false := by simpa using hb
    rw [bad_iff] at hb
    have h1 : 0 ≤ low := by omega
    have h2 : low < high := by omega
    have h3 : high ≤ 4096 := by omega
    have h4 : 0 ≤ many := by omega
    have h5 : many ≤ 256 := by omega
    clear hb
    by_cases hl : free ≤ low
    · have hA : splitA free low high many = 0 := by simp [splitA, hb', hl]
      have hB : splitB free low high many = many := by simp [splitB, hb', hA]
      rw [hA, hB]; clear hA hB hb'
      go_enter Try.func10, Try.ntmps10
      go_wp2
      all_goals (go_ret2; exact ⟨rfl, rfl⟩)
    · by_cases hh : high ≤ free
      · have hA : splitA free low high many = many := by simp [splitA, hb', hl, hh]
        have hB : splitB free low high many = 0 := by simp [splitB, hb', hA]
        rw [hA, hB]; clear hA hB hb'
        go_enter Try.func10, Try.ntmps10
        go_wp2
        all_goals (go_ret2; exact ⟨rfl, rfl⟩)
      · have hA : splitA free low high many = many * (free - low) / (high - low) := by simp [splitA, hb', hl, hh]
        have hB : splitB free low high many = many - many * (free - low) / (high - low) := by simp [splitB, hb', hA]
        rw [hA, hB]; clear hA hB hb'
        have g0 : 0 ≤ many * (free - low) := Int.mul_nonneg h4 (by omega)
        have g1 : many * (free - low) ≤ 256 * 4096 := Int.mul_le_mul h5 (by omega) (by omega) (by omega)
        obtain ⟨g2, g3⟩ := div_bd (many * (free - low)) (high - low) many g0 (by omega) (Int.mul_le_mul_of_nonneg_left (by omega) h4) h4
        have g4 : ∀ a : Int, a ≤ many * (free - low) / (high - low) ↔ a * (high - low) ≤ many * (free - low) := fun a => Int.le_ediv_iff_mul_le (by omega)
        have G4 := Lib.hid g4; clear g4
        generalize hq : many * (free - low) / (high - low) = q at *
        clear hq
        go_enter Try.func10, Try.ntmps10
        go_wp2
        go_loop [10] (fun v => ∃ n : Int, 0 ≤ n ∧ n ≤ q ∧ v = .int .i64 n) (fun v => (q - intOf v).toNat)
        case atStart => exact ⟨0, by omega, by omega, rfl⟩
        case round =>
          obtain ⟨n, n0, n1, rfl⟩ := hrel
          have k0 : (n + 1) * (high - low) ≤ 257 * 4096 := Int.mul_le_mul (by omega) (by omega) (by omega) (by omega)
          have k1 : 0 ≤ (n + 1) * (high - low) := Int.mul_nonneg (by omega) (by omega)
          by_cases hc : n < q
          · have c1 : n < many := by omega
            have c2 : (n + 1) * (high - low) ≤ many * (free - low) := (G4.out (n + 1)).1 (by omega)
            go_wp2
            go_round
            case rel => exact ⟨n + 1, by omega, by omega, rfl⟩
            case measure => simp [intOf]; omega
          · obtain rfl : n = q := by omega
            by_cases c1 : n < many
            · have c2 : ¬ (n + 1) * (high - low) ≤ many * (free - low) := fun h => by have := (G4.out (n + 1)).2 h; omega
              go_wp2
              go_ret2
              exact ⟨rfl, rfl⟩
            · go_wp2
              go_ret2
              exact ⟨rfl, rfl⟩


theorem awake_any (w : World) : Calls Try.prog 8 #[] w fun e w' => e = .returned (.bool true) ∧ w = w' := by
  go_enter Try.func8, Try.ntmps8
  have hA : splitA 3 2 6 8 = 2 := by decide
  have hB : splitB 3 2 6 8 = 6 := by decide
  have hs := fun w => split_any 3 2 6 8 w
  rw [hA, hB] at hs
  have Hs := Lib.hid hs; clear hs hA hB
  go_wp2_with (go_at_call 9; refine (Hs.out _).mono ?_; rintro e w' ⟨rfl, rfl⟩)
  go_ret
  exact ⟨rfl, rfl⟩

end Go.Proofs.Ytpfgjnklfdfiaaa
