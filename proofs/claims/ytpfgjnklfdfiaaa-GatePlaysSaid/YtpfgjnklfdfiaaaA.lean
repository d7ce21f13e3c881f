/- Gate: contracts of Split, the reference's Split. -/
import Derived.Test.YtpfgjnklfdfiaaaRows
import Derived.Test.YtpfgjnklfdfiaaaM
import Derived.WalkKit
import Derived.WalkSpells
import Derived.WalkLawsBesides
import Derived.Lib.Hide
namespace Go.Proofs.Ytpfgjnklfdfiaaa
open Go.RowKit

def bad (low high many : Int) : Bool := decide (low < 0) || decide (high ≤ low) || decide (4096 < high) || decide (many < 0) || decide (256 < many)

def splitA (free low high many : Int) : Int := if bad low high many then 0 else if free ≤ low then 0 else if high ≤ free then many else many * (free - low) / (high - low)
def splitB (free low high many : Int) : Int := if bad low high many then 0 else many - splitA free low high many

theorem div_bd (n d m : Int) (h0 : 0 ≤ n) (h1 : 0 < d) (h2 : n ≤ m * d) (hm : 0 ≤ m): 0 ≤ n / d ∧ n / d ≤ m := by
  constructor
  · exact Int.ediv_nonneg h0 (by omega)
  · have := Int.ediv_le_ediv h1 h2
    rwa [Int.mul_ediv_cancel _ (by omega)] at this


theorem bad_iff (low high many : Int) : bad low high many = true ↔ (low < 0 ∨ high ≤ low ∨ 4096 < high ∨ many < 0 ∨ 256 < many) := by
  simp [bad, Bool.or_eq_true, or_assoc]

set_option maxHeartbeats 400000 in
theorem split_any (free low high many : Int) (w : World) :
    Calls Try.prog 9 #[.int .i64 free, .int .i64 low, .int .i64 high, .int .i64 many] w fun e w' => e = .returned (.tuple #[.int .i64 (splitA free low high many), .int .i64 (splitB free low high many)]) ∧ w = w' := by
  by_cases hb : bad low high many = true
  · have hA : splitA free low high many = 0 := by simp [splitA, hb]
    have hB : splitB free low high many = 0 := by simp [splitB, hb]
    rw [hA, hB]
    rw [bad_iff] at hb
    rcases hb with h | h | h | h | h
    all_goals
      go_enter Try.func9, Try.ntmps9
      go_wp2
      all_goals (go_ret2; exact ⟨rfl, rfl⟩)
  · have hb' : bad low high many = false := by simpa using hb
    rw [bad_iff] at hb
    have h1 : 0 ≤ low := by omega
    have h2 : low < high := by omega
    have h3 : high ≤ 4096 := by omega
    have h4 : 0 ≤ many := by omega
    have h5 : many ≤ 256 := by omega
    clear hb
    by_cases hl : free ≤ low
    · have hA : splitA free low high many = 0 := by simp [splitA, hb', hl]
      have hB : splitB free low high many = many := by simp [splitB, hb', hA]
      rw [hA, hB]; clear hA hB hb'
      go_enter Try.func9, Try.ntmps9
      go_wp2
      all_goals (go_ret2; exact ⟨rfl, rfl⟩)
    · by_cases hh : high ≤ free
      · have hA : splitA free low high many = many := by simp [splitA, hb', hl, hh]
        have hB : splitB free low high many = 0 := by simp [splitB, hb', hA]
        rw [hA, hB]; clear hA hB hb'
        go_enter Try.func9, Try.ntmps9
        go_wp2
        all_goals (go_ret2; exact ⟨rfl, rfl⟩)
      · have hA : splitA free low high many = many * (free - low) / (high - low) := by simp [splitA, hb', hl, hh]
        have hB : splitB free low high many = many - many * (free - low) / (high - low) := by simp [splitB, hb', hA]
        rw [hA, hB]; clear hA hB hb'
        have g0 : 0 ≤ many * (free - low) := Int.mul_nonneg h4 (by omega)
        have g1 : many * (free - low) ≤ 256 * 4096 := Int.mul_le_mul h5 (by omega) (by omega) (by omega)
        obtain ⟨g2, g3⟩ := div_bd (many * (free - low)) (high - low) many g0 (by omega) (Int.mul_le_mul_of_nonneg_left (by omega) h4) h4
        go_enter Try.func9, Try.ntmps9
        go_wp2
        all_goals (go_ret2; exact ⟨rfl, rfl⟩)
end Go.Proofs.Ytpfgjnklfdfiaaa
