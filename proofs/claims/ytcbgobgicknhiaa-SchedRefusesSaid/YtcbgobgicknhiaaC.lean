/- Sched: Pick's contract. -/
import Derived.Test.YtcbgobgicknhiaaB
import Derived.WalkMore
import Derived.ScopeJumps
namespace Go.Proofs.Ytcbgobgicknhiaa
open Go.RowKit

/-- How many of the first k are ready. -/
def cnt (rd : List Bool) : Nat → Nat
  | 0 => 0
  | k + 1 => cnt rd k + if rd.getD k false = true then 1 else 0

theorem cnt_le (rd : List Bool) (k : Nat) : cnt rd k ≤ k := by
  induction k with
  | zero => simp [cnt]
  | succ k ih => simp only [cnt]; split <;> omega
theorem cnt_mono (rd : List Bool) {j k : Nat} (h : j ≤ k) : cnt rd j ≤ cnt rd k := by
  induction k with
  | zero => obtain rfl : j = 0 := by omega
            exact Nat.le_refl _
  | succ k ih =>
    rcases Nat.lt_or_ge j (k + 1) with hj | hj
    · have := ih (by omega); simp only [cnt]; omega
    · obtain rfl : j = k + 1 := by omega
      exact Nat.le_refl _
theorem cnt_yes {rd : List Bool} {k : Nat} (h : rd.getD k false = true) : cnt rd (k + 1) = cnt rd k + 1 := by simp only [cnt]; rw [if_pos h]
theorem cnt_no {rd : List Bool} {k : Nat} (h : rd.getD k false = false) : cnt rd (k + 1) = cnt rd k := by simp only [cnt]; rw [if_neg (by rw [h]; simp)]; rfl

/-- The waits behind a pick of who. -/
def stepW (ws : List Int) (rd : List Bool) (who : Int) : List Int := ws.mapIdx fun i x => if decide ((i : Int) = who) || !rd.getD i false then 0 else x + 1
def bound (ws : List Int) (m : Int) : Prop := ∀ x ∈ ws, 0 ≤ x ∧ x ≤ m

/-- Where nobody is ready, or it isn't told of each. -/
def noneP (ws : List Int) (rd : List Bool) : Bool := decide (rd.length ≠ ws.length) || decide (cnt rd rd.length = 0)

set_option maxRecDepth 100000 in
set_option maxHeartbeats 2000000 in
theorem pick_none (b g gr c : Nat) (A : Option Addr) (ws : List Int) (rd : List Bool) (pat want : Int) (w : World) (h : SAt w b g 47 ws pat) (hlen : rd.length ≤ 9223372036854775807)
    (hrd : Rd w gr A (bl rd)) (hn : noneP ws rd = true) :
    Calls Try.prog 13 #[.pointer (some ⟨b, 0, none⟩), .slice A rd.length c, .int .i64 want] w fun e w' => e = .returned (.tuple #[.int .i64 0, .bool false]) ∧ w' = w := by
  have HRd := Lib.hid hrd
  have HS := Lib.hid h
  have HN := Lib.hid hn
  clear hrd h hn
  go_enter Try.func13, Try.ntmps13
  go_wp2
  go_loopw [8, 17] (fun m v wr => ∃ k : Nat, k ≤ rd.length ∧ v = .int .i64 k ∧ m = .int .i64 (cnt rd k) ∧ wr = w) (fun _ v _ => rd.length - (intOf v).toNat)
  case atStart => exact ⟨0, by omega, rfl, rfl, rfl⟩
  case round =>
    obtain ⟨k, hk, rfl, rfl, rfl⟩ := hrel
    have hcl := cnt_le rd k
    by_cases h1 : k < rd.length
    · have hl2 : (bl rd).length = rd.length := by simp
      obtain ⟨off, hA, hg, hc⟩ := HRd.out.at (by intro e; rw [e] at hl2; simp at hl2; omega)
      subst hA
      have c0 := hc k (.bool rd[k]) (by simp [h1])
      clear hc hl2
      by_cases hr : rd[k] = true
      · have Hs : Hid (cnt rd (k + 1) = cnt rd k + 1) := cnt_yes (by simp [List.getD, h1, hr])
        rw [hr] at c0
        clear hr
        go_wp2
        go_roundw
        case rel => exact ⟨k + 1, by omega, by simp, by rw [Hs.out]; simp, trivial⟩
        case measure => simp [intOf]; omega
      · have Hs : Hid (cnt rd (k + 1) = cnt rd k) := cnt_no (by simpa [List.getD, h1] using hr)
        have hr' : rd[k] = false := by simpa using hr
        rw [hr'] at c0
        clear hr hr'
        go_wp2
        go_roundw
        case rel => exact ⟨k + 1, by omega, by simp, by rw [Hs.out], trivial⟩
        case measure => simp [intOf]; omega
    · obtain rfl : k = rd.length := by omega
      have c0 := HS.out.st.cell 0
      simp at c0
      by_cases hl : rd.length = ws.length
      · have hl' : ((rd.length : Int) != (ws.length : Int)) = false := by simp [hl]
        have hm : ((cnt rd rd.length : Int) == 0) = true := by
          have := HN.out
          simp [noneP, hl] at this
          simp [hl, this]
        generalize cnt rd rd.length = m at *
        generalize rd.length = n at *
        generalize ws.length = n' at *
        clear hl
        go_wp2
        go_ret2
        exact ⟨rfl, rfl⟩
      · have hl' : ((rd.length : Int) != (ws.length : Int)) = true := by simpa [bne_iff_ne] using (by omega : ¬ (rd.length : Int) = ws.length)
        generalize cnt rd rd.length = m at *
        generalize rd.length = n at *
        generalize ws.length = n' at *
        clear hl
        go_wp2
        go_ret2
        exact ⟨rfl, rfl⟩
end Go.Proofs.Ytcbgobgicknhiaa
