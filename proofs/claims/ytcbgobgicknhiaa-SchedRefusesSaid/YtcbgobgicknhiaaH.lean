/- Sched: SchedNews, SchedPlays: walks. -/
import Derived.Test.YtcbgobgicknhiaaV
namespace Go.Proofs.Ytcbgobgicknhiaa
open Go.RowKit

theorem good_of {a p : Int} (h : badN a p = false) : 1 ≤ a ∧ a ≤ 32 ∧ 1 ≤ p ∧ p ≤ 1000 := by
  have hb : ¬ (a < 1 ∨ 32 < a ∨ p < 1 ∨ 1000 < p) := fun h' => by have := (badN_iff _ _).2 h'; simp [h] at this
  omega
theorem wait_rep (n : Nat) (i : Int) : waitI (List.replicate n 0) i = 0 := by
  unfold waitI
  split
  · simp only [List.getD, List.getElem?_replicate]; split <;> rfl
  · rfl

set_option maxHeartbeats 1000000 in
theorem schedNews_walk (a p t : Int) (w : World) :
    Calls Try.prog 3 #[.int .i64 a, .int .i64 p, .int .i64 t] w fun e w' => e = .returned (.bool true) ∧ Below w.heap.size w w' := by
  rcases hb : badN a p with _ | _
  · obtain ⟨h1, h2, h3, h4⟩ := good_of hb
    obtain ⟨n, rfl⟩ := Int.eq_ofNat_of_zero_le (show 0 ≤ a by omega)
    have HB := Lib.hid hb
    clear hb
    go_enter Try.func3, Try.ntmps3
    go_wp2_with (fail)
    refine (awake_any w).mono ?_
    rintro e w0 ⟨rfl, hO⟩
    have HO := Lib.hid hO
    clear hO
    go_wp2_with (fail)
    refine (new_good n p w0 HB.out).mono ?_
    rintro e w1 ⟨b, g, rfl, hb, hg, hbg, hS, hO⟩
    have HS := Lib.hid hS
    have HO1 := Lib.hid (HO.out.trans hO)
    clear hS hO HO
    go_wp2_with (fail)
    refine (refNew_good n p w1 HB.out).mono ?_
    rintro e w2 ⟨b', g', rfl, hb', hg', hbg', hS', hO'⟩
    have HO2 := Lib.hid (HO1.out.trans hO')
    have Hw := Lib.hid (waits_any b g (List.replicate n 0) p t w2 (HS.out.only hO' id id))
    clear hS' hO' HO1 HS
    rw [wait_rep] at Hw
    go_wp2_with (fail)
    refine Hw.out.mono ?_
    rintro e w3 ⟨rfl, hO⟩
    have HO3 := Lib.hid (HO2.out.trans hO)
    clear hO HO2 Hw
    go_wp2
    go_ret
    exact ⟨by simp, HO3.out.below (Nat.le_refl _) (fun i hi h => h)⟩
  · have HB := Lib.hid hb
    clear hb
    go_enter Try.func3, Try.ntmps3
    go_wp2_with (fail)
    refine (awake_any w).mono ?_
    rintro e w0 ⟨rfl, hO⟩
    have HO := Lib.hid hO
    clear hO
    go_wp2_with (fail)
    refine (new_bad a p w0 HB.out).mono ?_
    rintro e w1 ⟨rfl, rfl⟩
    go_wp2_with (fail)
    refine (refNew_bad a p w0 HB.out).mono ?_
    rintro e w1 ⟨rfl, rfl⟩
    go_wp2
    go_ret
    exact ⟨by simp, HO.out.below (Nat.le_refl _) (fun i hi h => h)⟩
end Go.Proofs.Ytcbgobgicknhiaa
