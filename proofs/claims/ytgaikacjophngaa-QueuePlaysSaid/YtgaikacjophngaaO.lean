/- Queue: the law QueueNews, walked. -/
import Derived.Test.YtgaikacjophngaaK
namespace Go.Proofs.Ytgaikacjophngaa
open Go.RowKit

set_option maxHeartbeats 1000000 in
theorem refnew_bad (a : Int) (h : a < 1 ∨ 4 < a) (w : World) :
    Calls Try.prog 15 #[.int .i64 a] w fun e w' => e = .returned (.tuple #[.pointer none, .int .i64 1]) ∧ w' = w := by
  rcases h with h | h
  all_goals
    go_enter Try.func15, Try.ntmps15
    go_wp2
    all_goals (go_ret2; exact ⟨rfl, rfl⟩)

set_option maxHeartbeats 1000000 in
theorem refnew_any (n : Nat) (h1 : 1 ≤ n) (h2 : n ≤ 4) (w : World) :
    Calls Try.prog 15 #[.int .i64 n] w fun e w' => e = .returned (.tuple #[.pointer (some ⟨w.heap.size, 0, none⟩), .int .i64 0]) ∧ At w' w.heap.size 55 #[.int .i64 n, .slice none 0 0] ∧ Only (fun _ => False) w w' := by
  go_enter Try.func15, Try.ntmps15
  go_wp2
  all_goals go_ret2
  refine ⟨rfl, At.new _ _ _, (Only.refl _ _).alloc _⟩

theorem not_in (chans : Nat) (n : Int) : ¬ isInA chans (fun _ => []) n := fun ⟨_, _, h⟩ => h rfl

set_option maxRecDepth 100000 in
set_option maxHeartbeats 4000000 in
theorem queueNews_walk (a n : Int) (w : World) :
    Calls Try.prog 5 #[.int .i64 a, .int .i64 n] w fun e w' => e = .returned (.bool true) ∧ Below w.heap.size w w' := by
  by_cases hbad : a < 1 ∨ 4 < a
  · have HN := Lib.hid (new_bad a hbad)
    have HN' := Lib.hid (refnew_bad a hbad)
    clear hbad
    go_enter Try.func5, Try.ntmps5
    go_wp2_with (fail)
    refine (awake_any _).mono ?_
    rintro e w1 ⟨rfl, hO⟩
    have HO := Lib.hid hO
    clear hO
    go_wp2_with (fail)
    refine (HN.out _).mono ?_
    rintro e w2 ⟨rfl, rfl⟩
    go_wp2_with (fail)
    refine (HN'.out _).mono ?_
    rintro e w3 ⟨rfl, rfl⟩
    go_wp2
    go_ret
    exact ⟨rfl, HO.out.below (Nat.le_refl _) (fun i hi h => h)⟩
  · obtain ⟨m, rfl⟩ : ∃ m : Nat, a = m := ⟨a.toNat, by omega⟩
    have m1 : 1 ≤ m := by omega
    have m2 : m ≤ 4 := by omega
    clear hbad
    have HN := Lib.hid (fun (w' : World) (h : w.heap.size ≤ w'.heap.size) => qi_new m m1 m2 w.heap.size w' h)
    have HN' := Lib.hid (refnew_any m m1 m2)
    go_enter Try.func5, Try.ntmps5
    go_wp2_with (fail)
    refine (awake_any _).mono ?_
    rintro e w1 ⟨rfl, hO⟩
    have HO := Lib.hid hO
    clear hO
    go_wp2_with (fail)
    refine (HN.out _ HO.out.size).mono ?_
    rintro e w2 ⟨b, rfl, hq, hO⟩
    have HO2 := Lib.hid (HO.out.trans hO)
    have HQ2 := Lib.hid hq
    clear hq hO HO
    go_wp2_with (fail)
    refine (HN'.out _).mono ?_
    rintro e w3 ⟨rfl, _, hO⟩
    have HO3 := Lib.hid (HO2.out.trans hO)
    have HQ3 := Lib.hid (HQ2.out.quiet hO)
    clear hO HO2 HQ2
    have HF := Lib.hid (qi_first_none n HQ3.out (not_in _ _))
    go_wp2_with (fail)
    refine HF.out.mono ?_
    rintro e w4 ⟨rfl, hO⟩
    have HA := Lib.hid (At.new w4 31 #[.int .i64 0, .int .i64 0, .int .i64 0, .int .i64 0, .slice none 0 0])
    have HO4 := Lib.hid ((HO3.out.trans hO).alloc (.cells #[.int .i64 0, .int .i64 0, .int .i64 0, .int .i64 0, .slice none 0 0] 31))
    have HQ4 := Lib.hid ((HQ3.out.quiet hO).quiet ((Only.refl _ _).alloc (.cells #[.int .i64 0, .int .i64 0, .int .i64 0, .int .i64 0, .slice none 0 0] 31)))
    have HS := Lib.hid (same_true 0 0 0 0 [] none none 0 0 0 0 _ (rd_nil (w4.alloc (.cells #[.int .i64 0, .int .i64 0, .int .i64 0, .int .i64 0, .slice none 0 0] 31)) 0) (rd_nil _ 0) (by simp) : Calls Try.prog 14 #[.agg #[.int .i64 0, .int .i64 0, .int .i64 0, .int .i64 0, .slice none 0 0], .agg #[.int .i64 0, .int .i64 0, .int .i64 0, .int .i64 0, .slice none 0 0]] _ _)
    clear hO HO3 HQ3 HF
    simp only [zeroJob]
    go_wp2_with (fail)
    refine HS.out.mono ?_
    rintro e w5 ⟨rfl, hO⟩
    have HO5 := Lib.hid (HO4.out.trans hO)
    have HQ5 := Lib.hid (HQ4.out.quiet hO)
    have HL := Lib.hid (qi_len_zero n HQ5.out (not_in _ _))
    clear hO HO4 HQ4 HS
    go_wp2_with (fail)
    refine HL.out.mono ?_
    rintro e w6 ⟨rfl, rfl⟩
    have HBb := Lib.hid (qi_busy 0 HQ5.out (fun i _ => by simp))
    go_wp2_with (fail)
    refine HBb.out.mono ?_
    rintro e w7 ⟨rfl, hO⟩
    have HO7 := Lib.hid (HO5.out.trans hO)
    clear hO
    go_wp2
    go_ret
    exact ⟨by simp [busyA, cntA], HO7.out.below (Nat.le_refl _) (fun i hi h => h)⟩
end Go.Proofs.Ytgaikacjophngaa
