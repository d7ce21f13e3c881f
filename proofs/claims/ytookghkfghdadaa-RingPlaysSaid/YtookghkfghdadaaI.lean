/- Ring: the law RingNews, walked. -/
import Derived.Test.YtookghkfghdadaaH
namespace Go.Proofs.Ytookghkfghdadaa
open Go.RowKit

set_option maxHeartbeats 1000000 in
theorem refnew_bad (a : Int) (h : a < 1 ∨ 256 < a) (w : World) :
    Calls Try.prog 12 #[.int .i64 a] w fun e w' => e = .returned (.tuple #[.pointer none, .int .i64 1]) ∧ w' = w := by
  rcases h with h | h
  all_goals
    go_enter Try.func12, Try.ntmps12
    go_wp2
    all_goals (go_ret2; exact ⟨rfl, rfl⟩)

set_option maxHeartbeats 1000000 in
theorem refnew_any (n : Nat) (h1 : 1 ≤ n) (h2 : n ≤ 256) (w : World) :
    Calls Try.prog 12 #[.int .i64 n] w fun e w' => e = .returned (.tuple #[.pointer (some ⟨w.heap.size, 0, none⟩), .int .i64 0]) ∧ At w' w.heap.size 60 #[.int .i64 n, .slice none 0 0, .slice none 0 0] ∧ Only (fun _ => False) w w' := by
  go_enter Try.func12, Try.ntmps12
  go_wp2
  all_goals go_ret2
  refine ⟨rfl, At.new _ _ _, (Only.refl _ _).alloc _⟩

set_option maxRecDepth 100000 in
set_option maxHeartbeats 4000000 in
theorem ringNews_walk (a : Int) (w : World) :
    Calls Try.prog 3 #[.int .i64 a] w fun e w' => e = .returned (.bool true) ∧ Below w.heap.size w w' := by
  by_cases hbad : a < 1 ∨ 256 < a
  · have HN := Lib.hid (new_bad a hbad)
    have HN' := Lib.hid (refnew_bad a hbad)
    clear hbad
    go_enter Try.func3, Try.ntmps3
    go_wp2_with (fail)
    refine (awake_any _).mono ?_
    rintro e w1 ⟨rfl, hO⟩
    have HO := Lib.hid hO
    clear hO
    go_wp2_with (fail)
    refine (HN.out _).mono ?_
    rintro e w2 ⟨rfl, rfl⟩
    go_wp2_with (fail)
    refine (HN'.out _).mono ?_
    rintro e w3 ⟨rfl, rfl⟩
    go_wp2
    go_ret
    exact ⟨rfl, HO.out.below (Nat.le_refl _) (fun i hi h => h)⟩
  · obtain ⟨n, rfl⟩ : ∃ m : Nat, a = m := ⟨a.toNat, by omega⟩
    have n1 : 1 ≤ n := by omega
    have n2 : n ≤ 256 := by omega
    clear hbad
    have HN := Lib.hid (new_any n n1 n2)
    have HN' := Lib.hid (refnew_any n n1 n2)
    go_enter Try.func3, Try.ntmps3
    go_wp2_with (fail)
    refine (awake_any _).mono ?_
    rintro e w1 ⟨rfl, hO⟩
    have HO := Lib.hid hO
    clear hO
    go_wp2_with (fail)
    refine (HN.out _).mono ?_
    rintro e w2 ⟨b, g, rfl, hk, _, _, hO⟩
    have HO2 := Lib.hid (HO.out.trans hO)
    have HK2 := Lib.hid hk
    clear hk hO HO
    go_wp2_with (fail)
    refine (HN'.out _).mono ?_
    rintro e w3 ⟨rfl, _, hO⟩
    have HO3 := Lib.hid (HO2.out.trans hO)
    have hk3 := HK2.out.quiet hO
    have HH := Lib.hid (head_any b g 0 0 _ w3 hk3)
    have HT := Lib.hid (tail_any b g 0 0 _ w3 hk3)
    have HW := Lib.hid (waiting_any b g 0 0 _ w3 hk3)
    rw [waitN_end _ _ _ (by omega)] at HW
    have HK3 := Lib.hid hk3
    have hnn : ((n : Int) == (n : Int)) = true := by simp
    clear hk3 hO HO2 HK2
    go_wp2_with (fail)
    refine HH.out.mono ?_
    rintro e w4 ⟨rfl, rfl⟩
    go_wp2_with (fail)
    refine HT.out.mono ?_
    rintro e w5 ⟨rfl, rfl⟩
    go_wp2_with (fail)
    refine HW.out.mono ?_
    rintro e w6 ⟨rfl, hO⟩
    have HF := Lib.hid (free_any b g 0 0 _ w6 (HK3.out.quiet hO))
    rw [List.length_replicate, Nat.add_zero, Nat.sub_zero] at HF
    have HO6 := Lib.hid (HO3.out.trans hO)
    clear hO
    go_wp2_with (fail)
    refine HF.out.mono ?_
    rintro e w7 ⟨rfl, hO⟩
    have HO7 := Lib.hid (HO6.out.trans hO)
    clear hO
    go_wp2
    go_ret
    exact ⟨by simp, HO7.out.below (Nat.le_refl _) (fun i hi h => h)⟩
end Go.Proofs.Ytookghkfghdadaa
