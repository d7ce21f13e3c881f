/- Hist: the reference's Check; the law HistChecks. -/
import Derived.Test.YtgedinpafnfmmaaO
namespace Go.Proofs.Ytgedinpafnfmmaa
open Go.RowKit

theorem order_any (l : List Dd) (c : Nat) (A : Option Addr) (g : Nat) (hm : mayAll l) (hn : l.length ≤ 10) : ∀ (m : Nat) (lf : List Nat) (v : Int), lf.length ≤ m → lf.length ≤ 10 → OrdC l c A g lf v
  | 0, lf, v, h, h10 => order_step l c A g hm hn lf v h10 (fun lf' v' h' => by omega)
  | m + 1, lf, v, h, h10 => order_step l c A g hm hn lf v h10 (fun lf' v' h' => order_any l c A g hm hn m lf' v' (by omega) (by omega))

theorem sel_all (l : List Dd) : sel l (List.range l.length) = l := by
  unfold sel
  apply List.ext_getElem
  · simp
  · intro i h1 h2
    simp [gt_eq h2]
theorem chk_ser {l : List Dd} (h : right l = true) : chk l = serB l 0 := by
  rw [Bool.eq_iff_iff, chk_iff h, serB_iff]
theorem nvl_succ (i : Nat) : nvl (List.range (i + 1)) = nvl (List.range i) ++ [.int .i64 (i : Int)] := by simp [nvl, List.range_succ]
theorem nvl_len (i : Nat) : (nvl (List.range i)).length = i := by simp [nvl]

set_option maxRecDepth 100000 in
set_option maxHeartbeats 8000000 in
theorem refCheck_any (g c : Nat) (A : Option Addr) (l : List Dd) (w : World) (hr : Rd w g A (dv l)) (hlen : l.length ≤ 9223372036854775807) :
    Calls Try.prog 11 #[.slice A l.length c] w fun e w' => e = .returned (.tuple #[.bool (chk l), .int .i64 (eno l)]) ∧ Only (fun _ => False) w w' := by
  obtain ⟨ti, hi⟩ : ∃ i, Try.prog.info? 3 = some i := ⟨_, rfl⟩
  have hz0 : ti.zero = some (.int .i64 0) := by cases hi; rfl
  have hz1 : ti.size = 1 := by cases hi; rfl
  have hz2 : ti.bytes = 8 := by cases hi; rfl
  have HI := Lib.hid (And.intro hi (And.intro hz0 (And.intro hz1 hz2)))
  have HR := Lib.hid hr
  have H0 := Lib.hid (refRight_any g c A l w hr hlen)
  clear hr hi hz0 hz1 hz2
  cases hrl : right l
  · rw [hrl] at H0
    have HC := Lib.hid (chk_wrong hrl)
    have HE := Lib.hid (wrong_eno hrl)
    clear hrl
    go_enter Try.func11, Try.ntmps11
    go_wp2_with (fail)
    refine H0.out.mono ?_
    rintro e w1 ⟨rfl, hO⟩
    have HO := Lib.hid hO
    clear hO H0
    go_wp2
    go_ret2
    exact ⟨by rw [HC.out, HE.out]; rfl, HO.out⟩
  · rw [hrl] at H0
    have HC := Lib.hid (chk_ser hrl)
    have HE := Lib.hid (right_eno hrl)
    have HM := Lib.hid (right_may hrl)
    have hn10 : l.length ≤ 10 := by simp [right] at hrl; exact hrl.2
    clear hrl
    obtain ⟨n, hn⟩ : ∃ n, l.length = n := ⟨_, rfl⟩
    have HN := Lib.hid hn
    rw [hn] at H0 hn10 ⊢
    clear hn
    go_enter Try.func11, Try.ntmps11
    go_wp2_with (fail)
    refine H0.out.mono ?_
    rintro e w1 ⟨rfl, hO⟩
    have HO := Lib.hid hO
    clear hO H0
    go_wp2_with (fail)
    go_loopw [4, 5] (fun v4 v5 wr => ∃ (i : Nat) (A2 : Option Addr) (c2 : Nat), i ≤ n ∧ v5 = .int .i64 i ∧ v4 = .slice A2 i c2 ∧ i ≤ c2 ∧ wr.ownsRow w.heap.size 3 1 (.slice A2 i c2) i (nvl (List.range i)) ∧ Only (fun _ => False) w wr) (fun _ v5 wr => (n - intOf v5).toNat)
    case atStart => exact ⟨0, none, 0, by omega, rfl, rfl, by omega, World.ownsRow_nil _ _ _ _, HO.out⟩
    case round =>
      obtain ⟨i, A2, c2, hi, rfl, rfl, hic, hown, hO⟩ := hrel
      have HOW := Lib.hid hown
      have HOr := Lib.hid hO
      clear hown hO HO
      by_cases hin : i < n
      · have i0 : (0 : Int) ≤ i := by omega
        have i1 : (i : Int) < n := by omega
        have HNX : Hid (∀ (W : World) (A' : Option Addr) (c' : Nat), W.ownsRow w.heap.size 3 1 (.slice A' (i + 1) c') (i + 1) (nvl (List.range i) ++ [.int .i64 (i : Int)]) → W.ownsRow w.heap.size 3 1 (.slice A' (i + 1) c') (i + 1) (nvl (List.range (i + 1)))) := Lib.hid (fun W A' c' h => by rw [nvl_succ]; exact h)
        have hnw := At.new wr 3 #[.int .i64 (i : Int)]
        have HNW := Lib.hid (Rd.fresh hnw _ rfl)
        have HOWA := Lib.hid (HOW.out.alloc (.cells #[.int .i64 (i : Int)] 3))
        have HOA := Lib.hid (HOr.out.alloc (.cells #[.int .i64 (i : Int)] 3))
        have hsz := HOr.out.size
        clear hnw
        go_wp2_with (at_builtin; go_loud (refine wpList_append_src _ rfl (.tmp 15) (.tmp 17) 28 rfl w.heap.size 3 ti (.int .i64 0) 1 8 Try.underlying28 HI.out.1 HI.out.2.1 HI.out.2.2.1 HI.out.2.2.2 rfl (by decide) (.slice A2 i c2) i (nvl (List.range i)) rfl HOWA.out wr.heap.size (some ⟨wr.heap.size, 0, none⟩) 1 1 [.int .i64 (i : Int)] rfl rfl HNW.out (by simp [Value.oneCell']) (by unfold maxLen; omega) (by omega) (by simp; omega) ?_); intro A3 c3 w2 hc3 hown2 hg2 hat2; have HO2 := Lib.hid (HOA.out.append HOWA.out hg2 (fun i hi hb => by omega)); have HW2 := Lib.hid (HNX.out w2 A3 c3 hown2); clear hown2 hg2 hat2 HOA HOWA HNW)
        go_roundw
        case rel => exact ⟨i + 1, A3, c3, by omega, by simp, rfl, hc3, HW2.out, HO2.out⟩
        case measure => simp [intOf]; omega
      · obtain rfl : i = n := by omega
        have i1 : ¬ (i : Int) < i := by omega
        obtain ⟨hc3', gF, hF⟩ := own_any_row HOW.out
        have H1 := Lib.hid (order_any l c A g HM.out (by rw [HN.out]; exact hn10) i (List.range l.length) 0 (by simp [HN.out]) (by simp [HN.out]; omega) gF c2 A2 wr (by simp [HN.out]; exact hic) hc3' (fun p hp => by simpa using hp) (HR.out.only HOr.out id) (by rw [HN.out]; exact hF))
        rw [sel_all, List.length_range, HN.out, ← HC.out] at H1
        clear hF hic
        go_wp2_with (fail)
        refine H1.out.mono ?_
        rintro e w2 ⟨rfl, hO2⟩
        have HO2 := Lib.hid (HOr.out.trans hO2)
        clear hO2 H1
        go_wp2
        go_ret2
        exact ⟨by rw [HE.out]; rfl, HO2.out⟩

set_option maxRecDepth 100000 in
set_option maxHeartbeats 8000000 in
theorem histChecks_walk (g c : Nat) (A : Option Addr) (l : List Dd) (w : World) (hr : Rd w g A (dv l)) (hlen : l.length ≤ 9223372036854775807) (hwf : wfL l) :
    Calls Try.prog 3 #[.slice A l.length c] w fun e w' => e = .returned (.bool true) ∧ Below w.heap.size w w' := by
  have HR := Lib.hid hr
  have HW := Lib.hid hwf
  clear hr hwf
  by_cases hmid : 7 < l.length ∧ l.length ≤ 10
  · obtain ⟨h1, h2⟩ := hmid
    have i1 : (7 : Int) < l.length := by omega
    have i2 : (l.length : Int) ≤ 10 := by omega
    go_enter Try.func3, Try.ntmps3
    go_wp2_with (fail)
    refine (awake_any _).mono ?_
    rintro e w1 ⟨rfl, hO1⟩
    go_wp2
    go_ret
    exact ⟨rfl, hO1.below (Nat.le_refl _) (fun i hi h => h)⟩
  have hm2 : ¬ (7 : Int) < l.length ∨ ((7 : Int) < l.length ∧ ¬ (l.length : Int) ≤ 10) := by omega
  clear hmid
  rcases hm2 with i1 | ⟨i1, i2⟩
  all_goals
    go_enter Try.func3, Try.ntmps3
    go_wp2_with (fail)
    refine (awake_any _).mono ?_
    rintro e w1 ⟨rfl, hO1⟩
    have HO1 := Lib.hid hO1
    have H1 := Lib.hid (check_any g c A l w1 (HR.out.only hO1 id) hlen HW.out)
    clear hO1
    go_wp2_with (fail)
    refine H1.out.mono ?_
    rintro e w2 ⟨rfl, hO2⟩
    have HO2 := Lib.hid (HO1.out.trans hO2)
    have H2 := Lib.hid (refCheck_any g c A l w2 (HR.out.only HO2.out id) hlen)
    clear hO2 H1
    go_wp2_with (fail)
    refine H2.out.mono ?_
    rintro e w3 ⟨rfl, hO3⟩
    have HO3 := Lib.hid (HO2.out.trans hO3)
    have H3 := Lib.hid (right_any g c A l w3 (HR.out.only HO3.out id) hlen)
    clear hO3 H2
    generalize chk l = cl at *
    generalize eno l = el at *
    go_wp2_with (fail)
    refine H3.out.mono ?_
    rintro e w4 ⟨rfl, hO4⟩
    have HO4 := Lib.hid (HO3.out.trans hO4)
    have H4 := Lib.hid (refRight_any g c A l w4 (HR.out.only HO4.out id) hlen)
    clear hO4 H3
    go_wp2_with (fail)
    refine H4.out.mono ?_
    rintro e w5 ⟨rfl, hO5⟩
    have HO5 := Lib.hid (HO4.out.trans hO5)
    clear hO5 H4
    generalize right l = rl at *
    have q1 : (rl == rl) = true := by simp
    have q2 : (cl == cl) = true := by simp
    have q3 : (el == el) = true := by simp
    go_wp2
    go_ret
    exact ⟨by simp, HO5.out.below (Nat.le_refl _) (fun i hi h => h)⟩
end Go.Proofs.Ytgedinpafnfmmaa
