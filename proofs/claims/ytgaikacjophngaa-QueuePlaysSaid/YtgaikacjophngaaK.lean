/- Queue: Same, of two jobs that are the same. -/
import Derived.Test.YtgaikacjophngaaJ
namespace Go.Proofs.Ytgaikacjophngaa
open Go.RowKit

theorem iv_get (l : List Int) (m : Nat) (h : m < l.length) : (iv l)[m]? = some (.int .i64 l[m]) := by simp [iv, h]

set_option maxRecDepth 100000 in
set_option maxHeartbeats 4000000 in
theorem same_true (k l u p : Int) (pos : List Int) (A A' : Option Addr) (c c' g g' : Nat) (w : World) (hr : Rd w g A (iv pos)) (hr' : Rd w g' A' (iv pos)) (hl : pos.length ≤ 1000000) :
    Calls Try.prog 14 #[.agg #[.int .i64 k, .int .i64 l, .int .i64 u, .int .i64 p, .slice A pos.length c], .agg #[.int .i64 k, .int .i64 l, .int .i64 u, .int .i64 p, .slice A' pos.length c']] w
      fun e w' => e = .returned (.bool true) ∧ Only (fun _ => False) w w' := by
  have hO := (((Only.refl (fun _ => False) w).alloc (.cells #[.int .i64 k, .int .i64 l, .int .i64 u, .int .i64 p, .slice A pos.length c] 31)).alloc (.cells #[.int .i64 k, .int .i64 l, .int .i64 u, .int .i64 p, .slice A' pos.length c'] 31))
  have hX := (At.new w 31 #[.int .i64 k, .int .i64 l, .int .i64 u, .int .i64 p, .slice A pos.length c]).alloc (.cells #[.int .i64 k, .int .i64 l, .int .i64 u, .int .i64 p, .slice A' pos.length c'] 31)
  have hY := At.new' (g := w.heap.size + 1) (w := (w.alloc (.cells #[.int .i64 k, .int .i64 l, .int .i64 u, .int .i64 p, .slice A pos.length c] 31))) (by simp) 31 #[.int .i64 k, .int .i64 l, .int .i64 u, .int .i64 p, .slice A' pos.length c']
  have HX := Lib.hid hX
  have HY := Lib.hid hY
  have HO := Lib.hid hO
  have HR := Lib.hid (hr.only hO id)
  have HR' := Lib.hid (hr'.only hO id)
  clear hX hY hr hr' hO
  have tk : (k != k) = false := by simp
  have tl : (l != l) = false := by simp
  have tu : (u != u) = false := by simp
  have tp : (p != p) = false := by simp
  go_enter Try.func14, Try.ntmps14
  go_wp2_with (fail)
  generalize hw1 : (w.alloc (.cells #[.int .i64 k, .int .i64 l, .int .i64 u, .int .i64 p, .slice A pos.length c] 31)).alloc (.cells #[.int .i64 k, .int .i64 l, .int .i64 u, .int .i64 p, .slice A' pos.length c'] 31) = w1 at *
  clear hw1
  go_loopw [5] (fun v wr => ∃ m : Nat, m ≤ pos.length ∧ v = .int .i64 m ∧ Only (fun _ => False) w1 wr) (fun v wr => (pos.length - intOf v).toNat)
  case atStart => exact ⟨0, by omega, rfl, Only.refl _ _⟩
  case round =>
    obtain ⟨m, hm, rfl, hOm⟩ := hrel
    have x4 : wr.cell? ⟨w.heap.size, 4, none⟩ = some (.slice A pos.length c) := (HX.out.only hOm id).cell 4
    have y4 : wr.cell? ⟨w.heap.size + 1, 4, none⟩ = some (.slice A' pos.length c') := (HY.out.only hOm id).cell 4
    have HOm := Lib.hid hOm
    clear hOm
    by_cases hmm : m < pos.length
    · have hne : iv pos ≠ [] := by
        intro e
        have := iv_len pos
        rw [e] at this; simp at this; omega
      obtain ⟨off, hA, hlt, hget⟩ := (HR.out.only HOm.out id).at hne
      obtain ⟨off', hA', hlt', hget'⟩ := (HR'.out.only HOm.out id).at hne
      have e0 := hget m _ (iv_get pos m hmm)
      have e1 := hget' m _ (iv_get pos m hmm)
      have hi1 : (m : Int) < pos.length := by omega
      have hi0 : (0 : Int) ≤ m := by omega
      rw [hA] at x4 ⊢
      rw [hA'] at y4 ⊢
      generalize pos[m] = z at *
      have tz : (z != z) = false := by simp
      clear hget hget' hA hA'
      go_wp2_with (fail)
      go_region
      go_wp2
      go_roundw
      case rel => exact ⟨m + 1, by omega, by simp, HOm.out.drew⟩
      case measure => simp [intOf]; omega
    · obtain rfl : m = pos.length := by omega
      go_wp2
      go_ret
      exact ⟨rfl, HO.out.trans HOm.out⟩
end Go.Proofs.Ytgaikacjophngaa
