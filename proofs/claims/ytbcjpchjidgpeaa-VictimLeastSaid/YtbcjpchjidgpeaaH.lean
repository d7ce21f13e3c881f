/- Victim: two neighbouring runs change places. -/
import Derived.Test.YtbcjpchjidgpeaaG
namespace Go.Proofs.Ytbcjpchjidgpeaa
open Go.RowKit

/-- What stands at a place when [a, m) and [m, b) have changed places. -/
def rotF (d : List Nat) (a m b p : Nat) : Nat := if p < a ∨ b ≤ p then ix d p else if p < a + (b - m) then ix d (p + (m - a)) else ix d (p - (b - m))
theorem rot_left (d : List Nat) (m i j : Nat) (hi : i ≤ m) (hij : j < i) (hj : 0 < j) (hl : m + j ≤ d.length) (p : Nat) :
    rotF (swr d (m - i) m j) (m - (i - j)) m (m + j) p = rotF d (m - i) m (m + j) p := by
  have h := swr_ix d (m - i) m j (by omega) hl
  unfold rotF
  rw [h, h, h]
  repeat' split
  all_goals first | omega | rfl | (congr 1; omega)
theorem rot_right (d : List Nat) (m i j : Nat) (hi : i ≤ m) (hij : i < j) (hj : 0 < i) (hl : m + j ≤ d.length) (p : Nat) :
    rotF (swr d (m - i) (m + j - i) i) (m - i) m (m + (j - i)) p = rotF d (m - i) m (m + j) p := by
  have h := swr_ix d (m - i) (m + j - i) i (by omega) (by omega)
  unfold rotF
  rw [h, h, h]
  repeat' split
  all_goals first | omega | rfl | (congr 1; omega)
theorem rot_end (d : List Nat) (m i : Nat) (hi : i ≤ m) (hl : m + i ≤ d.length) (p : Nat) :
    ix (swr d (m - i) m i) p = rotF d (m - i) m (m + i) p := by
  have h := swr_ix d (m - i) m i (by omega) (by omega)
  unfold rotF
  rw [h]
  repeat' split
  all_goals first | omega | rfl | (congr 1; omega)

def RotP (A : Option Addr) (c g : Nat) (n : Nat) (d : List Nat) (a m b : Nat) (w : World) (e : Ending) (w' : World) : Prop :=
  ∃ d' : List Nat, e = .returned (.tuple #[]) ∧ d'.Perm d ∧ (∀ p, ix d' p = rotF d a m b p) ∧ RowAt w' A n c g 3 1 (nv d') ∧ Only (fun i => i = g) w w'

set_option maxRecDepth 100000 in
set_option maxHeartbeats 8000000 in
theorem rotate_any (A : Option Addr) (c g : Nat) (d : List Nat) (a m b : Nat) (cl : Value) (n : Nat) (hn : d.length = n) (w : World) (h : RowAt w A n c g 3 1 (nv d)) (h1 : a < m) (h2 : m < b) (h3 : b ≤ n) (h4 : n ≤ 100000) :
    Calls Try.prog 27 #[.slice A n c, .int .i64 a, .int .i64 m, .int .i64 b, cl] w (RotP A c g n d a m b w) := by
  have HR := Lib.hid h
  have HN := Lib.hid hn
  clear hn h
  unfold RotP
  go_enter Try.func27, Try.ntmps27
  go_wp2_with (fail)
  go_loopw [10, 11] (fun v10 v11 wr => ∃ (i j : Nat) (e : List Nat), 0 < i ∧ 0 < j ∧ i ≤ m - a ∧ j ≤ b - m ∧ v10 = .int .i64 i ∧ v11 = .int .i64 j ∧ e.Perm d ∧ (∀ p, rotF e (m - i) m (m + j) p = rotF d a m b p) ∧ RowAt wr A n c g 3 1 (nv e) ∧ Only (fun i => i = g) w wr) (fun v10 v11 _ => (intOf v10 + intOf v11).toNat)
  case atStart => exact ⟨m - a, b - m, d, by omega, by omega, by omega, by omega, by rw [Int.ofNat_sub (by omega)], by rw [Int.ofNat_sub (by omega)], List.Perm.refl _, fun p => by rw [show m - (m - a) = a by omega, show m + (b - m) = b by omega], HR.out, Only.refl _ _⟩
  case round =>
    obtain ⟨i, j, e, hi, hj, him, hjm, rfl, rfl, hp, hrot, hrow, hO⟩ := hrel
    have hel : e.length = n := by rw [hp.length_eq, HN.out]
    have HP := Lib.hid hp
    have HROT := Lib.hid hrot
    have HROW := Lib.hid hrow
    have HO := Lib.hid hO
    have HEL := Lib.hid hel
    clear hp hrot hrow hO hel
    have e1 : ((m : Int) - i) = ((m - i : Nat) : Int) := by omega
    by_cases hij : i = j
    · subst hij
      have t1 : ((i : Int) != (i : Int)) = false := by simp
      have HS := Lib.hid (swapRange_any A c g e (m - i) m i cl n HEL.out wr HROW.out (by omega) (by omega) h4)
      rw [Int.ofNat_sub (by omega)] at HS
      clear e1
      go_wp2_with (fail)
      refine HS.out.mono ?_
      rintro e w1 ⟨rfl, hr1, hO1⟩
      have HR1 := Lib.hid hr1
      have HO1 := Lib.hid (HO.out.trans hO1)
      clear hr1 hO1
      go_wp2
      refine bodyPost_end (results_none rfl _ _ _) rfl ?_
      exact ⟨_, rfl, (swr_perm _ _ _ _ (by omega) (by rw [HEL.out]; omega)).trans HP.out, fun p => by rw [rot_end _ _ _ (by omega) (by rw [HEL.out]; omega)]; exact HROT.out p, HR1.out, HO1.out⟩
    · have t1 : ((i : Int) != (j : Int)) = true := by simpa using fun e : (i : Int) = j => hij (by omega)
      by_cases hlt : j < i
      · have t2 : (j : Int) < i := by omega
        have HS := Lib.hid (swapRange_any A c g e (m - i) m j cl n HEL.out wr HROW.out (by omega) (by omega) h4)
        rw [Int.ofNat_sub (by omega)] at HS
        have i0 : (0 : Int) ≤ (i : Int) - j := by omega
        clear e1
        go_wp2_with (fail)
        refine HS.out.mono ?_
        rintro e' w1 ⟨rfl, hr1, hO1⟩
        have HR1 := Lib.hid hr1
        have HO1 := Lib.hid (HO.out.trans hO1)
        clear hr1 hO1
        go_wp2
        go_roundw
        case rel => exact ⟨i - j, j, _, by omega, hj, by omega, hjm, by rw [Int.ofNat_sub (by omega)], rfl, (swr_perm _ _ _ _ (by omega) (by rw [HEL.out]; omega)).trans HP.out, fun p => by rw [rot_left _ _ _ _ (by omega) hlt hj (by rw [HEL.out]; omega)]; exact HROT.out p, HR1.out, HO1.out⟩
        case measure => simp [intOf]; omega
      · have t2 : ¬ (j : Int) < i := by omega
        have HS := Lib.hid (swapRange_any A c g e (m - i) (m + j - i) i cl n HEL.out wr HROW.out (by omega) (by omega) h4)
        rw [Int.ofNat_sub (by omega), Int.ofNat_sub (by omega), Int.natCast_add] at HS
        have i0 : (0 : Int) ≤ (j : Int) - i := by omega
        clear e1
        go_wp2_with (fail)
        refine HS.out.mono ?_
        rintro e' w1 ⟨rfl, hr1, hO1⟩
        have HR1 := Lib.hid hr1
        have HO1 := Lib.hid (HO.out.trans hO1)
        clear hr1 hO1
        go_wp2
        go_roundw
        case rel => exact ⟨i, j - i, _, hi, by omega, him, by omega, rfl, by rw [Int.ofNat_sub (by omega)], (swr_perm _ _ _ _ (by omega) (by rw [HEL.out]; omega)).trans HP.out, fun p => by rw [rot_right _ _ _ _ (by omega) (by omega) hi (by rw [HEL.out]; omega)]; exact HROT.out p, HR1.out, HO1.out⟩
        case measure => simp [intOf]; omega
end Go.Proofs.Ytbcjpchjidgpeaa
