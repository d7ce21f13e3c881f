/- Lines: awake. -/
import Derived.Test.YtlenjgofiocaaaaK
namespace Go.Proofs.Ytlenjgofiocaaaa
open Go.RowKit

def GA : Ge := ⟨1, 1, 2, 3, 1⟩
theorem GA_is : GA.Is := Ge.is_of (by decide)
def lA : List Ln := [⟨0, 5, 1⟩, ⟨0, 4, 1⟩]
theorem newA_ok : newOk GA [1, 1] [5, 4] := by
  refine ⟨by decide, by decide, by decide, ?_⟩
  intro i hi
  have : i = 0 ∨ i = 1 := by simp at hi; omega
  rcases this with rfl | rfl <;> decide
theorem newA_l : newL [1, 1] [5, 4] 2 = lA := by rfl
theorem lA_bst : (bst (flt lA 0 lA.length)).map (fun y => y.1) = some (1, ⟨0, 4, 1⟩) := by rfl
theorem lA_cap : capTo GA (lA.set 1 { (⟨0, 4, 1⟩ : Ln) with s := 1 }) 2 = 4 := by rfl

set_option maxHeartbeats 4000000 in
theorem awake_any (w : World) : Calls Try.prog 9 #[] w fun e w' => e = .returned (.bool true) ∧ Only (fun _ => False) w w' := by
  have o1 := (Only.refl (fun _ => False) w).alloc (.cells #[.int .i64 1, .int .i64 1] 3)
  have n1 := At.new w 3 #[.int .i64 1, .int .i64 1]
  have hs1 : (w.alloc (.cells #[.int .i64 1, .int .i64 1] 3)).heap.size = w.heap.size + 1 := by simp
  have o2 := o1.alloc (.cells #[.int .i64 5, .int .i64 4] 3)
  have n2 := At.new (w.alloc (.cells #[.int .i64 1, .int .i64 1] 3)) 3 #[.int .i64 5, .int .i64 4]
  rw [hs1] at n2
  have m2 := n1.alloc (.cells #[.int .i64 5, .int .i64 4] 3)
  have r1 : Rd ((w.alloc (.cells #[.int .i64 1, .int .i64 1] 3)).alloc (.cells #[.int .i64 5, .int .i64 4] 3)) w.heap.size (some ⟨w.heap.size, 0, none⟩) (iv [1, 1]) := .inr ⟨0, rfl, m2.lt, fun j u hj => by rw [Nat.zero_add, m2.cell]; simpa [iv] using hj⟩
  have r2 : Rd ((w.alloc (.cells #[.int .i64 1, .int .i64 1] 3)).alloc (.cells #[.int .i64 5, .int .i64 4] 3)) (w.heap.size + 1) (some ⟨w.heap.size + 1, 0, none⟩) (iv [5, 4]) := .inr ⟨0, rfl, n2.lt, fun j u hj => by rw [Nat.zero_add, n2.cell]; simpa [iv] using hj⟩
  have HN := Lib.hid (new_any GA GA_is.wf [1, 1] [5, 4] _ _ 2 2 _ _ _ r1 r2)
  have HO := Lib.hid o2
  unfold Ge.val GA at HN
  clear o1 n1 hs1 o2 n2 m2 r1 r2
  go_enter Try.func9, Try.ntmps9
  go_wp2_with (fail)
  refine HN.out.mono ?_
  rintro e w1 (⟨_, b, off, c, gb, rfl, k, hb1, hb2, hO⟩ | ⟨hno, _⟩)
  case inr => exact absurd newA_ok hno
  have k : LAt w1 b GA lA off c gb (-1) := k
  have HO1 := Lib.hid (HO.out.trans hO)
  have HLT : Hid (w.heap.size ≤ b ∧ w.heap.size ≤ gb) := Lib.hid (by have := HO.out.size; omega)
  clear hb1 hb2
  have HP := Lib.hid (open_any b off c gb GA lA (-1) w1 k (by decide))
  have HX := Lib.hid lA_bst
  clear hO k
  go_wp2_with (fail)
  refine HP.out.mono ?_
  intro e w2 h
  cases hb : bst (flt lA 0 lA.length) with
  | none => rw [hb] at HX; cases HX.out
  | some y =>
    rw [hb] at h HX
    have hy : y.1 = (1, ⟨0, 4, 1⟩) := by have := HX.out; simpa using this
    obtain ⟨rfl, k2, hO2⟩ := h
    rw [hy] at k2 ⊢
    have HC := Lib.hid (current_any b off c gb GA _ _ w2 k2)
    have HK := Lib.hid (capacity_any b off c gb GA GA_is _ (by intro x hx; simp [lA] at hx; rcases hx with rfl | rfl <;> decide) _ w2 k2)
    have HO2 := Lib.hid hO2
    clear hO2 k2 hb HX HP
    go_wp2_with (fail)
    refine HC.out.mono ?_
    rintro e w3 ⟨rfl, rfl⟩
    go_wp2_with (fail)
    refine HK.out.mono ?_
    rintro e w4 ⟨rfl, hO4⟩
    have HO4 := Lib.hid hO4
    have hcap : capTo GA (lA.set 1 { (⟨0, 4, 1⟩ : Ln) with s := 1 }) (lA.set 1 { (⟨0, 4, 1⟩ : Ln) with s := 1 }).length = 4 := lA_cap
    have HF : Hid (Only (fun _ => False) w w4) := Lib.hid ((HO1.out.trans' HO2.out (fun i hi h => by have := HLT.out; rcases h with h | h <;> omega)).trans hO4)
    rw [hcap]
    clear hO4 hcap
    go_wp2
    go_ret
    exact ⟨rfl, HF.out⟩
end Go.Proofs.Ytlenjgofiocaaaa
