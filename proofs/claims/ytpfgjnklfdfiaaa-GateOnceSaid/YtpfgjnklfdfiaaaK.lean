/- Gate: Fill, and the reference's. -/
import Derived.Test.YtpfgjnklfdfiaaaJ
import Derived.Test.YtpfgjnklfdfiaaaB
import Derived.WalkMore
namespace Go.Proofs.Ytpfgjnklfdfiaaa
open Go.RowKit Go.Conc

theorem splitA_bd' (x0 x1 x2 x3 : Int) (h : bad x1 x2 x3 = false) : 0 ≤ splitA x0 x1 x2 x3 ∧ splitA x0 x1 x2 x3 ≤ x3 := by
  have hb : ¬ (x1 < 0 ∨ x2 ≤ x1 ∨ 4096 < x2 ∨ x3 < 0 ∨ 256 < x3) := fun h' => by have := (bad_iff _ _ _).2 h'; simp [h] at this
  simp only [splitA, h, Bool.false_eq_true, if_false]
  split
  · omega
  · split
    · omega
    · exact div_bd _ _ _ (Int.mul_nonneg (by omega) (by omega)) (by omega) (Int.mul_le_mul_of_nonneg_left (by omega) (by omega)) (by omega)

theorem split_nat (x0 x1 x2 : Int) (many : Nat) : ∃ a b : Nat, splitA x0 x1 x2 many = a ∧ splitB x0 x1 x2 many = b ∧ a + b ≤ many := by
  cases h : bad x1 x2 many
  · have := splitA_bd' x0 x1 x2 many h
    refine ⟨(splitA x0 x1 x2 many).toNat, (many - splitA x0 x1 x2 many).toNat, by omega, ?_, by omega⟩
    simp only [splitB, h, Bool.false_eq_true, if_false]; omega
  · exact ⟨0, 0, by simp [splitA, h], by simp [splitB, h], by omega⟩

set_option maxHeartbeats 2000000 in
theorem reffill_any (r many nu nm a b : Nat) (x0 x1 x2 : Int) (w : World) (h : RAt w r many nu nm) (hA : splitA x0 x1 x2 many = a) (hB : splitB x0 x1 x2 many = b) :
    Calls Try.prog 18 #[.pointer (some ⟨r, 0, none⟩), .int .i64 x0, .int .i64 x1, .int .i64 x2] w fun e w' => e = .returned (.tuple #[]) ∧ RAt w' r many a b ∧ Only (fun i => i = r) w w' := by
  have hs := fun w => refsplit_any x0 x1 x2 many w
  rw [hA, hB] at hs
  have Hs := Lib.hid hs
  clear hs hA hB
  obtain ⟨z, h⟩ := h
  have c0 := h.cell 0
  have c1 := h.cell 1
  have c2 := h.cell 2
  have c3 := h.cell 3
  have f1 := h.frozen 1
  have f2 := h.frozen 2
  have f3 := h.frozen 3
  simp at c0 c1 c2 c3
  go_enter Try.func18, Try.ntmps18
  go_wp2_with (fail)
  refine (Hs.out _).mono ?_
  rintro e w1 ⟨rfl, rfl⟩
  go_wp2
  go_end0
  exact ⟨rfl, ⟨0, ((h.set 1 _).set 2 _).set 3 _⟩, (Only.setCell (S := fun i => i = r) (p := ⟨r, 3, none⟩) (Only.setCell (S := fun i => i = r) (p := ⟨r, 2, none⟩) (Only.setCell (S := fun i => i = r) (p := ⟨r, 1, none⟩) (Only.refl _ _) (fun _ => rfl) _) (fun _ => rfl) _) (fun _ => rfl) _)⟩

end Go.Proofs.Ytpfgjnklfdfiaaa
