/- Gate: New, and the reference's functions. -/
import Derived.Test.YtpfgjnklfdfiaaaH
import Derived.Conc.SmallLaws
import Derived.RegionTactic
import Derived.ChangeAlike
namespace Go.Proofs.Ytpfgjnklfdfiaaa
open Go.RowKit Go.Conc

set_option maxHeartbeats 1000000 in
theorem new_bad (many : Int) (h : many < 1 ∨ 256 < many) (w : World) :
    Calls Try.prog 11 #[.int .i64 many] w fun e w' => e = .returned (.tuple #[.pointer none, .int .i64 1]) ∧ w' = w := by
  rcases h with h | h
  all_goals
    go_enter Try.func11, Try.ntmps11
    go_wp2
    all_goals (go_ret2; exact ⟨rfl, rfl⟩)

theorem gat_new (w : World) (many cu cm : Nat) (h : cu = w.heap.size ∧ cm = w.heap.size + 1 ∨ cm = w.heap.size ∧ cu = w.heap.size + 1) :
    GAt (((w.alloc (Obj.chan many #[] false 0 0 false)).alloc (Obj.chan many #[] false 0 0 false)).alloc (Obj.cells #[.int .i64 many, .chan (some cu), .chan (some cm)] 48)).drew (w.heap.size + 1 + 1) cu cm many 0 0 := by
  have h0 : ChAt (((w.alloc (Obj.chan many #[] false 0 0 false)).alloc (Obj.chan many #[] false 0 0 false)).alloc (Obj.cells #[.int .i64 many, .chan (some cu), .chan (some cm)] 48)).drew w.heap.size many 0 := ⟨0, 0, by
    show (((w.heap.push _).push _).push _)[_]? = _
    rw [Array.getElem?_push, if_neg (by simp only [Array.size_push]; omega), Array.getElem?_push, if_neg (by simp only [Array.size_push]; omega), Array.getElem?_push, if_pos rfl]; rfl⟩
  have h1 : ChAt (((w.alloc (Obj.chan many #[] false 0 0 false)).alloc (Obj.chan many #[] false 0 0 false)).alloc (Obj.cells #[.int .i64 many, .chan (some cu), .chan (some cm)] 48)).drew (w.heap.size + 1) many 0 := ⟨0, 0, by
    show (((w.heap.push _).push _).push _)[_]? = _
    rw [Array.getElem?_push, if_neg (by simp only [Array.size_push]; omega), Array.getElem?_push, if_pos (by simp only [Array.size_push])]; rfl⟩
  have hs : At (((w.alloc (Obj.chan many #[] false 0 0 false)).alloc (Obj.chan many #[] false 0 0 false)).alloc (Obj.cells #[.int .i64 many, .chan (some cu), .chan (some cm)] 48)).drew (w.heap.size + 1 + 1) 48 #[.int .i64 many, .chan (some cu), .chan (some cm)] := by
    show (((w.heap.push _).push _).push _)[_]? = _
    rw [Array.getElem?_push, if_pos (by simp)]
  rcases h with ⟨rfl, rfl⟩ | ⟨rfl, rfl⟩
  · exact ⟨hs, h0, h1, by omega, by omega, by omega⟩
  · exact ⟨hs, h1, h0, by omega, by omega, by omega⟩

set_option maxHeartbeats 2000000 in
theorem new_any (many : Nat) (h1 : 1 ≤ many) (h2 : many ≤ 256) (w : World) :
    Calls Try.prog 11 #[.int .i64 many] w fun e w' => ∃ b cu cm, e = .returned (.tuple #[.pointer (some ⟨b, 0, none⟩), .int .i64 0]) ∧ GAt w' b cu cm many 0 0 ∧ w.heap.size ≤ b ∧ w.heap.size ≤ cu ∧ w.heap.size ≤ cm ∧ Only (fun _ => False) w w' := by
  have hch := fun (w : World) => run_makeChan (P := Try.prog) (w := w) Try.underlying46 rfl .i64 many (by omega) (by show (1 : Int) * (many : Int) ≤ _; omega)
  go_enter Try.func11, Try.ntmps11
  go_wp2
  go_region
  all_goals (go_wp2; go_ret2)
  all_goals (refine ⟨_, _, _, rfl, gat_new w many _ _ (by simp), ?_, ?_, ?_, ((((Only.refl _ w).alloc _).alloc _).alloc _).drew⟩)
  all_goals omega

set_option maxHeartbeats 1000000 in
theorem refnew_bad (many : Int) (h : many < 1 ∨ 256 < many) (w : World) :
    Calls Try.prog 12 #[.int .i64 many] w fun e w' => e = .returned (.tuple #[.pointer none, .int .i64 1]) ∧ w' = w := by
  rcases h with h | h
  all_goals
    go_enter Try.func12, Try.ntmps12
    go_wp2
    all_goals (go_ret2; exact ⟨rfl, rfl⟩)

/-- The reference's gate: at block r. -/
def RAt (w : World) (r many nu nm : Nat) : Prop := ∃ z : Int, At w r 50 #[.int .i64 many, .int .i64 z, .int .i64 nu, .int .i64 nm]

set_option maxHeartbeats 1000000 in
theorem refnew_any (many : Nat) (h1 : 1 ≤ many) (h2 : many ≤ 256) (w : World) :
    Calls Try.prog 12 #[.int .i64 many] w fun e w' => ∃ r, e = .returned (.tuple #[.pointer (some ⟨r, 0, none⟩), .int .i64 0]) ∧ RAt w' r many 0 0 ∧ w.heap.size ≤ r ∧ Only (fun _ => False) w w' := by
  go_enter Try.func12, Try.ntmps12
  go_wp2
  all_goals go_ret2
  exact ⟨_, rfl, ⟨0, At.new _ _ _⟩, Nat.le_refl _, (Only.refl _ _).alloc _⟩

set_option maxHeartbeats 1000000 in
theorem refleft_any (r many nu nm : Nat) (kind : Int) (w : World) (h : RAt w r many nu nm) :
    Calls Try.prog 16 #[.pointer (some ⟨r, 0, none⟩), .int .i64 kind] w fun e w' => e = .returned (.int .i64 (leftN nu nm kind)) ∧ w' = w := by
  obtain ⟨z, h⟩ := h
  have c0 := h.cell 2
  have c1 := h.cell 3
  simp at c0 c1
  by_cases h1 : kind = 1
  · subst h1
    go_enter Try.func16, Try.ntmps16
    go_wp2
    all_goals (try go_ret)
    all_goals (first | exact ⟨rfl, rfl⟩ | skip)
  · by_cases h2 : kind = 2
    · subst h2
      go_enter Try.func16, Try.ntmps16
      go_wp2
      all_goals (try go_ret)
      all_goals (first | exact ⟨rfl, rfl⟩ | skip)
    · have e2 : leftN nu nm kind = 0 := by simp [leftN, h1, h2]
      rw [e2]
      have hh : kind < 1 ∨ 2 < kind := by omega
      clear h1 h2 e2
      rcases hh with hh | hh
      all_goals
        go_enter Try.func16, Try.ntmps16
        go_wp2
        all_goals (try go_ret)
        all_goals (first | exact ⟨rfl, rfl⟩ | skip)
end Go.Proofs.Ytpfgjnklfdfiaaa
