/- Top: an empty ring, empty queues. -/
import Derived.Test.YtjobaplioidogaaGreatY
namespace Go.Proofs.YtjobaplioidogaaGreat
open Go.RowKit

/-- A ring in which nothing is. -/
def RgAt (w : World) (rb : Nat) : Prop := ∃ v, At w rb 211 #[v, .int .i64 0, .int .i64 0]
theorem RgAt.only {w w' : World} {rb : Nat} {S : Nat → Prop} (h : RgAt w rb) (o : Only S w w') (hs : ¬ S rb) : RgAt w' rb := by
  obtain ⟨v, h⟩ := h
  exact ⟨v, h.only o hs⟩

set_option maxRecDepth 100000 in
set_option maxHeartbeats 4000000 in
theorem ringNew_any (n : Nat) (hn : 1 ≤ n ∧ n ≤ 256) (w : World) :
    Calls Tryz.prog 64 #[.int .i64 n] w fun e w' => ∃ rb, e = .returned (.tuple #[.pointer (some ⟨rb, 0, none⟩), .int .i64 0]) ∧ RgAt w' rb ∧ w.heap.size ≤ rb ∧ Only (fun _ => False) w w' := by
  obtain ⟨i0, hi⟩ : ∃ i, Tryz.prog.info? 248 = some i := ⟨_, rfl⟩
  obtain ⟨z, hz⟩ : ∃ z, i0.zero = some z := by cases hi; exact ⟨_, rfl⟩
  have hb : i0.bytes ≤ 1000 := by cases hi; decide
  have hmk := run_make (P := Tryz.prog) w 209 248 i0 z Tryz.underlying209 hi hz .i64 .i64 n n (by omega) (by omega) (by have : (i0.bytes : Int) * n ≤ 1000 * 256 := Int.mul_le_mul (by omega) (by omega) (by omega) (by omega); omega) (by omega)
  generalize madeCells z.cells ((n : Int).toNat * i0.size) = cs at *
  simp only [Int.toNat_natCast] at hmk
  have d1 : decide ((n : Int) < 1) = false := decide_eq_false (by omega)
  have d2 : decide ((256 : Int) < n) = false := decide_eq_false (by omega)
  have d1' : decide (n < 1) = false := decide_eq_false (by omega)
  have d2' : decide (256 < n) = false := decide_eq_false (by omega)
  clear hi hz hb
  go_enter Tryz.func64, Tryz.ntmps64
  go_wp2
  go_ret2
  exact ⟨w.heap.size + 1, rfl, ⟨_, At.new' (w := w.alloc (.cells cs 248)) (by simp) 211 _⟩, by omega, ((Only.refl (fun _ => False) w).alloc _).alloc _⟩
set_option maxHeartbeats 4000000 in
theorem queueNew_any (n : Nat) (hn : 1 ≤ n ∧ n ≤ 4) (w : World) :
    Calls Tryz.prog 65 #[.int .i64 n] w fun e w' => ∃ qb, e = .returned (.tuple #[.pointer (some ⟨qb, 0, none⟩), .int .i64 0]) ∧ w.heap.size ≤ qb ∧ Only (fun _ => False) w w' := by
  have d1 : decide ((n : Int) < 1) = false := decide_eq_false (by omega)
  have d2 : decide ((4 : Int) < n) = false := decide_eq_false (by omega)
  have d1' : decide (n < 1) = false := decide_eq_false (by omega)
  have d2' : decide (4 < n) = false := decide_eq_false (by omega)
  go_enter Tryz.func65, Tryz.ntmps65
  go_wp2
  go_ret2
  exact ⟨w.heap.size, rfl, Nat.le_refl _, (Only.refl (fun _ => False) w).alloc _⟩

set_option maxHeartbeats 4000000 in
theorem ringHead_any (rb : Nat) (w : World) (k : RgAt w rb) : Calls Tryz.prog 116 #[.pointer (some ⟨rb, 0, none⟩)] w fun e w' => e = .returned (.int .i64 0) ∧ w' = w := by
  obtain ⟨v, k⟩ := k
  have c2 := k.cell 2
  simp only [List.getElem?_toArray, List.getElem?_cons_zero, List.getElem?_cons_succ] at c2
  clear k
  go_enter Tryz.func116, Tryz.ntmps116
  go_wp2
  go_ret
  exact ⟨rfl, rfl⟩

set_option maxHeartbeats 4000000 in
theorem ringFind_none (rb : Nat) (x : Int) (w : World) (k : RgAt w rb) : Calls Tryz.prog 166 #[.pointer (some ⟨rb, 0, none⟩), .int .i64 x] w fun e w' => e = .returned (.tuple #[.int .i64 0, .bool false]) ∧ w' = w := by
  obtain ⟨v, k⟩ := k
  have c1 := k.cell 1
  have c2 := k.cell 2
  simp only [List.getElem?_toArray, List.getElem?_cons_zero, List.getElem?_cons_succ] at c1 c2
  clear k
  go_enter Tryz.func166, Tryz.ntmps166
  go_wp2_with (fail)
  go_loopw [6, 7] (fun v6 v7 wr => v6 = .int .i64 (-1) ∧ wr = w) (fun _ _ _ => 0)
  case atStart => exact ⟨rfl, rfl⟩
  case round =>
    obtain ⟨rfl, rfl⟩ := hrel
    go_wp2
    go_ret2
    exact ⟨rfl, rfl⟩
end Go.Proofs.YtjobaplioidogaaGreat
