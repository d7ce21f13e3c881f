/- Victim: contracts of may, held, Gain, of the program and of the reference. -/
import Derived.Test.YtbcjpchjidgpeaaM
import Derived.Deep.QuietTactic
import Derived.BigQuiet
namespace Go.Proofs.Ytbcjpchjidgpeaa
open Go.RowKit

/-- A line: its state, wear, good blocks, valid sectors, room. -/
structure Ln where
  st : Int
  we : Int
  go : Int
  va : Int
  ro : Int

abbrev Ln.val (x : Ln) : Value := .agg #[.int .i64 x.st, .int .i64 x.we, .int .i64 x.go, .int .i64 x.va, .int .i64 x.ro]
def Ln.cells (x : Ln) : List Value := [.int .i64 x.st, .int .i64 x.we, .int .i64 x.go, .int .i64 x.va, .int .i64 x.ro]
def lv (l : List Ln) : List Value := l.flatMap Ln.cells

/-- May it be moved? -/
def Ln.may (x : Ln) : Bool := x.st == 2 && decide (0 ≤ x.va) && decide (x.va < x.ro) && decide (x.ro ≤ 8192)

theorem may_eq (x : Ln) : x.may = (x.st == 2 && decide (0 ≤ x.va) && decide (x.va < x.ro) && decide (x.ro ≤ 8192)) := rfl

set_option maxHeartbeats 400000 in
theorem may_any (x : Ln) (w : World) :
    Calls Try.prog 17 #[x.val] w fun e w' => e = .returned (.bool x.may) ∧ Only (fun _ => False) w w' := by
  have Hm := Lib.hid (may_eq x)
  go_enter Try.func17, Try.ntmps17
  go_wp2
  all_goals
    go_ret
    refine ⟨ret_b ?_, (Only.refl _ _).alloc _⟩
    rw [Hm.out]
    first | (simp [*]; done) | (simp [*]; omega)

set_option maxHeartbeats 400000 in
theorem refMay_any (x : Ln) (w : World) :
    Calls Try.prog 19 #[x.val] w fun e w' => e = .returned (.bool x.may) ∧ Only (fun _ => False) w w' := by
  have Hm := Lib.hid (may_eq x)
  go_enter Try.func19, Try.ntmps19
  go_wp2
  all_goals
    go_ret
    refine ⟨ret_b ?_, (Only.refl _ _).alloc _⟩
    rw [Hm.out]
    first | (simp [*]; done) | (simp [*]; omega)

/-- How two lines are held against each other. -/
def heldI (x y : Ln) : Int := if x.va < y.va then -1 else if y.va < x.va then 1 else if x.we < y.we then -1 else if y.we < x.we then 1 else 0

theorem ta1 (n : Int) (w : World) : (Instr.typeAssert (.iface 41 (.int .i64 n)) 20 41 true).run Try.prog w = .ok (.tuple #[.int .i64 n, .bool true]) w := by kernel_rfl
theorem ta2 (n : Int) (w : World) : (Instr.typeAssert (.iface 43 (.int .i64 n)) 20 41 true).run Try.prog w = .ok (.tuple #[.int .i64 0, .bool false]) w := by kernel_rfl
theorem ta3 (n : Int) (w : World) : (Instr.typeAssert (.iface 43 (.int .i64 n)) 20 43 true).run Try.prog w = .ok (.tuple #[.int .i64 n, .bool true]) w := by kernel_rfl
theorem ta4 (w : World) : (Instr.typeAssert .nilIface 20 41 true).run Try.prog w = .ok (.tuple #[.int .i64 0, .bool false]) w := by kernel_rfl
theorem ta5 (w : World) : (Instr.typeAssert .nilIface 20 43 true).run Try.prog w = .ok (.tuple #[.int .i64 0, .bool false]) w := by kernel_rfl

/-- The differences as the program tells them. -/
inductive Diff (x y : Ln) : Value → Prop where
  | lt (h : x.va < y.va) : Diff x y (.iface 41 (.int .i64 (-1)))
  | gt (h : y.va < x.va) : Diff x y (.iface 41 (.int .i64 1))
  | ltw (h : x.va = y.va) (h' : x.we < y.we) : Diff x y (.iface 43 (.int .i64 (-1)))
  | gtw (h : x.va = y.va) (h' : y.we < x.we) : Diff x y (.iface 43 (.int .i64 1))
  | none (h : x.va = y.va) (h' : x.we = y.we) : Diff x y .nilIface

def UnlikePost (x y : Ln) (w : World) (e : Ending) (w' : World) : Prop := ∃ v, e = .returned v ∧ Diff x y v ∧ Only (fun _ => False) w w'

set_option maxHeartbeats 800000 in
theorem unlike_any (x y : Ln) (w : World) : Calls Try.prog 23 #[x.val, y.val] w (UnlikePost x y w) := by
  go_enter Try.func23, Try.ntmps23
  go_wp2
  all_goals
    go_ret
    first
      | exact ⟨_, rfl, .lt (by assumption), ((Only.refl _ _).alloc _).alloc _⟩
      | exact ⟨_, rfl, .gt (by assumption), ((Only.refl _ _).alloc _).alloc _⟩
      | exact ⟨_, rfl, .ltw (by omega) (by assumption), ((Only.refl _ _).alloc _).alloc _⟩
      | exact ⟨_, rfl, .gtw (by omega) (by assumption), ((Only.refl _ _).alloc _).alloc _⟩
      | exact ⟨_, rfl, .none (by omega) (by omega), ((Only.refl _ _).alloc _).alloc _⟩

set_option maxHeartbeats 800000 in
theorem held_any (x y : Ln) (w : World) :
    Calls Try.prog 18 #[x.val, y.val] w fun e w' => e = .returned (.int .i64 (heldI x y)) ∧ Only (fun _ => False) w w' := by
  have ta1 := ta1
  have ta2 := ta2
  have ta3 := ta3
  have ta4 := ta4
  have ta5 := ta5
  go_enter Try.func18, Try.ntmps18
  go_wp2_with (fail)
  refine (unlike_any x y _).mono ?_
  rintro e w1 ⟨v, rfl, hD, hO⟩
  have HO := Lib.hid hO
  clear hO
  cases hD with
  | lt h =>
    have Hh : Hid (heldI x y = -1) := by show heldI x y = -1; simp [heldI, h]
    clear h
    go_wp2
    go_ret
    exact ⟨ret_i Hh.out.symm, (((Only.refl _ _).alloc _).alloc _).trans HO.out⟩
  | gt h =>
    have Hh : Hid (heldI x y = 1) := by show heldI x y = 1; unfold heldI; rw [if_neg (by omega), if_pos h]
    clear h
    go_wp2
    go_ret
    exact ⟨ret_i Hh.out.symm, (((Only.refl _ _).alloc _).alloc _).trans HO.out⟩
  | ltw h h' =>
    have Hh : Hid (heldI x y = -1) := by show heldI x y = -1; unfold heldI; rw [if_neg (by omega), if_neg (by omega), if_pos h']
    clear h h'
    go_wp2
    go_ret
    exact ⟨ret_i Hh.out.symm, (((Only.refl _ _).alloc _).alloc _).trans HO.out⟩
  | gtw h h' =>
    have Hh : Hid (heldI x y = 1) := by show heldI x y = 1; unfold heldI; rw [if_neg (by omega), if_neg (by omega), if_neg (by omega), if_pos h']
    clear h h'
    go_wp2
    go_ret
    exact ⟨ret_i Hh.out.symm, (((Only.refl _ _).alloc _).alloc _).trans HO.out⟩
  | none h h' =>
    have Hh : Hid (heldI x y = 0) := by show heldI x y = 0; unfold heldI; rw [if_neg (by omega), if_neg (by omega), if_neg (by omega), if_neg (by omega)]
    clear h h'
    go_wp2
    go_ret
    exact ⟨ret_i Hh.out.symm, (((Only.refl _ _).alloc _).alloc _).trans HO.out⟩

end Go.Proofs.Ytbcjpchjidgpeaa
