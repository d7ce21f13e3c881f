/- Hist: operations; may one be, may a history be. -/
import Derived.Test.YtgedinpafnfmmaaA
import Derived.BigQuiet
namespace Go.Proofs.Ytgedinpafnfmmaa
open Go.RowKit

/-- An operation: its kind, its value, when it began and ended. -/
structure Dd where
  k : Int
  v : Int
  b : Int
  e : Int
def Dd.cells (x : Dd) : List Value := [.int .i64 x.k, .int .i64 x.v, .int .i64 x.b, .int .i64 x.e]
def Dd.val (x : Dd) : Value := .agg #[.int .i64 x.k, .int .i64 x.v, .int .i64 x.b, .int .i64 x.e]
def dv (l : List Dd) : List Value := l.flatMap Dd.cells
def Dd.may (x : Dd) : Bool := (x.k == 1 || x.k == 2) && decide (0 ≤ x.v) && decide (0 ≤ x.b) && (x.e == -1 || decide (x.b < x.e))
def right (l : List Dd) : Bool := l.all Dd.may && decide (l.length ≤ 10)
def Dd.before (x y : Dd) : Bool := !(x.e == -1) && decide (x.e < y.b)

theorem dv_len (l : List Dd) : (dv l).length = l.length * 4 := by
  induction l with
  | nil => rfl
  | cons x t ih => simp only [dv, List.flatMap_cons, List.length_append, List.length_cons] at *; rw [ih]; simp [Dd.cells]; omega
theorem dv_get (l : List Dd) (i j : Nat) (hi : i < l.length) (hj : j < 4) : (dv l)[i * 4 + j]? = (l[i]).cells[j]? := by
  induction l generalizing i with
  | nil => simp at hi
  | cons x t ih =>
    have hc : x.cells.length = 4 := rfl
    cases i with
    | zero =>
      simp only [dv, List.flatMap_cons, Nat.zero_mul, Nat.zero_add, List.getElem_cons_zero]
      rw [List.getElem?_append_left (by omega)]
    | succ i =>
      simp only [dv, List.flatMap_cons, List.getElem_cons_succ]
      rw [List.getElem?_append_right (by omega)]
      have := ih i (by simpa using hi)
      rw [← this]
      congr 1
      omega
/-- The four cells of an operation. -/
structure DdAt (w : World) (g o : Nat) (x : Dd) : Prop where
  c0 : w.cell? ⟨g, o, none⟩ = some (.int .i64 x.k)
  c1 : w.cell? ⟨g, o + 1, none⟩ = some (.int .i64 x.v)
  c2 : w.cell? ⟨g, o + 2, none⟩ = some (.int .i64 x.b)
  c3 : w.cell? ⟨g, o + 3, none⟩ = some (.int .i64 x.e)
theorem DdAt.of {w : World} {g off : Nat} {l : List Dd} (h : ∀ (j : Nat) (u : Value), (dv l)[j]? = some u → w.cell? ⟨g, off + j, none⟩ = some u) (i : Nat) (hi : i < l.length) : DdAt w g (off + i * 4) l[i] := by
  have hh : ∀ j, j < 4 → ∀ u, (l[i]).cells[j]? = some u → w.cell? ⟨g, off + i * 4 + j, none⟩ = some u := by
    intro j hj u hu
    have := h (i * 4 + j) u (by rw [dv_get l i j hi hj]; exact hu)
    rwa [← Nat.add_assoc] at this
  exact ⟨hh 0 (by omega) _ rfl, hh 1 (by omega) _ rfl, hh 2 (by omega) _ rfl, hh 3 (by omega) _ rfl⟩
theorem Rd.dd {w : World} {g : Nat} {A : Option Addr} {l : List Dd} (h : Rd w g A (dv l)) {i : Nat} (hi : i < l.length) : ∃ off, A = some ⟨g, off, none⟩ ∧ g < w.heap.size ∧ DdAt w g (off + i * 4) l[i] := by
  obtain ⟨off, h1, h2, h3⟩ := h.at (by intro e; have := dv_len l; rw [e] at this; simp at this; omega)
  exact ⟨off, h1, h2, .of h3 i hi⟩

theorem may_eq (x : Dd) : x.may = ((x.k == 1 || x.k == 2) && decide (0 ≤ x.v) && decide (0 ≤ x.b) && (x.e == -1 || decide (x.b < x.e))) := rfl

set_option maxRecDepth 100000 in
set_option maxHeartbeats 4000000 in
theorem may_any (x : Dd) (w : World) : Calls Try.prog 17 #[x.val] w fun e w' => e = .returned (.bool x.may) ∧ Only (fun _ => False) w w' := by
  have H := Lib.hid (may_eq x)
  unfold Dd.val
  go_enter Try.func17, Try.ntmps17
  go_wp2
  all_goals
    go_ret
    refine ⟨ret_b ?_, (Only.refl _ _).alloc _⟩
    rw [H.out]
    first | (simp [*]; done) | (simp [*]; omega)

set_option maxRecDepth 100000 in
set_option maxHeartbeats 4000000 in
theorem refMay_any (x : Dd) (w : World) : Calls Try.prog 18 #[x.val] w fun e w' => e = .returned (.bool x.may) ∧ Only (fun _ => False) w w' := by
  have H := Lib.hid (may_eq x)
  unfold Dd.val
  go_enter Try.func18, Try.ntmps18
  go_wp2
  all_goals
    go_ret
    refine ⟨ret_b ?_, (Only.refl _ _).alloc _⟩
    rw [H.out]
    first | (simp [*]; done) | (simp [*]; omega)

theorem before_eq (x y : Dd) : x.before y = (!(x.e == -1) && decide (x.e < y.b)) := rfl
set_option maxRecDepth 100000 in
set_option maxHeartbeats 4000000 in
theorem before_any (x y : Dd) (w : World) : Calls Try.prog 19 #[x.val, y.val] w fun e w' => e = .returned (.bool (x.before y)) ∧ Only (fun _ => False) w w' := by
  have H := Lib.hid (before_eq x y)
  unfold Dd.val
  go_enter Try.func19, Try.ntmps19
  go_wp2
  all_goals
    go_ret
    refine ⟨ret_b ?_, ((Only.refl _ _).alloc _).alloc _⟩
    rw [H.out]
    first | rfl | (simp [*]; done)

/-- Up to k all may be. -/
def mayTo (l : List Dd) (k : Nat) : Prop := ∀ i (h : i < l.length), i < k → l[i].may = true
theorem right_of {l : List Dd} (h : mayTo l l.length) : right l = decide (l.length ≤ 10) := by
  have : l.all Dd.may = true := by
    rw [List.all_eq_true]
    intro x hx
    obtain ⟨i, hi, rfl⟩ := List.getElem_of_mem hx
    exact h i hi hi
  simp [right, this]
theorem right_no {l : List Dd} {k : Nat} (hk : k < l.length) (h : l[k].may = false) : right l = false := by
  have : l.all Dd.may = false := by
    rw [List.all_eq_false]
    exact ⟨l[k], List.getElem_mem hk, by simp [h]⟩
  simp [right, this]

set_option maxRecDepth 100000 in
set_option maxHeartbeats 4000000 in
theorem right_any (g c : Nat) (A : Option Addr) (l : List Dd) (w : World) (hr : Rd w g A (dv l)) (hlen : l.length ≤ 9223372036854775807) :
    Calls Try.prog 12 #[.slice A l.length c] w fun e w' => e = .returned (.bool (right l)) ∧ Only (fun _ => False) w w' := by
  have HR := Lib.hid hr
  clear hr
  go_enter Try.func12, Try.ntmps12
  go_wp2_with (fail)
  go_loopw [7] (fun v wr => ∃ k : Nat, k ≤ l.length ∧ v = .int .i64 k ∧ mayTo l k ∧ Only (fun _ => False) w wr) (fun v wr => (l.length - intOf v).toNat)
  case atStart => exact ⟨0, by omega, rfl, fun i _ h => by omega, Only.refl _ _⟩
  case round =>
    obtain ⟨k, hk, rfl, hm, hO⟩ := hrel
    have HM := Lib.hid hm
    have HO := Lib.hid hO
    clear hm hO
    by_cases hkl : k < l.length
    · have i0 : (0 : Int) ≤ k := by omega
      have i1 : (k : Int) < l.length := by omega
      obtain ⟨off, rfl, hlt, hd⟩ := (HR.out.only HO.out id).dd hkl
      obtain ⟨c0, c1, c2, c3⟩ := hd
      have HC := fun w => Lib.hid (may_any l[k] w)
      have HO1 := Lib.hid (HO.out.alloc (.cells #[.int .i64 l[k].k, .int .i64 l[k].v, .int .i64 l[k].b, .int .i64 l[k].e] 30))
      unfold Dd.val at HC
      have hy : l[k].may = true → mayTo l (k + 1) := fun h i hi hik => by
        rcases Nat.lt_succ_iff_lt_or_eq.1 hik with h' | rfl
        · exact HM.out i hi h'
        · exact h
      have HY := Lib.hid hy
      have hz : l[k].may = false → right l = false := fun h => right_no hkl h
      have HZ := Lib.hid hz
      clear hy hz
      generalize l[k] = x at *
      go_wp2_with (fail)
      refine (HC _).out.mono ?_
      rintro e w1 ⟨rfl, hO1⟩
      have HO2 := Lib.hid (HO1.out.trans hO1)
      clear hO1 HC
      cases hm : x.may
      · go_wp2
        go_ret
        exact ⟨ret_b (HZ.out hm).symm, HO2.out⟩
      · go_wp2
        go_roundw
        case rel => exact ⟨k + 1, by omega, by simp, HY.out hm, HO2.out⟩
        case measure => simp [intOf]; omega
    · obtain rfl : k = l.length := by omega
      have HE := Lib.hid (right_of HM.out)
      have i1 : ¬ (l.length : Int) < l.length := by omega
      have i2 : decide ((l.length : Int) ≤ 10) = decide (l.length ≤ 10) := by
        apply decide_eq_decide.2; omega
      go_wp2
      go_ret
      exact ⟨ret_b (by rw [HE.out]), HO.out⟩

set_option maxRecDepth 100000 in
set_option maxHeartbeats 4000000 in
theorem refRight_any (g c : Nat) (A : Option Addr) (l : List Dd) (w : World) (hr : Rd w g A (dv l)) (hlen : l.length ≤ 9223372036854775807) :
    Calls Try.prog 13 #[.slice A l.length c] w fun e w' => e = .returned (.bool (right l)) ∧ Only (fun _ => False) w w' := by
  have HR := Lib.hid hr
  clear hr
  by_cases h10 : 10 < l.length
  · have i0 : (10 : Int) < l.length := by omega
    have HE := Lib.hid (show right l = false by simp [right, h10])
    go_enter Try.func13, Try.ntmps13
    go_wp2
    go_ret
    exact ⟨ret_b HE.out.symm, Only.refl _ _⟩
  have i10 : ¬ (10 : Int) < l.length := by omega
  go_enter Try.func13, Try.ntmps13
  go_wp2_with (fail)
  go_loopw [3] (fun v wr => ∃ k : Nat, k ≤ l.length ∧ v = .int .i64 k ∧ mayTo l k ∧ Only (fun _ => False) w wr) (fun v wr => (l.length - intOf v).toNat)
  case atStart => exact ⟨0, by omega, rfl, fun i _ h => by omega, Only.refl _ _⟩
  case round =>
    obtain ⟨k, hk, rfl, hm, hO⟩ := hrel
    have HM := Lib.hid hm
    have HO := Lib.hid hO
    clear hm hO
    by_cases hkl : k < l.length
    · have i0 : (0 : Int) ≤ k := by omega
      have i1 : (k : Int) < l.length := by omega
      obtain ⟨off, rfl, hlt, hd⟩ := (HR.out.only HO.out id).dd hkl
      obtain ⟨c0, c1, c2, c3⟩ := hd
      have HC := fun w => Lib.hid (refMay_any l[k] w)
      unfold Dd.val at HC
      have hy : l[k].may = true → mayTo l (k + 1) := fun h i hi hik => by
        rcases Nat.lt_succ_iff_lt_or_eq.1 hik with h' | rfl
        · exact HM.out i hi h'
        · exact h
      have HY := Lib.hid hy
      have hz : l[k].may = false → right l = false := fun h => right_no hkl h
      have HZ := Lib.hid hz
      clear hy hz
      generalize l[k] = x at *
      go_wp2_with (fail)
      refine (HC _).out.mono ?_
      rintro e w1 ⟨rfl, hO1⟩
      have HO2 := Lib.hid (HO.out.trans hO1)
      clear hO1 HC
      cases hm : x.may
      · go_wp2
        go_ret
        exact ⟨ret_b (HZ.out hm).symm, HO2.out⟩
      · go_wp2
        go_roundw
        case rel => exact ⟨k + 1, by omega, by simp, HY.out hm, HO2.out⟩
        case measure => simp [intOf]; omega
    · obtain rfl : k = l.length := by omega
      have HE := Lib.hid (right_of HM.out)
      have i1 : ¬ (l.length : Int) < l.length := by omega
      go_wp2
      go_ret
      exact ⟨ret_b (by rw [HE.out]; simp; omega), HO.out⟩
end Go.Proofs.Ytgedinpafnfmmaa
