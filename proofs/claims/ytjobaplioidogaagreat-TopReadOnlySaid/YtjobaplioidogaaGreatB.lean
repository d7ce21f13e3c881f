/- Lines: geometries. -/
import Derived.Test.YtjobaplioidogaaGreatA
import Derived.BigQuiet
import Derived.IntWalk
namespace Go.Proofs.YtjobaplioidogaaGreat
open Go.RowKit

structure Ge where
  c : Int
  l : Int
  b : Int
  p : Int
  s : Int
def Ge.val (g : Ge) : Value := .agg #[.int .i64 g.c, .int .i64 g.l, .int .i64 g.b, .int .i64 g.p, .int .i64 g.s]
structure Ge.Wf (g : Ge) : Prop where
  c : -9223372036854775808 ≤ g.c ∧ g.c ≤ 9223372036854775807
  l : -9223372036854775808 ≤ g.l ∧ g.l ≤ 9223372036854775807
  b : -9223372036854775808 ≤ g.b ∧ g.b ≤ 9223372036854775807
  p : -9223372036854775808 ≤ g.p ∧ g.p ≤ 9223372036854775807
  s : -9223372036854775808 ≤ g.s ∧ g.s ≤ 9223372036854775807
def inr (x k : Int) : Bool := decide (1 ≤ x ∧ x ≤ k)
def Ge.ok (g : Ge) : Bool := inr g.c 4 && inr g.l 2 && inr g.b 64 && inr g.p 32 && inr g.s 4
def am (n m : Int) : Bool := decide (0 ≤ n ∧ n < m)
theorem am_inr (x k : Int) (hx : -9223372036854775808 ≤ x ∧ x ≤ 9223372036854775807) (hk : 0 ≤ k ∧ k ≤ 64) : am (IntKind.i64.wrap (x - 1)) k = inr x k := by
  unfold am inr
  apply decide_eq_decide.2
  by_cases h : x = -9223372036854775808
  · subst h
    have : IntKind.i64.wrap (-9223372036854775808 - 1) = 9223372036854775807 := by decide
    rw [this]; omega
  · rw [IntWalk.i64_in _ (by omega)]; omega

theorem am_inr64 (x k : Int) (hx : -9223372036854775808 ≤ x ∧ x ≤ 9223372036854775807) (hk : 0 ≤ k ∧ k ≤ 64) : am (wrap64 (x - 1)) k = inr x k := by
  rw [← am_inr x k hx hk, IntWalk.i64_left]

set_option maxHeartbeats 1000000 in
theorem among_any (n m : Int) (w : World) : Calls Tryz.prog 88 #[.int .i64 n, .int .i64 m] w fun e w' => e = .returned (.bool (am n m)) ∧ w' = w := by
  have H : Hid (am n m = decide (0 ≤ n ∧ n < m)) := Lib.hid rfl
  by_cases h1 : 0 ≤ n <;> by_cases h2 : n < m
  all_goals
    go_enter Tryz.func88, Tryz.ntmps88
    go_wp2
    go_ret
    exact ⟨by rw [H.out]; simp [h1, h2] <;> omega, rfl⟩
-- RIGHT
theorem inr_iff {x k : Int} : inr x k = true ↔ 1 ≤ x ∧ x ≤ k := by simp [inr]
set_option maxRecDepth 100000 in
set_option maxHeartbeats 4000000 in
theorem right_any (g : Ge) (hw : g.Wf) (w : World) : Calls Tryz.prog 37 #[g.val] w fun e w' => e = .returned (.bool g.ok) ∧ Only (fun _ => False) w w' := by
  have HOK : Hid (g.ok = (inr g.c 4 && inr g.l 2 && inr g.b 64 && inr g.p 32 && inr g.s 4)) := Lib.hid rfl
  have Ec := Lib.hid (am_inr64 g.c 4 hw.c (by omega))
  have El := Lib.hid (am_inr64 g.l 2 hw.l (by omega))
  have Eb := Lib.hid (am_inr64 g.b 64 hw.b (by omega))
  have Ep := Lib.hid (am_inr64 g.p 32 hw.p (by omega))
  have Es := Lib.hid (am_inr64 g.s 4 hw.s (by omega))
  unfold Ge.val
  clear hw
  obtain ⟨c, l, b, p, s⟩ := g
  simp only at HOK Ec El Eb Ep Es
  generalize Ge.ok _ = ok at *
  cases hc : inr c 4
  · skip
    go_enter Tryz.func37, Tryz.ntmps37
    go_wp2_with (fail)
    refine (among_any _ _ _).mono ?_
    rintro e w' ⟨rfl, rfl⟩
    rw [Ec.out, hc]
    go_wp2
    go_ret
    exact ⟨ret_b (by rw [HOK.out]; first | (simp [hc]; done) | (simp [hc]; omega)), (Only.refl _ _).alloc _⟩
  cases hl : inr l 2
  · skip
    go_enter Tryz.func37, Tryz.ntmps37
    go_wp2_with (fail)
    refine (among_any _ _ _).mono ?_
    rintro e w' ⟨rfl, rfl⟩
    rw [Ec.out, hc]
    go_wp2_with (fail)
    refine (among_any _ _ _).mono ?_
    rintro e w' ⟨rfl, rfl⟩
    rw [El.out, hl]
    go_wp2
    go_ret
    exact ⟨ret_b (by rw [HOK.out]; first | (simp [hc, hl]; done) | (simp [hc, hl]; omega)), (Only.refl _ _).alloc _⟩
  cases hb : inr b 64
  · skip
    go_enter Tryz.func37, Tryz.ntmps37
    go_wp2_with (fail)
    refine (among_any _ _ _).mono ?_
    rintro e w' ⟨rfl, rfl⟩
    rw [Ec.out, hc]
    go_wp2_with (fail)
    refine (among_any _ _ _).mono ?_
    rintro e w' ⟨rfl, rfl⟩
    rw [El.out, hl]
    go_wp2_with (fail)
    refine (among_any _ _ _).mono ?_
    rintro e w' ⟨rfl, rfl⟩
    rw [Eb.out, hb]
    go_wp2
    go_ret
    exact ⟨ret_b (by rw [HOK.out]; first | (simp [hc, hl, hb]; done) | (simp [hc, hl, hb]; omega)), (Only.refl _ _).alloc _⟩
  cases hp : inr p 32
  · skip
    go_enter Tryz.func37, Tryz.ntmps37
    go_wp2_with (fail)
    refine (among_any _ _ _).mono ?_
    rintro e w' ⟨rfl, rfl⟩
    rw [Ec.out, hc]
    go_wp2_with (fail)
    refine (among_any _ _ _).mono ?_
    rintro e w' ⟨rfl, rfl⟩
    rw [El.out, hl]
    go_wp2_with (fail)
    refine (among_any _ _ _).mono ?_
    rintro e w' ⟨rfl, rfl⟩
    rw [Eb.out, hb]
    go_wp2_with (fail)
    refine (among_any _ _ _).mono ?_
    rintro e w' ⟨rfl, rfl⟩
    rw [Ep.out, hp]
    go_wp2
    go_ret
    exact ⟨ret_b (by rw [HOK.out]; first | (simp [hc, hl, hb, hp]; done) | (simp [hc, hl, hb, hp]; omega)), (Only.refl _ _).alloc _⟩
  cases hs : inr s 4
  · skip
    go_enter Tryz.func37, Tryz.ntmps37
    go_wp2_with (fail)
    refine (among_any _ _ _).mono ?_
    rintro e w' ⟨rfl, rfl⟩
    rw [Ec.out, hc]
    go_wp2_with (fail)
    refine (among_any _ _ _).mono ?_
    rintro e w' ⟨rfl, rfl⟩
    rw [El.out, hl]
    go_wp2_with (fail)
    refine (among_any _ _ _).mono ?_
    rintro e w' ⟨rfl, rfl⟩
    rw [Eb.out, hb]
    go_wp2_with (fail)
    refine (among_any _ _ _).mono ?_
    rintro e w' ⟨rfl, rfl⟩
    rw [Ep.out, hp]
    go_wp2_with (fail)
    refine (among_any _ _ _).mono ?_
    rintro e w' ⟨rfl, rfl⟩
    rw [Es.out, hs]
    go_wp2
    go_ret
    exact ⟨ret_b (by rw [HOK.out]; first | (simp [hc, hl, hb, hp, hs]; done) | (simp [hc, hl, hb, hp, hs]; omega)), (Only.refl _ _).alloc _⟩
  have qc := (inr_iff.1 hc).1
  have ql := (inr_iff.1 hl).1
  have qb := (inr_iff.1 hb).1
  have qp := (inr_iff.1 hp).1
  have qs := (inr_iff.1 hs).1
  go_enter Tryz.func37, Tryz.ntmps37
  go_wp2_with (fail)
  refine (among_any _ _ _).mono ?_
  rintro e w' ⟨rfl, rfl⟩
  rw [Ec.out, hc]
  go_wp2_with (fail)
  refine (among_any _ _ _).mono ?_
  rintro e w' ⟨rfl, rfl⟩
  rw [El.out, hl]
  go_wp2_with (fail)
  refine (among_any _ _ _).mono ?_
  rintro e w' ⟨rfl, rfl⟩
  rw [Eb.out, hb]
  go_wp2_with (fail)
  refine (among_any _ _ _).mono ?_
  rintro e w' ⟨rfl, rfl⟩
  rw [Ep.out, hp]
  go_wp2_with (fail)
  refine (among_any _ _ _).mono ?_
  rintro e w' ⟨rfl, rfl⟩
  rw [Es.out, hs]
  go_wp2
  go_ret
  exact ⟨ret_b (by rw [HOK.out]; first | (simp [hc, hl, hb, hp, hs]; done) | (simp [hc, hl, hb, hp, hs]; omega)), (Only.refl _ _).alloc _⟩
set_option maxRecDepth 100000 in
set_option maxHeartbeats 4000000 in
theorem refRight_any (g : Ge) (w : World) : Calls Tryz.prog 60 #[g.val] w fun e w' => e = .returned (.bool g.ok) ∧ Only (fun _ => False) w w' := by
  have HOK : Hid (g.ok = (inr g.c 4 && inr g.l 2 && inr g.b 64 && inr g.p 32 && inr g.s 4)) := Lib.hid rfl
  unfold Ge.val
  obtain ⟨c, l, b, p, s⟩ := g
  simp only at HOK
  generalize Ge.ok _ = ok at *
  by_cases hc1 : 1 ≤ c
  rotate_left
  · have hc1' : decide (1 ≤ c) = false := by simp; omega
    go_enter Tryz.func60, Tryz.ntmps60
    go_wp2
    go_ret
    exact ⟨ret_b (by rw [HOK.out]; simp [inr, hc1] <;> omega), (Only.refl _ _).alloc _⟩
  by_cases hc2 : c ≤ 4
  rotate_left
  · have hc2' : decide (c ≤ 4) = false := by simp; omega
    go_enter Tryz.func60, Tryz.ntmps60
    go_wp2
    go_ret
    exact ⟨ret_b (by rw [HOK.out]; simp [inr, hc2] <;> omega), (Only.refl _ _).alloc _⟩
  by_cases hl1 : 1 ≤ l
  rotate_left
  · have hl1' : decide (1 ≤ l) = false := by simp; omega
    go_enter Tryz.func60, Tryz.ntmps60
    go_wp2
    go_ret
    exact ⟨ret_b (by rw [HOK.out]; simp [inr, hl1] <;> omega), (Only.refl _ _).alloc _⟩
  by_cases hl2 : l ≤ 2
  rotate_left
  · have hl2' : decide (l ≤ 2) = false := by simp; omega
    go_enter Tryz.func60, Tryz.ntmps60
    go_wp2
    go_ret
    exact ⟨ret_b (by rw [HOK.out]; simp [inr, hl2] <;> omega), (Only.refl _ _).alloc _⟩
  by_cases hb1 : 1 ≤ b
  rotate_left
  · have hb1' : decide (1 ≤ b) = false := by simp; omega
    go_enter Tryz.func60, Tryz.ntmps60
    go_wp2
    go_ret
    exact ⟨ret_b (by rw [HOK.out]; simp [inr, hb1] <;> omega), (Only.refl _ _).alloc _⟩
  by_cases hb2 : b ≤ 64
  rotate_left
  · have hb2' : decide (b ≤ 64) = false := by simp; omega
    go_enter Tryz.func60, Tryz.ntmps60
    go_wp2
    go_ret
    exact ⟨ret_b (by rw [HOK.out]; simp [inr, hb2] <;> omega), (Only.refl _ _).alloc _⟩
  by_cases hp1 : 1 ≤ p
  rotate_left
  · have hp1' : decide (1 ≤ p) = false := by simp; omega
    go_enter Tryz.func60, Tryz.ntmps60
    go_wp2
    go_ret
    exact ⟨ret_b (by rw [HOK.out]; simp [inr, hp1] <;> omega), (Only.refl _ _).alloc _⟩
  by_cases hp2 : p ≤ 32
  rotate_left
  · have hp2' : decide (p ≤ 32) = false := by simp; omega
    go_enter Tryz.func60, Tryz.ntmps60
    go_wp2
    go_ret
    exact ⟨ret_b (by rw [HOK.out]; simp [inr, hp2] <;> omega), (Only.refl _ _).alloc _⟩
  by_cases hs1 : 1 ≤ s
  rotate_left
  · have hs1' : decide (1 ≤ s) = false := by simp; omega
    go_enter Tryz.func60, Tryz.ntmps60
    go_wp2
    go_ret
    exact ⟨ret_b (by rw [HOK.out]; simp [inr, hs1] <;> omega), (Only.refl _ _).alloc _⟩
  by_cases hs2 : s ≤ 4
  rotate_left
  · have hs2' : decide (s ≤ 4) = false := by simp; omega
    go_enter Tryz.func60, Tryz.ntmps60
    go_wp2
    go_ret
    exact ⟨ret_b (by rw [HOK.out]; simp [inr, hs2] <;> omega), (Only.refl _ _).alloc _⟩
  go_enter Tryz.func60, Tryz.ntmps60
  go_wp2
  go_ret
  exact ⟨ret_b (by rw [HOK.out]; simp [inr, hc1, hc2, hl1, hl2, hb1, hb2, hp1, hp2, hs1, hs2] <;> omega), (Only.refl _ _).alloc _⟩
end Go.Proofs.YtjobaplioidogaaGreat
