/- Lines: units; one line. -/
import Derived.Test.YtjobaplioidogaaGreatB
namespace Go.Proofs.YtjobaplioidogaaGreat
open Go.RowKit

structure Ge.Is (g : Ge) : Prop where
  c : 1 ≤ g.c ∧ g.c ≤ 4
  l : 1 ≤ g.l ∧ g.l ≤ 2
  b : 1 ≤ g.b ∧ g.b ≤ 64
  p : 1 ≤ g.p ∧ g.p ≤ 32
  s : 1 ≤ g.s ∧ g.s ≤ 4
theorem Ge.is_of {g : Ge} (h : g.ok = true) : g.Is := by
  simp only [Ge.ok, Bool.and_eq_true, inr_iff] at h
  exact ⟨h.1.1.1.1, h.1.1.1.2, h.1.1.2, h.1.2, h.2⟩
theorem Ge.Is.wf {g : Ge} (h : g.Is) : g.Wf := by
  obtain ⟨h1, h2, h3, h4, h5⟩ := h
  exact ⟨by omega, by omega, by omega, by omega, by omega⟩
theorem Ge.Is.ok {g : Ge} (h : g.Is) : g.ok = true := by
  simp only [Ge.ok, Bool.and_eq_true, inr_iff]
  exact ⟨⟨⟨⟨h.c, h.l⟩, h.b⟩, h.p⟩, h.s⟩
def Ge.u (g : Ge) : Int := g.c * g.l
theorem Ge.Is.u {g : Ge} (h : g.Is) : 1 ≤ g.c * g.l ∧ g.c * g.l ≤ 8 := by
  obtain ⟨h1, h2, h3, h4, h5⟩ := h
  have hc : g.c = 1 ∨ g.c = 2 ∨ g.c = 3 ∨ g.c = 4 := by omega
  have hl : g.l = 1 ∨ g.l = 2 := by omega
  rcases hc with h | h | h | h <;> rcases hl with h' | h' <;> rw [h, h'] <;> omega

set_option maxHeartbeats 1000000 in
theorem shUnits_any (g : Ge) (h : g.Is) (w : World) : Calls Tryz.prog 90 #[g.val] w fun e w' => e = .returned (.int .i64 g.u) ∧ Only (fun _ => False) w w' := by
  obtain ⟨h1, h2⟩ := h.u
  have HU : Hid (g.u = g.c * g.l) := Lib.hid rfl
  unfold Ge.val
  clear h
  obtain ⟨c, l, b, p, s⟩ := g
  simp only at h1 h2 HU
  generalize Ge.u _ = u at *
  go_enter Tryz.func90, Tryz.ntmps90
  go_wp2
  go_ret
  exact ⟨ret_i HU.out.symm, (Only.refl _ _).alloc _⟩

set_option maxHeartbeats 1000000 in
theorem asked_any (g : Ge) (h : g.Is) (w : World) : Calls Tryz.prog 89 #[g.val, .func (.func 90) #[g.val] #[]] w fun e w' => e = .returned (.int .i64 g.u) ∧ Only (fun _ => False) w w' := by
  have HR := fun w => Lib.hid (right_any g h.wf w)
  have HS := fun w => Lib.hid (shUnits_any g h w)
  rw [h.ok] at HR
  unfold Ge.val at HR HS ⊢
  clear h
  go_enter Tryz.func89, Tryz.ntmps89
  go_wp2_with (fail)
  refine (HR _).out.mono ?_
  rintro e w1 ⟨rfl, hO⟩
  have HO := Lib.hid (((Only.refl _ _).alloc _).trans hO)
  clear hO
  go_wp2_with (fail)
  refine (HS _).out.mono ?_
  rintro e w2 ⟨rfl, hO⟩
  have HO2 := Lib.hid (HO.out.trans hO)
  clear hO HO
  go_wp2
  go_ret
  exact ⟨rfl, HO2.out⟩

set_option maxHeartbeats 1000000 in
theorem units_any (g : Ge) (h : g.Is) (w : World) : Calls Tryz.prog 39 #[g.val] w fun e w' => e = .returned (.int .i64 g.u) ∧ Only (fun _ => False) w w' := by
  have HS := fun w => Lib.hid (asked_any g h w)
  unfold Ge.val at HS ⊢
  clear h
  go_enter Tryz.func39, Tryz.ntmps39
  go_wp2_with (fail)
  refine (HS _).out.mono ?_
  rintro e w2 ⟨rfl, hO⟩
  have HO2 := Lib.hid (((Only.refl _ _).alloc _).trans hO)
  clear hO
  go_wp2
  go_ret
  exact ⟨rfl, HO2.out⟩

set_option maxHeartbeats 1000000 in
theorem refUnits_any (g : Ge) (h : g.Is) (w : World) : Calls Tryz.prog 26 #[g.val] w fun e w' => e = .returned (.int .i64 g.u) ∧ Only (fun _ => False) w w' := by
  have HR := fun w => Lib.hid (refRight_any g w)
  obtain ⟨h1, h2⟩ := h.u
  have HU : Hid (g.u = g.c * g.l) := Lib.hid rfl
  rw [h.ok] at HR
  unfold Ge.val at HR ⊢
  clear h
  obtain ⟨c, l, b, p, s⟩ := g
  simp only at h1 h2 HU HR
  generalize Ge.u _ = u at *
  have HB := Lib.hid (At.new w 23 #[.int .i64 c, .int .i64 l, .int .i64 b, .int .i64 p, .int .i64 s])
  go_enter Tryz.func26, Tryz.ntmps26
  go_wp2_with (fail)
  refine (HR _).out.mono ?_
  rintro e w1 ⟨rfl, hO⟩
  have hB := HB.out.only hO id
  have c0 := hB.cell 0
  have c1 := hB.cell 1
  simp at c0 c1
  have HO := Lib.hid (((Only.refl _ _).alloc _).trans hO)
  clear hO hB
  go_wp2
  go_ret
  exact ⟨ret_i HU.out.symm, HO.out⟩

/-- A line: its state, how often it was erased, how many of its blocks are good. -/
structure Ln where
  s : Int
  w : Int
  g : Int
def Ln.cells (G : Ge) (x : Ln) : List Value := [.int .i64 x.s, .int .i64 x.w, .int .i64 x.g, .int .i64 G.c, .int .i64 G.l, .int .i64 G.b, .int .i64 G.p, .int .i64 G.s]
def Ln.val (G : Ge) (x : Ln) : Value := .agg #[.int .i64 x.s, .int .i64 x.w, .int .i64 x.g, .int .i64 G.c, .int .i64 G.l, .int .i64 G.b, .int .i64 G.p, .int .i64 G.s]
def un (g : Int) : Int := if g = 0 then 3 else 0
def rm (G : Ge) (g : Int) : Int := if g = 0 then 0 else (g * G.p - 1) * G.s

set_option maxHeartbeats 1000000 in
theorem unused_any (G : Ge) (x : Ln) (w : World) : Calls Tryz.prog 112 #[x.val G] w fun e w' => e = .returned (.int .i64 (un x.g)) ∧ Only (fun _ => False) w w' := by
  have HU : Hid (un x.g = if x.g = 0 then 3 else 0) := Lib.hid rfl
  unfold Ln.val
  generalize un x.g = u at *
  generalize x.g = z at *
  by_cases hz : z = 0
  · subst hz
    go_enter Tryz.func112, Tryz.ntmps112
    go_wp2
    go_ret
    exact ⟨by rw [HU.out]; rfl, (Only.refl _ _).alloc _⟩
  · have t1 : (z == 0) = false := beq_false_of_ne hz
    go_enter Tryz.func112, Tryz.ntmps112
    go_wp2
    go_ret
    exact ⟨ret_i (by rw [HU.out, if_neg hz]), (Only.refl _ _).alloc _⟩

theorem rm_bd {G : Ge} (h : G.Is) {z : Int} (h1 : 1 ≤ z) (h2 : z ≤ 8) : 0 ≤ z * G.p ∧ z * G.p ≤ 256 ∧ 0 ≤ (z * G.p - 1) * G.s ∧ (z * G.p - 1) * G.s ≤ 1024 := by
  obtain ⟨p1, p2⟩ := h.p
  obtain ⟨s1, s2⟩ := h.s
  have a1 : 1 ≤ z * G.p := by
    have := Int.mul_le_mul h1 p1 (by omega) (by omega)
    simpa using this
  have a2 : z * G.p ≤ 8 * 32 := Int.mul_le_mul h2 p2 (by omega) (by omega)
  have a3 : 0 ≤ (z * G.p - 1) * G.s := Int.mul_nonneg (by omega) (by omega)
  have a4 : (z * G.p - 1) * G.s ≤ 255 * 4 := Int.mul_le_mul (by omega) s2 (by omega) (by omega)
  exact ⟨by omega, by omega, a3, by omega⟩
theorem rm_nn {G : Ge} (h : G.Is) {z : Int} (h1 : 0 ≤ z) (h2 : z ≤ 8) : 0 ≤ rm G z ∧ rm G z ≤ 1024 := by
  unfold rm
  split
  · omega
  · have := rm_bd h (z := z) (by omega) h2; exact ⟨this.2.2.1, this.2.2.2⟩

set_option maxHeartbeats 1000000 in
theorem room_any (G : Ge) (hG : G.Is) (x : Ln) (h1 : 0 ≤ x.g) (h2 : x.g ≤ 8) (w : World) : Calls Tryz.prog 70 #[x.val G] w fun e w' => e = .returned (.int .i64 (rm G x.g)) ∧ Only (fun _ => False) w w' := by
  have HU : Hid (rm G x.g = if x.g = 0 then 0 else (x.g * G.p - 1) * G.s) := Lib.hid rfl
  unfold Ln.val
  generalize rm G x.g = u at *
  by_cases hz : x.g = 0
  · clear hG
    rw [hz] at HU ⊢
    clear hz
    go_enter Tryz.func70, Tryz.ntmps70
    go_wp2
    go_ret
    exact ⟨by rw [HU.out]; rfl, (Only.refl _ _).alloc _⟩
  · have t1 : (x.g == 0) = false := beq_false_of_ne hz
    obtain ⟨b1, b2, b3, b4⟩ := rm_bd hG (z := x.g) (by omega) h2
    have HZ := Lib.hid hz
    clear hG hz
    go_enter Tryz.func70, Tryz.ntmps70
    go_wp2
    go_ret
    exact ⟨ret_i (by rw [HU.out, if_neg HZ.out]), (Only.refl _ _).alloc _⟩

set_option maxHeartbeats 1000000 in
theorem refRoom_any (G : Ge) (hG : G.Is) (z : Int) (h1 : 0 ≤ z) (h2 : z ≤ 8) (w : World) : Calls Tryz.prog 29 #[G.val, .int .i64 z] w fun e w' => e = .returned (.int .i64 (rm G z)) ∧ Only (fun _ => False) w w' := by
  have HU : Hid (rm G z = if z = 0 then 0 else (z * G.p - 1) * G.s) := Lib.hid rfl
  unfold Ge.val
  generalize rm G z = u at *
  by_cases hz : z = 0
  · clear hG
    subst hz
    go_enter Tryz.func29, Tryz.ntmps29
    go_wp2
    go_ret
    exact ⟨by rw [HU.out]; rfl, (Only.refl _ _).alloc _⟩
  · have t1 : ¬ z < 1 := by omega
    obtain ⟨b1, b2, b3, b4⟩ := rm_bd hG (z := z) (by omega) h2
    have HZ := Lib.hid hz
    clear hG hz
    go_enter Tryz.func29, Tryz.ntmps29
    go_wp2
    go_ret
    exact ⟨ret_i (by rw [HU.out, if_neg HZ.out]), (Only.refl _ _).alloc _⟩
end Go.Proofs.YtjobaplioidogaaGreat
