/- Victim: contracts of Gain, of the program and of the reference. -/
import Derived.Test.YtbcjpchjidgpeaaA
namespace Go.Proofs.Ytbcjpchjidgpeaa
open Go.RowKit

theorem lv_length (l : List Ln) : (lv l).length = 5 * l.length := by
  induction l with
  | nil => rfl
  | cons x t ih => simp only [lv, List.flatMap_cons, List.length_append, List.length_cons] at *; rw [ih]; simp [Ln.cells]; omega

theorem lv_get (l : List Ln) (i j : Nat) (hi : i < l.length) (hj : j < 5) : (lv l)[i * 5 + j]? = (l[i]).cells[j]? := by
  induction l generalizing i with
  | nil => simp at hi
  | cons x t ih =>
    have hc : x.cells.length = 5 := rfl
    cases i with
    | zero =>
      simp only [lv, List.flatMap_cons, Nat.zero_mul, Nat.zero_add, List.getElem_cons_zero]
      rw [List.getElem?_append_left (by omega)]
    | succ i =>
      simp only [lv, List.flatMap_cons, List.getElem_cons_succ]
      rw [List.getElem?_append_right (by omega)]
      have := ih i (by simpa using hi)
      rw [← this]
      congr 1
      omega

/-- The cells of line i of a slice of lines. -/
structure LnAt (w : World) (g o : Nat) (x : Ln) : Prop where
  c0 : w.cell? ⟨g, o, none⟩ = some (.int .i64 x.st)
  c1 : w.cell? ⟨g, o + 1, none⟩ = some (.int .i64 x.we)
  c2 : w.cell? ⟨g, o + 2, none⟩ = some (.int .i64 x.go)
  c3 : w.cell? ⟨g, o + 3, none⟩ = some (.int .i64 x.va)
  c4 : w.cell? ⟨g, o + 4, none⟩ = some (.int .i64 x.ro)

theorem LnAt.of {w : World} {g off : Nat} {l : List Ln} (h : ∀ (j : Nat) (u : Value), (lv l)[j]? = some u → w.cell? ⟨g, off + j, none⟩ = some u) (i : Nat) (hi : i < l.length) : LnAt w g (off + i * 5) l[i] := by
  have hh : ∀ j, j < 5 → ∀ u, (l[i]).cells[j]? = some u → w.cell? ⟨g, off + i * 5 + j, none⟩ = some u := by
    intro j hj u hu
    have := h (i * 5 + j) u (by rw [lv_get l i j hi hj]; exact hu)
    rwa [← Nat.add_assoc] at this
  exact ⟨hh 0 (by omega) _ rfl, hh 1 (by omega) _ rfl, hh 2 (by omega) _ rfl, hh 3 (by omega) _ rfl, hh 4 (by omega) _ rfl⟩

def gainX (x : Ln) : Int := if x.may then x.ro - x.va else 0
def gainI (l : List Ln) (i : Int) : Int := if 0 ≤ i then (match l[i.toNat]? with | some x => gainX x | none => 0) else 0

theorem may_bd {x : Ln} (h : x.may = true) : 0 ≤ x.va ∧ x.va < x.ro ∧ x.ro ≤ 8192 ∧ x.st = 2 := by
  simp [Ln.may] at h; omega

set_option maxHeartbeats 1000000 in
theorem gain_in (g off c n i : Nat) (x : Ln) (w : World) (hx : LnAt w g (off + i * 5) x) (hi : i < n) :
    Calls Try.prog 12 #[.slice (some ⟨g, off, none⟩) n c, .int .i64 i] w fun e w' => e = .returned (.int .i64 (gainX x)) ∧ Only (fun _ => False) w w' := by
  have hlt : g < w.heap.size := World.block_lt_of_cell? _ _ hx.c0
  obtain ⟨c0, c1, c2, c3, c4⟩ := hx
  have i1 : (0 : Int) ≤ (i : Int) := by omega
  have i2 : (i : Int) < (n : Int) := by omega
  by_cases hm : x.may = true
  · have hg : gainX x = x.ro - x.va := by simp [gainX, hm]
    obtain ⟨m1, m2, m3, -⟩ := may_bd hm
    have m4 : 0 ≤ x.ro := by omega
    have hc := fun w => may_any x w
    rw [hm] at hc
    have Hc := Lib.hid hc
    have Hg := Lib.hid hg
    clear hc hm hg
    go_enter Try.func12, Try.ntmps12
    go_wp2_with (fail)
    refine (Hc.out _).mono ?_
    rintro e w1 ⟨rfl, hO⟩
    have d3 : w1.cell? ⟨g, off + i * 5 + 3, none⟩ = some (.int .i64 x.va) := (hO.cell (p := ⟨g, off + i * 5 + 3, none⟩) hlt id).trans c3
    have d4 : w1.cell? ⟨g, off + i * 5 + 4, none⟩ = some (.int .i64 x.ro) := (hO.cell (p := ⟨g, off + i * 5 + 4, none⟩) hlt id).trans c4
    have HO := Lib.hid hO
    clear hO c0 c1 c2 c3 c4
    go_wp2
    go_region
    go_wp2
    go_ret
    exact ⟨ret_i (by rw [Hg.out]), HO.out.drew⟩
  · have hm' : x.may = false := by simpa using hm
    have hg : gainX x = 0 := by simp [gainX, hm']
    have hc := fun w => may_any x w
    rw [hm'] at hc
    have Hc := Lib.hid hc
    have Hg := Lib.hid hg
    clear hc hm hg hm'
    go_enter Try.func12, Try.ntmps12
    go_wp2_with (fail)
    refine (Hc.out _).mono ?_
    rintro e w1 ⟨rfl, hO⟩
    have HO := Lib.hid hO
    clear hO c0 c1 c2 c3 c4
    go_wp2
    go_ret
    exact ⟨ret_i (by rw [Hg.out]), HO.out⟩

theorem gain_out (c n : Nat) (A : Option Addr) (i : Int) (w : World) (hi : i < 0 ∨ (n : Int) ≤ i) :
    Calls Try.prog 12 #[.slice A n c, .int .i64 i] w fun e w' => e = .returned (.int .i64 0) ∧ Only (fun _ => False) w w' := by
  rcases hi with hi | hi
  all_goals
    go_enter Try.func12, Try.ntmps12
    go_wp2
    all_goals (go_ret; exact ⟨rfl, Only.refl _ _⟩)

set_option maxHeartbeats 1000000 in
theorem refGain_in (g off c n i : Nat) (x : Ln) (w : World) (hx : LnAt w g (off + i * 5) x) (hi : i < n) :
    Calls Try.prog 13 #[.slice (some ⟨g, off, none⟩) n c, .int .i64 i] w fun e w' => e = .returned (.int .i64 (gainX x)) ∧ Only (fun _ => False) w w' := by
  have hlt : g < w.heap.size := World.block_lt_of_cell? _ _ hx.c0
  obtain ⟨c0, c1, c2, c3, c4⟩ := hx
  have i1 : (0 : Int) ≤ (i : Int) := by omega
  have i2 : (i : Int) < (n : Int) := by omega
  by_cases hm : x.may = true
  · have hg : gainX x = x.ro - x.va := by simp [gainX, hm]
    obtain ⟨m1, m2, m3, -⟩ := may_bd hm
    have m4 : 0 ≤ x.ro := by omega
    have hc := fun w => refMay_any x w
    rw [hm] at hc
    have Hc := Lib.hid hc
    have Hg := Lib.hid hg
    clear hc hm hg
    go_enter Try.func13, Try.ntmps13
    go_wp2_with (fail)
    refine (Hc.out _).mono ?_
    rintro e w1 ⟨rfl, hO⟩
    have d3 : w1.cell? ⟨g, off + i * 5 + 3, none⟩ = some (.int .i64 x.va) := (hO.cell (p := ⟨g, off + i * 5 + 3, none⟩) hlt id).trans c3
    have d4 : w1.cell? ⟨g, off + i * 5 + 4, none⟩ = some (.int .i64 x.ro) := (hO.cell (p := ⟨g, off + i * 5 + 4, none⟩) hlt id).trans c4
    have HO := Lib.hid hO
    clear hO c0 c1 c2 c3 c4
    go_wp2
    go_region
    go_wp2
    go_ret
    exact ⟨ret_i (by rw [Hg.out]), HO.out.drew⟩
  · have hm' : x.may = false := by simpa using hm
    have hg : gainX x = 0 := by simp [gainX, hm']
    have hc := fun w => refMay_any x w
    rw [hm'] at hc
    have Hc := Lib.hid hc
    have Hg := Lib.hid hg
    clear hc hm hg hm'
    go_enter Try.func13, Try.ntmps13
    go_wp2_with (fail)
    refine (Hc.out _).mono ?_
    rintro e w1 ⟨rfl, hO⟩
    have HO := Lib.hid hO
    clear hO c0 c1 c2 c3 c4
    go_wp2
    go_ret
    exact ⟨ret_i (by rw [Hg.out]), HO.out⟩

theorem refGain_out (c n : Nat) (A : Option Addr) (i : Int) (w : World) (hi : i < 0 ∨ (n : Int) ≤ i) :
    Calls Try.prog 13 #[.slice A n c, .int .i64 i] w fun e w' => e = .returned (.int .i64 0) ∧ Only (fun _ => False) w w' := by
  rcases hi with hi | hi
  all_goals
    go_enter Try.func13, Try.ntmps13
    go_wp2
    all_goals (go_ret; exact ⟨rfl, Only.refl _ _⟩)

theorem gainI_in (l : List Ln) (i : Nat) (hi : i < l.length) : gainI l i = gainX l[i] := by
  simp [gainI, hi]
theorem gainI_out (l : List Ln) (i : Int) (hi : i < 0 ∨ (l.length : Int) ≤ i) : gainI l i = 0 := by
  unfold gainI
  split
  · rw [List.getElem?_eq_none (by omega)]
  · rfl

theorem gain_any (g c : Nat) (A : Option Addr) (l : List Ln) (i : Int) (w : World) (hr : Rd w g A (lv l)) :
    Calls Try.prog 12 #[.slice A l.length c, .int .i64 i] w fun e w' => e = .returned (.int .i64 (gainI l i)) ∧ Only (fun _ => False) w w' := by
  by_cases hi : 0 ≤ i ∧ i < l.length
  · obtain ⟨k, rfl⟩ := Int.eq_ofNat_of_zero_le hi.1
    have hk : k < l.length := by omega
    obtain ⟨off, rfl, _, hc⟩ := hr.at (by intro h; have := lv_length l; rw [h] at this; simp at this; omega)
    rw [gainI_in l k hk]
    exact gain_in g off c l.length k l[k] w (LnAt.of hc k hk) hk
  · rw [gainI_out l i (by omega)]
    exact gain_out c l.length A i w (by omega)

theorem refGain_any (g c : Nat) (A : Option Addr) (l : List Ln) (i : Int) (w : World) (hr : Rd w g A (lv l)) :
    Calls Try.prog 13 #[.slice A l.length c, .int .i64 i] w fun e w' => e = .returned (.int .i64 (gainI l i)) ∧ Only (fun _ => False) w w' := by
  by_cases hi : 0 ≤ i ∧ i < l.length
  · obtain ⟨k, rfl⟩ := Int.eq_ofNat_of_zero_le hi.1
    have hk : k < l.length := by omega
    obtain ⟨off, rfl, _, hc⟩ := hr.at (by intro h; have := lv_length l; rw [h] at this; simp at this; omega)
    rw [gainI_in l k hk]
    exact refGain_in g off c l.length k l[k] w (LnAt.of hc k hk) hk
  · rw [gainI_out l i (by omega)]
    exact refGain_out c l.length A i w (by omega)

end Go.Proofs.Ytbcjpchjidgpeaa
