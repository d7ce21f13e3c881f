/- Top: the lines in memory; Capacity. -/
import Derived.Test.YtjobaplioidogaaGreatC
import Derived.WalkKit
namespace Go.Proofs.YtjobaplioidogaaGreat
open Go.RowKit

attribute [local go_sem] Oper.semAt_some

def lcs (G : Ge) (l : List Ln) : List Value := l.flatMap (Ln.cells G)
theorem lcs_len (G : Ge) (l : List Ln) : (lcs G l).length = l.length * 8 := by
  induction l with
  | nil => rfl
  | cons x t ih => simp only [lcs, List.flatMap_cons, List.length_append, List.length_cons] at *; rw [ih]; simp [Ln.cells]; omega
theorem lcs_get (G : Ge) (l : List Ln) (i j : Nat) (hi : i < l.length) (hj : j < 8) : (lcs G l)[i * 8 + j]? = ((l[i]).cells G)[j]? := by
  induction l generalizing i with
  | nil => simp at hi
  | cons x t ih =>
    have hc : (x.cells G).length = 8 := rfl
    cases i with
    | zero =>
      simp only [lcs, List.flatMap_cons, Nat.zero_mul, Nat.zero_add, List.getElem_cons_zero]
      rw [List.getElem?_append_left (by omega)]
    | succ i =>
      simp only [lcs, List.flatMap_cons, List.getElem_cons_succ]
      rw [List.getElem?_append_right (by omega)]
      have := ih i (by simpa using hi)
      rw [← this]
      congr 1
      omega
/-- The eight cells of a line at (g, o). -/
structure LnAt (w : World) (g o : Nat) (G : Ge) (x : Ln) : Prop where
  c0 : w.cell? ⟨g, o, none⟩ = some (.int .i64 x.s)
  c1 : w.cell? ⟨g, o + 1, none⟩ = some (.int .i64 x.w)
  c2 : w.cell? ⟨g, o + 2, none⟩ = some (.int .i64 x.g)
  c3 : w.cell? ⟨g, o + 3, none⟩ = some (.int .i64 G.c)
  c4 : w.cell? ⟨g, o + 4, none⟩ = some (.int .i64 G.l)
  c5 : w.cell? ⟨g, o + 5, none⟩ = some (.int .i64 G.b)
  c6 : w.cell? ⟨g, o + 6, none⟩ = some (.int .i64 G.p)
  c7 : w.cell? ⟨g, o + 7, none⟩ = some (.int .i64 G.s)
/-- Lines at block b: the row l (in block gb, from off on), and which is open. -/
structure LAt (w : World) (b : Nat) (G : Ge) (l : List Ln) (off c gb : Nat) (op : Int) : Prop where
  st : At w b 205 #[.slice (some ⟨gb, off, none⟩) l.length c, .int .i64 op]
  row : RowAt w (some ⟨gb, off, none⟩) l.length c gb 151 8 (lcs G l)
  len : 1 ≤ l.length ∧ l.length ≤ 64
section
variable {S : Nat → Prop} {w w' : World} {b off c gb : Nat} {G : Ge} {l : List Ln} {op : Int}
theorem LAt.ne (k : LAt w b G l off c gb op) : gb ≠ b := k.row.neAt k.st (by simp) (by decide)
theorem LAt.only (k : LAt w b G l off c gb op) (o : Only S w w') (h1 : ¬ S b) (h2 : ¬ S gb) : LAt w' b G l off c gb op :=
  ⟨k.st.only o h1, k.row.only o (fun _ => h2), k.len⟩
theorem LAt.quiet (k : LAt w b G l off c gb op) (o : Only (fun _ => False) w w') : LAt w' b G l off c gb op := k.only o id id
theorem LAt.lts (k : LAt w b G l off c gb op) : b < w.heap.size ∧ gb < w.heap.size := ⟨k.st.lt, k.row.lt (by simp)⟩
theorem LAt.below {n : Nat} (k : LAt w b G l off c gb op) (h : Below n w w') (h1 : b < n) (h2 : gb < n) : LAt w' b G l off c gb op := by
  refine ⟨k.st.of_below h h1, ?_, k.len⟩
  rcases k.row with ⟨h0, _⟩ | ⟨off', cells, e, ha, hr⟩
  · cases h0
  · exact .inr ⟨off', cells, e, ha.of_below h h2, hr⟩
theorem LAt.ln (k : LAt w b G l off c gb op) {i : Nat} (hi : i < l.length) : LnAt w gb (off + i * 8) G l[i] := by
  rcases k.row with ⟨h0, _⟩ | ⟨off', cells, e, ha, _, _, _, _, hr⟩
  · cases h0
  · injection e with e
    injection e with _ e _
    subst e
    have hh : ∀ j, j < 8 → ∀ u, ((l[i]).cells G)[j]? = some u → w.cell? ⟨gb, off + i * 8 + j, none⟩ = some u := by
      intro j hj u hu
      have := hr (i * 8 + j) u (by rw [lcs_get G l i j hi hj]; exact hu)
      rw [ha.cell, Nat.add_assoc]; exact this
    exact ⟨hh 0 (by omega) _ rfl, hh 1 (by omega) _ rfl, hh 2 (by omega) _ rfl, hh 3 (by omega) _ rfl, hh 4 (by omega) _ rfl, hh 5 (by omega) _ rfl, hh 6 (by omega) _ rfl, hh 7 (by omega) _ rfl⟩
theorem LAt.fr (k : LAt w b G l off c gb op) (j : Nat) : w.frozen? ⟨gb, j, none⟩ = false := by
  rcases k.row with ⟨h0, _⟩ | ⟨off', cells, e, ha, _⟩
  · cases h0
  · exact ha.frozen j
end



theorem lcs_set (G : Ge) (l : List Ln) (i j : Nat) (x : Ln) (v : Value) (hi : i < l.length) (hx : ((l[i]).cells G).set j v = x.cells G) (hj : j < 8) : (lcs G l).set (i * 8 + j) v = lcs G (l.set i x) := by
  induction l generalizing i with
  | nil => simp at hi
  | cons y t ih =>
    cases i with
    | zero =>
      simp only [List.getElem_cons_zero] at hx
      simp only [lcs, List.flatMap_cons, Nat.zero_mul, Nat.zero_add, List.set_cons_zero]
      rw [List.set_append_left _ _ (by simp [Ln.cells]; omega), hx]
    | succ i =>
      have h := ih i (by simpa using hi) (by simpa using hx)
      have e : (i + 1) * 8 + j = (i * 8 + j) + (y.cells G).length := by simp [Ln.cells]; omega
      simp only [lcs, List.flatMap_cons, List.set_cons_succ] at h ⊢
      rw [e, List.set_append_right _ _ (by omega), Nat.add_sub_cancel, h]
section
variable {S : Nat → Prop} {w w' : World} {b off c gb : Nat} {G : Ge} {l : List Ln} {op : Int}
theorem LAt.setG (k : LAt w b G l off c gb op) {i j : Nat} (hi : i < l.length) (hj : j < 8) (x : Ln) (v : Value) (hx : ((l[i]).cells G).set j v = x.cells G) : LAt (w.setCell ⟨gb, off + i * 8 + j, none⟩ v) b G (l.set i x) off c gb op := by
  refine ⟨by rw [List.length_set]; exact k.st.far (p := ⟨gb, off + i * 8 + j, none⟩) k.ne.symm v, ?_, by rw [List.length_set]; exact k.len⟩
  rw [List.length_set, ← lcs_set G l i j x v hi hx hj]
  rcases k.row with ⟨h0, _⟩ | ⟨off', cells, e, ha, h1, h2, h3, h4, h5⟩
  · cases h0
  · have he := e
    injection e with e
    injection e with _ e _
    subst e
    refine .inr ⟨off, cells.setIfInBounds (off + i * 8 + j) v, he, ha.set _ _, h1, h2, by simpa using h3, by rw [List.length_set]; exact h4, fun q u hu => ?_⟩
    have hlt : q < (lcs G l).length := by have := (List.getElem?_eq_some_iff.1 hu).1; rwa [List.length_set] at this
    by_cases hq : i * 8 + j = q
    · subst hq
      rw [List.getElem?_set_self hlt] at hu
      rw [Nat.add_assoc, Array.getElem?_setIfInBounds_self_of_lt (by rw [h4] at hlt; have : l.length * 8 ≤ c * 8 := Nat.mul_le_mul_right _ h1; omega)]
      exact hu
    · rw [List.getElem?_set_ne hq] at hu
      rw [Array.getElem?_setIfInBounds_ne (by omega)]
      exact h5 q u hu
theorem LAt.setS (k : LAt w b G l off c gb op) {i : Nat} (hi : i < l.length) (z : Int) : LAt (w.setCell ⟨gb, off + i * 8, none⟩ (.int .i64 z)) b G (l.set i { l[i] with s := z }) off c gb op := k.setG (j := 0) hi (by omega) _ _ rfl
theorem LAt.setW (k : LAt w b G l off c gb op) {i : Nat} (hi : i < l.length) (z : Int) : LAt (w.setCell ⟨gb, off + i * 8 + 1, none⟩ (.int .i64 z)) b G (l.set i { l[i] with w := z }) off c gb op := k.setG (j := 1) hi (by omega) _ _ rfl
theorem LAt.setGd (k : LAt w b G l off c gb op) {i : Nat} (hi : i < l.length) (z : Int) : LAt (w.setCell ⟨gb, off + i * 8 + 2, none⟩ (.int .i64 z)) b G (l.set i { l[i] with g := z }) off c gb op := k.setG (j := 2) hi (by omega) _ _ rfl
theorem LAt.setOp (k : LAt w b G l off c gb op) (z : Int) : LAt (w.setCell ⟨b, 1, none⟩ (.int .i64 z)) b G l off c gb z := by
  refine ⟨k.st.set 1 _, ?_, k.len⟩
  rcases k.row with ⟨h0, _⟩ | ⟨off', cells, e, ha, hr⟩
  · cases h0
  · exact .inr ⟨off', cells, e, ha.far (p := ⟨b, 1, none⟩) k.ne _, hr⟩
end
def capTo (G : Ge) (l : List Ln) : Nat → Int
  | 0 => 0
  | k + 1 => capTo G l k + rm G (l.getD k ⟨0, 0, 0⟩).g
def gOk (l : List Ln) : Prop := ∀ x ∈ l, 0 ≤ x.g ∧ x.g ≤ 8
theorem capTo_bd {G : Ge} (hG : G.Is) {l : List Ln} (hl : gOk l) : ∀ k, k ≤ l.length → 0 ≤ capTo G l k ∧ capTo G l k ≤ k * 1024
  | 0, _ => by simp [capTo]
  | k + 1, h => by
    have ih := capTo_bd hG hl k (by omega)
    have hx : l.getD k ⟨0, 0, 0⟩ = l[k] := by simp [List.getD, (show k < l.length by omega)]
    have hg := hl _ (List.getElem_mem (show k < l.length by omega))
    have := rm_nn hG hg.1 hg.2
    simp only [capTo, hx]
    omega

set_option maxRecDepth 100000 in
set_option maxHeartbeats 4000000 in
theorem summed_any (b off c gb : Nat) (G : Ge) (hG : G.Is) (l : List Ln) (hl : gOk l) (op : Int) (w : World) (k : LAt w b G l off c gb op) :
    Calls Tryz.prog 69 #[.pointer (some ⟨b, 0, none⟩), .func (.func 70) #[] #[]] w fun e w' => e = .returned (.int .i64 (capTo G l l.length)) ∧ Only (fun _ => False) w w' := by
  have c0 := k.st.cell 0
  simp at c0
  have hln := k.len
  have HK := Lib.hid k
  have HGG := Lib.hid hG
  have HL := Lib.hid hl
  clear k hG hl
  obtain ⟨n, hn⟩ : ∃ n, l.length = n := ⟨_, rfl⟩
  have HN := Lib.hid hn
  rw [hn] at c0 hln ⊢
  clear hn
  go_enter Tryz.func69, Tryz.ntmps69
  go_wp2_with (fail)
  go_loopw [5, 13] (fun v5 v13 wr => ∃ i : Nat, i ≤ n ∧ v13 = .int .i64 i ∧ v5 = .int .i64 (capTo G l i) ∧ Only (fun _ => False) w wr) (fun _ v13 wr => (n - intOf v13).toNat)
  case atStart => exact ⟨0, by omega, rfl, rfl, Only.refl _ _⟩
  case round =>
    obtain ⟨i, hi, rfl, rfl, hO⟩ := hrel
    have HO := Lib.hid hO
    clear hO
    by_cases hin : i < n
    · have i0 : (0 : Int) ≤ i := by omega
      have i1 : (i : Int) < n := by omega
      have hil : i < l.length := by rw [HN.out]; exact hin
      obtain ⟨e0, e1, e2, e3, e4, e5, e6, e7⟩ := (HK.out.quiet HO.out).ln hil
      have hg := HL.out _ (List.getElem_mem hil)
      have HC := fun w => Lib.hid (room_any G HGG.out l[i] hg.1 hg.2 w)
      have hbd := capTo_bd HGG.out HL.out i (by omega)
      have hrm := rm_nn HGG.out hg.1 hg.2
      have HS : Hid (capTo G l (i + 1) = capTo G l i + rm G l[i].g) := Lib.hid (by simp [capTo, List.getD, hil])
      unfold Ln.val at HC
      have b1 := hbd.1
      have b2 := hbd.2
      have r1 := hrm.1
      have r2 := hrm.2
      have b3 : capTo G l i ≤ 65536 := by omega
      clear hbd hrm b2 hg
      generalize l[i] = x at *
      generalize capTo G l i = cp at *
      generalize rm G x.g = rr at *
      go_wp2_with (fail)
      refine (HC _).out.mono ?_
      rintro e w1 ⟨rfl, hO1⟩
      have HO1 := Lib.hid ((HO.out.alloc _).trans hO1)
      clear hO1 HC
      go_wp2
      go_roundw
      case rel => exact ⟨i + 1, by omega, by simp, by rw [HS.out], HO1.out⟩
      case measure => simp [intOf]; omega
    · obtain rfl : i = n := by omega
      have i1 : ¬ (i : Int) < i := by omega
      go_wp2
      go_ret
      exact ⟨rfl, HO.out⟩
set_option maxHeartbeats 1000000 in
theorem capacity_any (b off c gb : Nat) (G : Ge) (hG : G.Is) (l : List Ln) (hl : gOk l) (op : Int) (w : World) (k : LAt w b G l off c gb op) :
    Calls Tryz.prog 27 #[.pointer (some ⟨b, 0, none⟩)] w fun e w' => e = .returned (.int .i64 (capTo G l l.length)) ∧ Only (fun _ => False) w w' := by
  have H := Lib.hid (summed_any b off c gb G hG l hl op w k)
  clear k hG hl
  go_enter Tryz.func27, Tryz.ntmps27
  go_wp2_with (fail)
  refine H.out.mono ?_
  rintro e w1 ⟨rfl, hO⟩
  have HO := Lib.hid hO
  clear hO H
  go_wp2
  go_ret
  exact ⟨rfl, HO.out⟩
end Go.Proofs.YtjobaplioidogaaGreat
