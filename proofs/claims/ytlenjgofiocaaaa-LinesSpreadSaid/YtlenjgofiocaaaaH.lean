/- Lines: what a call does to the lines; Open, Count, Current. -/
import Derived.Test.YtlenjgofiocaaaaF
namespace Go.Proofs.Ytlenjgofiocaaaa
open Go.RowKit

theorem lcs_set (G : Ge) (l : List Ln) (i j : Nat) (x : Ln) (v : Value) (hi : i < l.length) (hx : ((l[i]).cells G).set j v = x.cells G) (hj : j < 8) : (lcs G l).set (i * 8 + j) v = lcs G (l.set i x) := by
  induction l generalizing i with
  | nil => simp at hi
  | cons y t ih =>
    cases i with
    | zero =>
      simp only [List.getElem_cons_zero] at hx
      simp only [lcs, List.flatMap_cons, Nat.zero_mul, Nat.zero_add, List.set_cons_zero]
      rw [List.set_append_left _ _ (by simp [Ln.cells]; omega), hx]
    | succ i =>
      have h := ih i (by simpa using hi) (by simpa using hx)
      have e : (i + 1) * 8 + j = (i * 8 + j) + (y.cells G).length := by simp [Ln.cells]; omega
      simp only [lcs, List.flatMap_cons, List.set_cons_succ] at h ⊢
      rw [e, List.set_append_right _ _ (by omega), Nat.add_sub_cancel, h]
section
variable {S : Nat → Prop} {w w' : World} {b off c gb : Nat} {G : Ge} {l : List Ln} {op : Int}
theorem LAt.setG (k : LAt w b G l off c gb op) {i j : Nat} (hi : i < l.length) (hj : j < 8) (x : Ln) (v : Value) (hx : ((l[i]).cells G).set j v = x.cells G) : LAt (w.setCell ⟨gb, off + i * 8 + j, none⟩ v) b G (l.set i x) off c gb op := by
  refine ⟨by rw [List.length_set]; exact k.st.far (p := ⟨gb, off + i * 8 + j, none⟩) k.ne.symm v, ?_, by rw [List.length_set]; exact k.len⟩
  rw [List.length_set, ← lcs_set G l i j x v hi hx hj]
  rcases k.row with ⟨h0, _⟩ | ⟨off', cells, e, ha, h1, h2, h3, h4, h5⟩
  · cases h0
  · have he := e
    injection e with e
    injection e with _ e _
    subst e
    refine .inr ⟨off, cells.setIfInBounds (off + i * 8 + j) v, he, ha.set _ _, h1, h2, by simpa using h3, by rw [List.length_set]; exact h4, fun q u hu => ?_⟩
    have hlt : q < (lcs G l).length := by have := (List.getElem?_eq_some_iff.1 hu).1; rwa [List.length_set] at this
    by_cases hq : i * 8 + j = q
    · subst hq
      rw [List.getElem?_set_self hlt] at hu
      rw [Nat.add_assoc, Array.getElem?_setIfInBounds_self_of_lt (by rw [h4] at hlt; have : l.length * 8 ≤ c * 8 := Nat.mul_le_mul_right _ h1; omega)]
      exact hu
    · rw [List.getElem?_set_ne hq] at hu
      rw [Array.getElem?_setIfInBounds_ne (by omega)]
      exact h5 q u hu
theorem LAt.setS (k : LAt w b G l off c gb op) {i : Nat} (hi : i < l.length) (z : Int) : LAt (w.setCell ⟨gb, off + i * 8, none⟩ (.int .i64 z)) b G (l.set i { l[i] with s := z }) off c gb op := k.setG (j := 0) hi (by omega) _ _ rfl
theorem LAt.setW (k : LAt w b G l off c gb op) {i : Nat} (hi : i < l.length) (z : Int) : LAt (w.setCell ⟨gb, off + i * 8 + 1, none⟩ (.int .i64 z)) b G (l.set i { l[i] with w := z }) off c gb op := k.setG (j := 1) hi (by omega) _ _ rfl
theorem LAt.setGd (k : LAt w b G l off c gb op) {i : Nat} (hi : i < l.length) (z : Int) : LAt (w.setCell ⟨gb, off + i * 8 + 2, none⟩ (.int .i64 z)) b G (l.set i { l[i] with g := z }) off c gb op := k.setG (j := 2) hi (by omega) _ _ rfl
theorem LAt.setOp (k : LAt w b G l off c gb op) (z : Int) : LAt (w.setCell ⟨b, 1, none⟩ (.int .i64 z)) b G l off c gb z := by
  refine ⟨k.st.set 1 _, ?_, k.len⟩
  rcases k.row with ⟨h0, _⟩ | ⟨off', cells, e, ha, hr⟩
  · cases h0
  · exact .inr ⟨off', cells, e, ha.far (p := ⟨b, 1, none⟩) k.ne _, hr⟩
end

theorem count_any (b off c gb : Nat) (G : Ge) (l : List Ln) (op st : Int) (w : World) (k : LAt w b G l off c gb op) :
    Calls Try.prog 23 #[.pointer (some ⟨b, 0, none⟩), .int .i64 st] w fun e W' => e = .returned (.int .i64 ((flt l st l.length).length : Int)) ∧ Only (fun _ => False) w W' :=
  ((callsIn_wide (n := 5)).1 (count_in Fence.wide 5 trivial trivial trivial rfl (by omega) b off c gb G l op st w k)).mono fun _ _ ⟨he, hb⟩ => ⟨he, Only.of_below hb⟩

def OpenP (b off c gb : Nat) (G : Ge) (l : List Ln) (op : Int) (w : World) (o : Option (Ent l)) (e : Ending) (w' : World) : Prop :=
  match o with
  | none => e = .returned (.tuple #[.int .i64 0, .int .i64 11]) ∧ Only (fun _ => False) w w'
  | some y => e = .returned (.tuple #[.int .i64 (y.1.1 : Int), .int .i64 0]) ∧ LAt w' b G (l.set y.1.1 { y.1.2 with s := 1 }) off c gb y.1.1 ∧ Only (fun i => i = b ∨ i = gb) w w'

theorem open_any (b off c gb : Nat) (G : Ge) (l : List Ln) (op : Int) (w : World) (k : LAt w b G l off c gb op) (hop : op < 0) :
    Calls Try.prog 15 #[.pointer (some ⟨b, 0, none⟩)] w (OpenP b off c gb G l op w (bst (flt l 0 l.length))) := by
  refine ((callsIn_wide (n := 5)).1 (open_in Fence.wide 5 trivial trivial trivial rfl (by omega) b off c gb G l op w k hop)).mono fun e w' h => ?_
  cases hb : bst (flt l 0 l.length) with
  | none =>
    rw [hb] at h
    exact ⟨h.1, Only.of_below h.2⟩
  | some y =>
    rw [hb] at h
    obtain ⟨he, W, h1, h2⟩ := h
    have hyl := (List.getElem?_eq_some_iff.1 y.2).1
    have hye : l[y.1.1] = y.1.2 := by have := y.2; rw [List.getElem?_eq_getElem hyl] at this; injection this
    have hlt := k.lts
    have k1 := ((k.below h1 hlt.1 hlt.2).setS hyl 1).setOp (y.1.1 : Int)
    rw [hye] at k1
    refine ⟨he, k1.below h2 hlt.1 hlt.2, ?_⟩
    have o1 : Only (fun i => i = b ∨ i = gb) w ((W.setCell ⟨gb, off + y.1.1 * 8, none⟩ (.int .i64 1)).setCell ⟨b, 1, none⟩ (.int .i64 (y.1.1 : Int))) :=
      ((Only.of_below h1).setCell (p := ⟨gb, off + y.1.1 * 8, none⟩) (fun _ => .inr rfl) _).setCell (p := ⟨b, 1, none⟩) (fun _ => .inl rfl) _
    have hsz : w.heap.size ≤ ((W.setCell ⟨gb, off + y.1.1 * 8, none⟩ (.int .i64 1)).setCell ⟨b, 1, none⟩ (.int .i64 (y.1.1 : Int))).heap.size := o1.size
    exact ⟨h2.os.trans o1.os, h2.tape.trans o1.tape, h2.output.trans o1.output, Nat.le_trans o1.size h2.size, fun i hi hs => (h2.block i hi).trans (o1.block i hi hs)⟩

set_option maxHeartbeats 1000000 in
theorem current_any (b off c gb : Nat) (G : Ge) (l : List Ln) (op : Int) (w : World) (k : LAt w b G l off c gb op) :
    Calls Try.prog 13 #[.pointer (some ⟨b, 0, none⟩)] w fun e w' => e = .returned (.int .i64 op) ∧ w' = w := by
  have c1 := k.st.cell 1
  simp at c1
  clear k
  go_enter Try.func13, Try.ntmps13
  go_wp2
  go_ret
  exact ⟨rfl, rfl⟩

/-- What the lines have room for, the first k. -/
def capTo (G : Ge) (l : List Ln) : Nat → Int
  | 0 => 0
  | k + 1 => capTo G l k + rm G (l.getD k ⟨0, 0, 0⟩).g
def gOk (l : List Ln) : Prop := ∀ x ∈ l, 0 ≤ x.g ∧ x.g ≤ 8
theorem capTo_bd {G : Ge} (hG : G.Is) {l : List Ln} (hl : gOk l) : ∀ k, k ≤ l.length → 0 ≤ capTo G l k ∧ capTo G l k ≤ k * 1024
  | 0, _ => by simp [capTo]
  | k + 1, h => by
    have ih := capTo_bd hG hl k (by omega)
    have hx : l.getD k ⟨0, 0, 0⟩ = l[k] := by simp [List.getD, (show k < l.length by omega)]
    have hg := hl _ (List.getElem_mem (show k < l.length by omega))
    have := rm_nn hG hg.1 hg.2
    simp only [capTo, hx]
    omega

set_option maxRecDepth 100000 in
set_option maxHeartbeats 4000000 in
theorem summed_any (b off c gb : Nat) (G : Ge) (hG : G.Is) (l : List Ln) (hl : gOk l) (op : Int) (w : World) (k : LAt w b G l off c gb op) :
    Calls Try.prog 43 #[.pointer (some ⟨b, 0, none⟩), .func (.func 34) #[] #[]] w fun e w' => e = .returned (.int .i64 (capTo G l l.length)) ∧ Only (fun _ => False) w w' := by
  have c0 := k.st.cell 0
  simp at c0
  have hln := k.len
  have HK := Lib.hid k
  have HGG := Lib.hid hG
  have HL := Lib.hid hl
  clear k hG hl
  obtain ⟨n, hn⟩ : ∃ n, l.length = n := ⟨_, rfl⟩
  have HN := Lib.hid hn
  rw [hn] at c0 hln ⊢
  clear hn
  go_enter Try.func43, Try.ntmps43
  go_wp2_with (fail)
  go_loopw [5, 13] (fun v5 v13 wr => ∃ i : Nat, i ≤ n ∧ v13 = .int .i64 i ∧ v5 = .int .i64 (capTo G l i) ∧ Only (fun _ => False) w wr) (fun _ v13 wr => (n - intOf v13).toNat)
  case atStart => exact ⟨0, by omega, rfl, rfl, Only.refl _ _⟩
  case round =>
    obtain ⟨i, hi, rfl, rfl, hO⟩ := hrel
    have HO := Lib.hid hO
    clear hO
    by_cases hin : i < n
    · have i0 : (0 : Int) ≤ i := by omega
      have i1 : (i : Int) < n := by omega
      have hil : i < l.length := by rw [HN.out]; exact hin
      obtain ⟨e0, e1, e2, e3, e4, e5, e6, e7⟩ := (HK.out.quiet HO.out).ln hil
      have hg := HL.out _ (List.getElem_mem hil)
      have HC := fun w => Lib.hid (room_any G HGG.out l[i] hg.1 hg.2 w)
      have hbd := capTo_bd HGG.out HL.out i (by omega)
      have hrm := rm_nn HGG.out hg.1 hg.2
      have HS : Hid (capTo G l (i + 1) = capTo G l i + rm G l[i].g) := Lib.hid (by simp [capTo, List.getD, hil])
      unfold Ln.val at HC
      have b1 := hbd.1
      have b2 := hbd.2
      have r1 := hrm.1
      have r2 := hrm.2
      have b3 : capTo G l i ≤ 65536 := by omega
      clear hbd hrm b2 hg
      generalize l[i] = x at *
      generalize capTo G l i = cp at *
      generalize rm G x.g = rr at *
      go_wp2_with (fail)
      refine (HC _).out.mono ?_
      rintro e w1 ⟨rfl, hO1⟩
      have HO1 := Lib.hid ((HO.out.alloc _).trans hO1)
      clear hO1 HC
      go_wp2
      go_roundw
      case rel => exact ⟨i + 1, by omega, by simp, by rw [HS.out], HO1.out⟩
      case measure => simp [intOf]; omega
    · obtain rfl : i = n := by omega
      have i1 : ¬ (i : Int) < i := by omega
      go_wp2
      go_ret
      exact ⟨rfl, HO.out⟩
set_option maxHeartbeats 1000000 in
theorem capacity_any (b off c gb : Nat) (G : Ge) (hG : G.Is) (l : List Ln) (hl : gOk l) (op : Int) (w : World) (k : LAt w b G l off c gb op) :
    Calls Try.prog 22 #[.pointer (some ⟨b, 0, none⟩)] w fun e w' => e = .returned (.int .i64 (capTo G l l.length)) ∧ Only (fun _ => False) w w' := by
  have H := Lib.hid (summed_any b off c gb G hG l hl op w k)
  clear k hG hl
  go_enter Try.func22, Try.ntmps22
  go_wp2_with (fail)
  refine H.out.mono ?_
  rintro e w1 ⟨rfl, hO⟩
  have HO := Lib.hid hO
  clear hO H
  go_wp2
  go_ret
  exact ⟨rfl, HO.out⟩
end Go.Proofs.Ytlenjgofiocaaaa
