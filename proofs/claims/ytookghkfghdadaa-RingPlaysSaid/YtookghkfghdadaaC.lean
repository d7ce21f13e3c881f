/- Ring: the ring in memory; New, at, Free, Head, Tail. -/
import Derived.Test.YtookghkfghdadaaB
import Derived.RegionTactic
import Derived.ChangeAlike
import Derived.BigQuiet
namespace Go.Proofs.Ytookghkfghdadaa
open Go.RowKit

/-- A cell of the ring: the slot, where its bytes lie, its state. -/
structure RC where
  x : Sl
  A : Option Addr
  c : Nat
  gp : Nat
  st : Int
def RC.cells (r : RC) : List Value := [.int .i64 r.x.k, .int .i64 r.x.l, .int .i64 r.x.s, .slice r.A r.x.data.length r.c, .int .i64 r.x.f, .int .i64 r.st]
def rcs (l : List RC) : List Value := l.flatMap RC.cells
def RC.zero : RC := ⟨⟨0, 0, 0, 0, []⟩, none, 0, 0, 0⟩
structure RC.Ok (w : World) (r : RC) : Prop where
  row : RowAt w r.A r.x.data.length r.c r.gp 5 1 (bv r.x.data)
  len : r.x.data.length ≤ 1000000

theorem rcs_len (l : List RC) : (rcs l).length = l.length * 6 := by
  induction l with
  | nil => rfl
  | cons x t ih => simp only [rcs, List.flatMap_cons, List.length_append, List.length_cons] at *; rw [ih]; simp [RC.cells]; omega
theorem rcs_get (l : List RC) (i j : Nat) (hi : i < l.length) (hj : j < 6) : (rcs l)[i * 6 + j]? = (l[i]).cells[j]? := by
  induction l generalizing i with
  | nil => simp at hi
  | cons x t ih =>
    have hc : x.cells.length = 6 := rfl
    cases i with
    | zero =>
      simp only [rcs, List.flatMap_cons, Nat.zero_mul, Nat.zero_add, List.getElem_cons_zero]
      rw [List.getElem?_append_left (by omega)]
    | succ i =>
      simp only [rcs, List.flatMap_cons, List.getElem_cons_succ]
      rw [List.getElem?_append_right (by omega)]
      have := ih i (by simpa using hi)
      rw [← this]
      congr 1
      omega

/-- A ring at block b: its cells l in block g, the tail, the head. -/
structure RgAt (w : World) (b g t h : Nat) (l : List RC) : Prop where
  st : At w b 58 #[.slice (some ⟨g, 0, none⟩) l.length l.length, .int .i64 t, .int .i64 h]
  row : At w g 63 (rcs l).toArray
  ok : ∀ x ∈ l, x.Ok w
  len : 1 ≤ l.length ∧ l.length ≤ 256
  pos : t ≤ h ∧ h ≤ t + l.length ∧ h ≤ 100000
  ne : b ≠ g

/-- Where the slots' bytes lie. -/
def RgP (l : List RC) (i : Nat) : Prop := ∃ x, x ∈ l ∧ x.A ≠ none ∧ i = x.gp

section
variable {S : Nat → Prop} {w w' : World} {b g t h : Nat} {l : List RC}
theorem RC.Ok.only {r : RC} (k : r.Ok w) (o : Only S w w') (hg : r.A ≠ none → ¬ S r.gp) : r.Ok w' := ⟨k.row.only o hg, k.len⟩
theorem RgAt.only (k : RgAt w b g t h l) (o : Only S w w') (h1 : ¬ S b) (h2 : ¬ S g) (h3 : ∀ i, RgP l i → ¬ S i) : RgAt w' b g t h l :=
  ⟨k.st.only o h1, k.row.only o h2, fun x hx => (k.ok x hx).only o (fun hA => h3 _ ⟨x, hx, hA, rfl⟩), k.len, k.pos, k.ne⟩
theorem RgAt.quiet (k : RgAt w b g t h l) (o : Only (fun _ => False) w w') : RgAt w' b g t h l := k.only o id id (fun _ _ => id)
theorem RgAt.tyP (k : RgAt w b g t h l) {i : Nat} (hi : RgP l i) : ∃ cs, At w i 5 cs := by
  obtain ⟨x, hx, hA, rfl⟩ := hi
  rcases (k.ok x hx).row with ⟨h, _⟩ | ⟨off, cells, _, h2, _⟩
  · exact absurd h hA
  · exact ⟨_, h2⟩
theorem RgAt.p_ne (k : RgAt w b g t h l) {i : Nat} (hi : RgP l i) : i ≠ b ∧ i ≠ g := by
  obtain ⟨cs, h1⟩ := k.tyP hi
  exact ⟨h1.ne k.st (by decide), h1.ne k.row (by decide)⟩
theorem RgAt.lts (k : RgAt w b g t h l) : b < w.heap.size ∧ g < w.heap.size ∧ ∀ i, RgP l i → i < w.heap.size := by
  refine ⟨k.st.lt, k.row.lt, fun i hi => ?_⟩
  obtain ⟨cs, h1⟩ := k.tyP hi
  exact h1.lt
theorem RgAt.cell (k : RgAt w b g t h l) (i j : Nat) (hi : i < l.length) (hj : j < 6) : w.cell? ⟨g, i * 6 + j, none⟩ = (l[i]).cells[j]? := by
  rw [k.row.cell, ← rcs_get l i j hi hj]
  simp
theorem RgAt.fr (k : RgAt w b g t h l) (i : Nat) : w.frozen? ⟨g, i, none⟩ = false := k.row.frozen i
end

set_option maxRecDepth 100000 in
set_option maxHeartbeats 1000000 in
theorem at_any (b g t h : Nat) (l : List RC) (p : Nat) (w : World) (k : RgAt w b g t h l) (hp : p ≤ 1000000) :
    Calls Try.prog 33 #[.pointer (some ⟨b, 0, none⟩), .int .i64 p] w fun e w' => e = .returned (.pointer (some ⟨g, (p % l.length) * 6, none⟩)) ∧ Only (fun _ => False) w w' := by
  have c0 := k.st.cell 0
  simp at c0
  obtain ⟨l1, l2⟩ := k.len
  clear k
  generalize l.length = n at *
  obtain ⟨q, hq⟩ : ∃ q, p % n = q := ⟨_, rfl⟩
  have hm : (p : Int) % (n : Int) = (q : Int) := by rw [← hq]; rfl
  have hqn : q < n := by rw [← hq]; exact Nat.mod_lt _ (by omega)
  have n0 : (n : Int) ≠ 0 := by omega
  have n1 : (1 : Int) ≤ n := by omega
  have q1 : (q : Int) < n := by omega
  have nb : ((n : Int) == 0) = false := beq_false_of_ne n0
  rw [hq]
  clear hq
  go_enter Try.func33, Try.ntmps33
  go_wp2_with (fail)
  go_quiet (fail)
  go_wp2
  go_ret
  exact ⟨rfl, (Only.refl _ _).drewN _⟩

set_option maxHeartbeats 1000000 in
theorem head_any (b g t h : Nat) (l : List RC) (w : World) (k : RgAt w b g t h l) :
    Calls Try.prog 13 #[.pointer (some ⟨b, 0, none⟩)] w fun e w' => e = .returned (.int .i64 h) ∧ w' = w := by
  have c0 := k.st.cell 2
  simp at c0
  clear k
  go_enter Try.func13, Try.ntmps13
  go_wp2
  go_ret
  exact ⟨rfl, rfl⟩
set_option maxHeartbeats 1000000 in
theorem tail_any (b g t h : Nat) (l : List RC) (w : World) (k : RgAt w b g t h l) :
    Calls Try.prog 14 #[.pointer (some ⟨b, 0, none⟩)] w fun e w' => e = .returned (.int .i64 t) ∧ w' = w := by
  have c0 := k.st.cell 1
  simp at c0
  clear k
  go_enter Try.func14, Try.ntmps14
  go_wp2
  go_ret
  exact ⟨rfl, rfl⟩
set_option maxRecDepth 100000 in
set_option maxHeartbeats 1000000 in
theorem free_any (b g t h : Nat) (l : List RC) (w : World) (k : RgAt w b g t h l) :
    Calls Try.prog 16 #[.pointer (some ⟨b, 0, none⟩)] w fun e w' => e = .returned (.int .i64 ((l.length + t - h : Nat) : Int)) ∧ Only (fun _ => False) w w' := by
  have c0 := k.st.cell 0
  have c1 := k.st.cell 1
  have c2 := k.st.cell 2
  simp at c0 c1 c2
  obtain ⟨p1, p2, p3⟩ := k.pos
  have l2 := k.len.2
  clear k
  generalize l.length = n at *
  have hr : (n : Int) - h + t = ((n + t - h : Nat) : Int) := by omega
  go_enter Try.func16, Try.ntmps16
  go_wp2_with (fail)
  go_quiet (fail)
  go_wp2
  go_ret
  exact ⟨by first | (simp; done) | (simp; omega), (Only.refl _ _).drewN _⟩

set_option maxHeartbeats 1000000 in
theorem new_bad (a : Int) (h : a < 1 ∨ 256 < a) (w : World) :
    Calls Try.prog 11 #[.int .i64 a] w fun e w' => e = .returned (.tuple #[.pointer none, .int .i64 1]) ∧ w' = w := by
  rcases h with h | h
  all_goals
    go_enter Try.func11, Try.ntmps11
    go_wp2
    all_goals (go_ret2; exact ⟨rfl, rfl⟩)

theorem zero_get (n i : Nat) (h : i < n * 6) : (rcs (List.replicate n RC.zero))[i]? = RC.zero.cells[i % 6]? := by
  have e : i / 6 * 6 + i % 6 = i := Nat.div_add_mod' i 6
  have h1 : i / 6 < n := Nat.div_lt_of_lt_mul (by omega)
  have := rcs_get (List.replicate n RC.zero) (i / 6) (i % 6) (by simpa using h1) (Nat.mod_lt _ (by omega))
  rw [e] at this
  rw [this]; simp

theorem zero_ok (w : World) : RC.zero.Ok w := ⟨.inl ⟨rfl, rfl, rfl, rfl⟩, by simp [RC.zero]⟩

set_option maxRecDepth 100000 in
set_option maxHeartbeats 1000000 in
theorem new_any (n : Nat) (h1 : 1 ≤ n) (h2 : n ≤ 256) (w : World) :
    Calls Try.prog 11 #[.int .i64 n] w fun e w' => ∃ b g, e = .returned (.tuple #[.pointer (some ⟨b, 0, none⟩), .int .i64 0]) ∧ RgAt w' b g 0 0 (List.replicate n RC.zero) ∧ w.heap.size ≤ b ∧ w.heap.size ≤ g ∧ Only (fun _ => False) w w' := by
  obtain ⟨i0, hi⟩ : ∃ i, Try.prog.info? 63 = some i := ⟨_, rfl⟩
  have hz0 : i0.zero = some (.agg #[.int .i64 0, .int .i64 0, .int .i64 0, .slice none 0 0, .int .i64 0, .int .i64 0]) := by cases hi; rfl
  have hmk : ∀ w : World, (Instr.makeSlice 56 (.int .i64 (n : Int)) (.int .i64 (n : Int))).run Try.prog w = .ok (.slice (some ⟨w.heap.size, 0, none⟩) n n) (w.alloc (.cells (rcs (List.replicate n RC.zero)).toArray 63)) := by
    intro w
    have hr := run_make (P := Try.prog) w 56 63 i0 _ Try.underlying56 hi hz0 .i64 .i64 n n (by omega) (by omega) (by cases hi; show (64 : Int) * (n : Int) ≤ _; omega) (by omega)
    rw [hr]
    have e : madeCells (Value.agg #[.int .i64 0, .int .i64 0, .int .i64 0, .slice none 0 0, .int .i64 0, .int .i64 0]).cells (((n : Int)).toNat * i0.size) = (rcs (List.replicate n RC.zero)).toArray := by
      have hsz : i0.size = 6 := by cases hi; rfl
      rw [hsz]
      apply Array.ext'
      apply List.ext_getElem?
      intro i
      by_cases hin : i < n * 6
      · rw [show (rcs (List.replicate n RC.zero)).toArray.toList = rcs (List.replicate n RC.zero) from rfl, zero_get n i hin]
        have hlt : i % 6 < 6 := Nat.mod_lt _ (by omega)
        have e1 : (madeCells (Value.agg #[.int .i64 0, .int .i64 0, .int .i64 0, .slice none 0 0, .int .i64 0, .int .i64 0]).cells (((n : Int)).toNat * 6)).toList[i]? = some ((#[Value.int .i64 0, .int .i64 0, .int .i64 0, .slice none 0 0, .int .i64 0, .int .i64 0] : Array Value)[i % 6]!) := by
          have hin' : i < ((n : Int)).toNat * 6 := by simpa using hin
          rw [Array.getElem?_toList]
          unfold madeCells
          rw [Array.getElem?_map, Array.getElem?_range, if_pos hin']
          rfl
        rw [e1]
        generalize i % 6 = r at hlt
        have hr : r = 0 ∨ r = 1 ∨ r = 2 ∨ r = 3 ∨ r = 4 ∨ r = 5 := by omega
        rcases hr with rfl | rfl | rfl | rfl | rfl | rfl <;> rfl
      · rw [List.getElem?_eq_none (by simp [madeCells]; omega), List.getElem?_eq_none (by simp [rcs_len]; omega)]
    rw [e]
    simp
  clear hi hz0
  go_enter Try.func11, Try.ntmps11
  go_wp2
  all_goals go_ret2
  refine ⟨w.heap.size + 1, w.heap.size, by simp, ?_, by omega, Nat.le_refl _, ((Only.refl _ _).alloc _).alloc _⟩
  refine ⟨?_, (At.new w 63 _).alloc _, fun x hx => ?_, by simp; omega, by simp, by omega⟩
  · rw [List.length_replicate]
    exact At.new' (by simp) 58 _
  · rw [List.eq_of_mem_replicate hx]; exact zero_ok _
end Go.Proofs.Ytookghkfghdadaa
