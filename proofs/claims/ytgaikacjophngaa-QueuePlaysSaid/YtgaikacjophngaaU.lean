/- Queue: the law QueueBusy, walked. -/
import Derived.Test.YtgaikacjophngaaO
namespace Go.Proofs.Ytgaikacjophngaa
open Go.RowKit

/-- The job of which only the line is told. -/
def jl (z : Int) : Jb := ⟨0, z, 0, 0, []⟩
/-- Behind n numbers put in turn into three channels: what channel c holds. -/
def turns (l : List Int) (n c : Nat) : List Jb := ((List.range n).filter (fun i => i % 3 == c)).map (fun i => jl (l.getD i 0))

theorem turns_succ (l : List Int) (n : Nat) : turns l (n + 1) = updA (turns l n) (n % 3) (turns l n (n % 3) ++ [jl (l.getD n 0)]) := by
  funext c
  simp only [turns, updA, List.range_succ, List.filter_append, List.map_append]
  by_cases h : c = n % 3
  · subst h; simp
  · rw [if_neg h]
    have : (n % 3 == c) = false := beq_false_of_ne (fun e => h e.symm)
    simp [List.filter, this]

theorem turns_len (l : List Int) (n c : Nat) : (turns l n c).length ≤ n := by
  simp only [turns, List.length_map]
  have := List.length_filter_le (fun i => i % 3 == c) (List.range n)
  simpa using this

/-- When the first k have gone again. -/
def left (l : List Int) (n k c : Nat) : List Jb := (((List.range n).filter (fun i => decide (k ≤ i))).filter (fun i => i % 3 == c)).map (fun i => jl (l.getD i 0))
theorem left_zero (l : List Int) (n : Nat) : left l n 0 = turns l n := by
  funext c
  simp [left, turns]
theorem range_from (n k : Nat) (h : k < n) : (List.range n).filter (fun i => decide (k ≤ i)) = k :: (List.range n).filter (fun i => decide (k + 1 ≤ i)) := by
  induction n with
  | zero => omega
  | succ n ih =>
    rw [List.range_succ, List.filter_append, List.filter_append]
    by_cases hk : k < n
    · rw [ih hk]
      have h1 : decide (k ≤ n) = true := by simp; omega
      have h2 : decide (k + 1 ≤ n) = true := by simp; omega
      simp [List.filter, h1, h2]
    · obtain rfl : k = n := by omega
      have h1 : (List.range k).filter (fun i => decide (k ≤ i)) = [] := by
        rw [List.filter_eq_nil_iff]; intro i hi; simp at hi ⊢; omega
      have h2 : (List.range k).filter (fun i => decide (k + 1 ≤ i)) = [] := by
        rw [List.filter_eq_nil_iff]; intro i hi; simp at hi ⊢; omega
      have h3 : decide (k + 1 ≤ k) = false := by simp
      rw [h1, h2]
      simp [List.filter, h3]
theorem left_head (l : List Int) (n k : Nat) (h : k < n) : left l n k (k % 3) = jl (l.getD k 0) :: left l n (k + 1) (k % 3) := by
  simp only [left]
  rw [range_from n k h]
  simp [List.filter]
theorem left_succ (l : List Int) (n k : Nat) (h : k < n) : left l n (k + 1) = updA (left l n k) (k % 3) (left l n (k + 1) (k % 3)) := by
  funext c
  by_cases hc : c = k % 3
  · subst hc; simp [updA]
  · simp only [updA, if_neg hc, left]
    rw [range_from n k h]
    have : (k % 3 == c) = false := beq_false_of_ne (fun e => hc e.symm)
    simp [List.filter, this]
theorem left_len (l : List Int) (n k c : Nat) : (left l n k c).length ≤ n := by
  simp only [left, List.length_map]
  have h1 := List.length_filter_le (fun i => i % 3 == c) ((List.range n).filter (fun i => decide (k ≤ i)))
  have h2 := List.length_filter_le (fun i => decide (k ≤ i)) (List.range n)
  simp at h2
  omega

theorem cntA_append (a b : List Jb) (line : Int) : cntA (a ++ b) line = cntA a line + cntA b line := by simp [cntA]
theorem cntA_cons (x : Jb) (b : List Jb) (line : Int) : cntA (x :: b) line = cntA b line + if x.l = line then 1 else 0 := by
  simp only [cntA, List.countP_cons, beq_iff_eq]
theorem busyA_upd (a : Nat → List Jb) (n : Nat) (hn : n < 4) (x : List Jb) (line : Int) : busyA (updA a n x) line + cntA (a n) line = busyA a line + cntA x line := by
  match n, hn with
  | 0, _ => simp [busyA, updA]; omega
  | 1, _ => simp [busyA, updA]; omega
  | 2, _ => simp [busyA, updA]; omega
  | 3, _ => simp [busyA, updA]; omega

theorem busy_put (l : List Int) (n : Nat) (line : Int) : busyA (turns l (n + 1)) line = busyA (turns l n) line + if l.getD n 0 = line then 1 else 0 := by
  have h := busyA_upd (turns l n) (n % 3) (by omega) (turns l n (n % 3) ++ [jl (l.getD n 0)]) line
  rw [← turns_succ, cntA_append, cntA_cons, show (jl (l.getD n 0)).l = l.getD n 0 from rfl, show cntA [] line = 0 from rfl] at h
  omega
theorem busy_pop (l : List Int) (n k : Nat) (hk : k < n) (line : Int) : busyA (left l n k) line = busyA (left l n (k + 1)) line + if l.getD k 0 = line then 1 else 0 := by
  have h := busyA_upd (left l n k) (k % 3) (by omega) (left l n (k + 1) (k % 3)) line
  rw [← left_succ l n k hk, left_head l n k hk, cntA_cons, show (jl (l.getD k 0)).l = l.getD k 0 from rfl] at h
  omega
theorem busy_none (l : List Int) (n : Nat) (line : Int) : busyA (left l n n) line = 0 := by
  have : ∀ c, left l n n c = [] := by
    intro c
    have h2 : (List.range n).filter (fun i => decide (n ≤ i)) = [] := by
      rw [List.filter_eq_nil_iff]; intro i hi; simp at hi ⊢; omega
    simp only [left, h2]; rfl
  simp [busyA, this, cntA]
theorem busy_le (l : List Int) (n k : Nat) (line : Int) : busyA (left l n k) line ≤ 4 * n := by
  have h : ∀ c, cntA (left l n k c) line ≤ n := fun c => Nat.le_trans List.countP_le_length (left_len l n k c)
  have h0 := h 0; have h1 := h 1; have h2 := h 2; have h3 := h 3
  simp only [busyA]; omega
theorem busy_le' (l : List Int) (n : Nat) (line : Int) : busyA (turns l n) line ≤ 4 * n := by rw [← left_zero]; exact busy_le l n 0 line
end Go.Proofs.Ytgaikacjophngaa
