/- Sched: contracts of New and Waits, of the program and of the reference. -/
import Derived.Test.YtcbgobgicknhiaaM
namespace Go.Proofs.Ytcbgobgicknhiaa
open Go.RowKit

theorem Try.info3 : (Try.prog.info? 3).map (fun i => (i.zero, i.size, i.bytes)) = some (some (.int .i64 0), 1, 8) := by kernel_rfl

/-- Integers as cells. -/
def oc (l : List Int) : Array Value := (l.map (Value.int .i64)).toArray
theorem oc_set (l : List Int) (i : Nat) (z : Int) : (oc l).setIfInBounds i (.int .i64 z) = oc (l.set i z) := by simp [oc, List.map_set]
theorem oc_zero (n : Nat) : oc (List.replicate n 0) = zeros (.int .i64 0) n := by simp [oc, zeros]
theorem oc_get {l : List Int} {i : Nat} (h : i < l.length) : (oc l)[i]? = some (.int .i64 l[i]) := by simp [oc, h]

/-- At block b lies a scheduler (of type T) of this patience, whose waits lie in block g. -/
structure SAt (w : World) (b g : Nat) (T : TypeId) (ws : List Int) (pat : Int) : Prop where
  st : At w b T #[.slice (some ⟨g, 0, none⟩) ws.length ws.length, .int .i64 pat]
  row : At w g 3 (oc ws)

theorem SAt.only {S : Nat → Prop} {w w' : World} {b g : Nat} {T : TypeId} {ws : List Int} {pat : Int} (h : SAt w b g T ws pat) (k : Only S w w') (hb : ¬ S b) (hg : ¬ S g) : SAt w' b g T ws pat :=
  ⟨h.st.only k hb, h.row.only k hg⟩

def badN (a p : Int) : Bool := decide (a < 1) || decide (32 < a) || decide (p < 1) || decide (1000 < p)
theorem badN_iff (a p : Int) : badN a p = true ↔ (a < 1 ∨ 32 < a ∨ p < 1 ∨ 1000 < p) := by simp [badN, Bool.or_eq_true, or_assoc]

def NewPost (T : TypeId) (n : Nat) (p : Int) (w : World) (e : Ending) (w' : World) : Prop :=
  ∃ b g, e = .returned (.tuple #[.pointer (some ⟨b, 0, none⟩), .int .i64 0]) ∧ w.heap.size ≤ b ∧ w.heap.size ≤ g ∧ b ≠ g ∧ SAt w' b g T (List.replicate n 0) p ∧ Only (fun _ => False) w w'

set_option maxHeartbeats 1000000 in
theorem new_bad (a p : Int) (w : World) (h : badN a p = true) :
    Calls Try.prog 10 #[.int .i64 a, .int .i64 p] w fun e w' => e = .returned (.tuple #[.pointer none, .int .i64 1]) ∧ w = w' := by
  rw [badN_iff] at h
  rcases h with h | h | h | h
  all_goals
    go_enter Try.func10, Try.ntmps10
    go_wp2
    all_goals (go_ret2; exact ⟨rfl, rfl⟩)

set_option maxHeartbeats 1000000 in
theorem new_good (n : Nat) (p : Int) (w : World) (h : badN n p = false) :
    Calls Try.prog 10 #[.int .i64 n, .int .i64 p] w (NewPost 47 n p w) := by
  have hb : ¬ (((n : Nat) : Int) < 1 ∨ 32 < (n : Int) ∨ p < 1 ∨ 1000 < p) := fun h' => by have := (badN_iff _ _).2 h'; simp [h] at this
  have h1 : 1 ≤ (n : Int) := by omega
  have h2 : (n : Int) ≤ 32 := by omega
  have h3 : 1 ≤ p := by omega
  have h4 : p ≤ 1000 := by omega
  clear hb h
  obtain ⟨i0, hi0, hz0, hz1, hz2⟩ := info_parts Try.info3
  have hmk := fun W => run_make_one (P := Try.prog) Try.underlying43 hi0 hz0 rfl hz1 n (by rw [hz2]; omega) (by omega) W
  go_enter Try.func10, Try.ntmps10
  go_wp2
  all_goals
    go_ret2
    have q1 := At.new w 3 (zeros (.int .i64 0) n)
    have q2 := At.new (w.alloc (.cells (zeros (.int .i64 0) n) 3)) 47 #[.slice (some ⟨w.heap.size, 0, none⟩) n n, .int .i64 p]
    refine ⟨w.heap.size + 1, w.heap.size, rfl, by omega, Nat.le_refl _, by omega, ⟨by simpa using q2, ?_⟩, ((Only.refl _ _).alloc _).alloc _⟩
    rw [oc_zero]
    exact q1.alloc _

set_option maxHeartbeats 1000000 in
theorem refNew_bad (a p : Int) (w : World) (h : badN a p = true) :
    Calls Try.prog 11 #[.int .i64 a, .int .i64 p] w fun e w' => e = .returned (.tuple #[.pointer none, .int .i64 1]) ∧ w = w' := by
  rw [badN_iff] at h
  rcases h with h | h | h | h
  all_goals
    go_enter Try.func11, Try.ntmps11
    go_wp2
    all_goals (go_ret2; exact ⟨rfl, rfl⟩)

set_option maxHeartbeats 1000000 in
theorem refNew_good (n : Nat) (p : Int) (w : World) (h : badN n p = false) :
    Calls Try.prog 11 #[.int .i64 n, .int .i64 p] w (NewPost 49 n p w) := by
  have hb : ¬ (((n : Nat) : Int) < 1 ∨ 32 < (n : Int) ∨ p < 1 ∨ 1000 < p) := fun h' => by have := (badN_iff _ _).2 h'; simp [h] at this
  have h1 : 1 ≤ (n : Int) := by omega
  have h2 : (n : Int) ≤ 32 := by omega
  have h3 : 1 ≤ p := by omega
  have h4 : p ≤ 1000 := by omega
  clear hb h
  obtain ⟨i0, hi0, hz0, hz1, hz2⟩ := info_parts Try.info3
  have hmk := fun W => run_make_one (P := Try.prog) Try.underlying43 hi0 hz0 rfl hz1 n (by rw [hz2]; omega) (by omega) W
  go_enter Try.func11, Try.ntmps11
  go_wp2
  all_goals
    go_ret2
    have q1 := At.new w 3 (zeros (.int .i64 0) n)
    have q2 := At.new (w.alloc (.cells (zeros (.int .i64 0) n) 3)) 49 #[.slice (some ⟨w.heap.size, 0, none⟩) n n, .int .i64 p]
    refine ⟨w.heap.size + 1, w.heap.size, rfl, by omega, Nat.le_refl _, by omega, ⟨by simpa using q2, ?_⟩, ((Only.refl _ _).alloc _).alloc _⟩
    rw [oc_zero]
    exact q1.alloc _


theorem waits_at {ws : List Int} {w : World} {g k : Nat} (h : At w g 3 (oc ws)) (hk : k < ws.length) : w.cell? ⟨g, k, none⟩ = some (.int .i64 ws[k]) := by
  rw [h.cell k, oc_get hk]

def waitI (ws : List Int) (i : Int) : Int := if 0 ≤ i then ws.getD i.toNat 0 else 0

set_option maxHeartbeats 1000000 in
theorem waits_any (b g : Nat) (ws : List Int) (pat i : Int) (w : World) (h : SAt w b g 47 ws pat) :
    Calls Try.prog 12 #[.pointer (some ⟨b, 0, none⟩), .int .i64 i] w fun e w' => e = .returned (.int .i64 (waitI ws i)) ∧ Only (fun _ => False) w w' := by
  have h0 := h.st.cell 0
  simp at h0
  by_cases hi : i < 0
  · have hw : waitI ws i = 0 := by unfold waitI; rw [if_neg (by omega)]
    rw [hw]; clear hw
    go_enter Try.func12, Try.ntmps12
    go_wp2
    all_goals (go_ret; exact ⟨rfl, Only.refl _ _⟩)
  · obtain ⟨k, rfl⟩ := Int.eq_ofNat_of_zero_le (show 0 ≤ i by omega)
    by_cases hk : k < ws.length
    · have hw : waitI ws k = ws[k] := by simp [waitI, List.getD, hk]
      have hc := waits_at h.row hk
      rw [hw]; clear hw
      generalize ws[k] = z at *
      have i1 : (0 : Int) ≤ (k : Int) := by omega
      have i2 : (k : Int) < (ws.length : Int) := by omega
      go_enter Try.func12, Try.ntmps12
      go_wp2
      all_goals (go_ret; exact ⟨rfl, Only.refl _ _⟩)
    · have hw : waitI ws k = 0 := by simp [waitI, List.getD, List.getElem?_eq_none (show ws.length ≤ k by omega)]
      rw [hw]; clear hw
      have i2 : (ws.length : Int) ≤ (k : Int) := by omega
      go_enter Try.func12, Try.ntmps12
      go_wp2
      all_goals (go_ret; exact ⟨rfl, Only.refl _ _⟩)

set_option maxHeartbeats 1000000 in
theorem refWaits_any (b g : Nat) (ws : List Int) (pat i : Int) (w : World) (h : SAt w b g 49 ws pat) :
    Calls Try.prog 15 #[.pointer (some ⟨b, 0, none⟩), .int .i64 i] w fun e w' => e = .returned (.int .i64 (waitI ws i)) ∧ Only (fun _ => False) w w' := by
  have h0 := h.st.cell 0
  simp at h0
  by_cases hi : i < 0
  · have hw : waitI ws i = 0 := by unfold waitI; rw [if_neg (by omega)]
    rw [hw]; clear hw
    go_enter Try.func15, Try.ntmps15
    go_wp2
    all_goals (go_ret; exact ⟨rfl, Only.refl _ _⟩)
  · obtain ⟨k, rfl⟩ := Int.eq_ofNat_of_zero_le (show 0 ≤ i by omega)
    by_cases hk : k < ws.length
    · have hw : waitI ws k = ws[k] := by simp [waitI, List.getD, hk]
      have hc := waits_at h.row hk
      rw [hw]; clear hw
      generalize ws[k] = z at *
      have i1 : (0 : Int) ≤ (k : Int) := by omega
      have i2 : (k : Int) < (ws.length : Int) := by omega
      go_enter Try.func15, Try.ntmps15
      go_wp2
      all_goals (go_ret; exact ⟨rfl, Only.refl _ _⟩)
    · have hw : waitI ws k = 0 := by simp [waitI, List.getD, List.getElem?_eq_none (show ws.length ≤ k by omega)]
      rw [hw]; clear hw
      have i2 : (ws.length : Int) ≤ (k : Int) := by omega
      go_enter Try.func15, Try.ntmps15
      go_wp2
      all_goals (go_ret; exact ⟨rfl, Only.refl _ _⟩)

end Go.Proofs.Ytcbgobgicknhiaa
