/- Queue: the queues in memory; New, has, Len. -/
import Derived.Test.YtgaikacjophngaaC
namespace Go.Proofs.Ytgaikacjophngaa
open Go.RowKit

/-- A job. -/
structure Jb where
  k : Int
  l : Int
  u : Int
  p : Int
  pos : List Int
/-- A job as it lies: its places at A, room for c, in block gp. -/
structure SJ where
  j : Jb
  A : Option Addr
  c : Nat
  gp : Nat
def SJ.cells (s : SJ) : List Value := [.int .i64 s.j.k, .int .i64 s.j.l, .int .i64 s.j.u, .int .i64 s.j.p, .slice s.A s.j.pos.length s.c]
structure SJ.Ok (w : World) (s : SJ) : Prop where
  row : RowAt w s.A s.j.pos.length s.c s.gp 3 1 (iv s.j.pos)
  len : s.j.pos.length ≤ 1000000
def jv (l : List SJ) : List Value := l.flatMap SJ.cells
theorem jv_append (a b : List SJ) : jv (a ++ b) = jv a ++ jv b := by simp [jv]
theorem jv_one (s : SJ) : jv [s] = s.cells := by simp [jv]
theorem jv_cons (s : SJ) (l : List SJ) : jv (s :: l) = s.cells ++ jv l := by simp [jv]
theorem jv_len (l : List SJ) : (jv l).length = l.length * 5 := by
  induction l with
  | nil => rfl
  | cons x t ih => rw [jv_cons, List.length_append, ih, List.length_cons]; simp [SJ.cells]; omega

theorem SJ.Ok.only {S : Nat → Prop} {w w' : World} {s : SJ} (h : s.Ok w) (k : Only S w w') (hg : s.A ≠ none → ¬ S s.gp) : s.Ok w' := ⟨h.row.only k hg, h.len⟩

/-- A channel's jobs as they lie. -/
structure QRow where
  A : Option Addr
  c : Nat
  g : Nat
  js : List SJ
def QRow.val (r : QRow) : Value := .slice r.A r.js.length r.c
def QRow.nil : QRow := ⟨none, 0, 0, []⟩

def upd (q : Nat → QRow) (n : Nat) (r : QRow) : Nat → QRow := fun i => if i = n then r else q i
theorem upd_self (q : Nat → QRow) (n : Nat) (r : QRow) : upd q n r n = r := by simp [upd]
theorem upd_ne (q : Nat → QRow) (n i : Nat) (r : QRow) (h : i ≠ n) : upd q n r i = q i := by simp [upd, h]

def qcells (chans : Nat) (q : Nat → QRow) : Array Value := #[.int .i64 chans, (q 0).val, (q 1).val, (q 2).val, (q 3).val]
theorem qcells_get (chans : Nat) (q : Nat → QRow) (n : Nat) (h : n < 4) : (qcells chans q)[1 + n]? = some (q n).val := by
  match n, h with
  | 0, _ => rfl
  | 1, _ => rfl
  | 2, _ => rfl
  | 3, _ => rfl
theorem qcells_set (chans : Nat) (q : Nat → QRow) (n : Nat) (h : n < 4) (r : QRow) : (qcells chans q).setIfInBounds (1 + n) r.val = qcells chans (upd q n r) := by
  match n, h with
  | 0, _ => rfl
  | 1, _ => rfl
  | 2, _ => rfl
  | 3, _ => rfl

structure QAt (w : World) (b chans : Nat) (q : Nat → QRow) : Prop where
  st : At w b 50 (qcells chans q)
  row : ∀ i, i < 4 → RowAt w (q i).A (q i).js.length (q i).c (q i).g 31 5 (jv (q i).js)
  ok : ∀ i, i < 4 → ∀ s ∈ (q i).js, s.Ok w
  far : ∀ i j, i < 4 → j < 4 → i ≠ j → (q i).A ≠ none → (q j).A ≠ none → (q i).g ≠ (q j).g
  hc : 1 ≤ chans ∧ chans ≤ 4

/-- What a call may write: the queues, and their rows. -/
def QS (b : Nat) (q : Nat → QRow) (i : Nat) : Prop := i = b ∨ ∃ k, k < 4 ∧ (q k).A ≠ none ∧ i = (q k).g
/-- Where the jobs' places lie. -/
def QP (q : Nat → QRow) (i : Nat) : Prop := ∃ k, k < 4 ∧ ∃ s, s ∈ (q k).js ∧ s.A ≠ none ∧ i = s.gp

theorem QAt.only {S : Nat → Prop} {w w' : World} {b chans : Nat} {q : Nat → QRow} (h : QAt w b chans q) (k : Only S w w') (h1 : ∀ i, QS b q i → ¬ S i) (h2 : ∀ i, QP q i → ¬ S i) : QAt w' b chans q :=
  ⟨h.st.only k (h1 _ (.inl rfl)), fun i hi => (h.row i hi).only k (fun hA => h1 _ (.inr ⟨i, hi, hA, rfl⟩)), fun i hi s hs => (h.ok i hi s hs).only k (fun hA => h2 _ ⟨i, hi, s, hs, hA, rfl⟩), h.far, h.hc⟩
theorem QAt.quiet {w w' : World} {b chans : Nat} {q : Nat → QRow} (h : QAt w b chans q) (k : Only (fun _ => False) w w') : QAt w' b chans q := h.only k (fun _ _ => id) (fun _ _ => id)

theorem QAt.ty {w : World} {b chans : Nat} {q : Nat → QRow} (h : QAt w b chans q) {i : Nat} (hi : QS b q i) : ∃ t cs, At w i t cs ∧ (t = 50 ∨ t = 31) := by
  rcases hi with rfl | ⟨k, hk, hA, rfl⟩
  · exact ⟨_, _, h.st, .inl rfl⟩
  · rcases h.row k hk with ⟨h, _⟩ | ⟨off, cells, _, h2, _⟩
    · exact absurd h hA
    · exact ⟨_, _, h2, .inr rfl⟩
theorem QAt.tyP {w : World} {b chans : Nat} {q : Nat → QRow} (h : QAt w b chans q) {i : Nat} (hi : QP q i) : ∃ cs, At w i 3 cs := by
  obtain ⟨k, hk, s, hs, hA, rfl⟩ := hi
  rcases (h.ok k hk s hs).row with ⟨h, _⟩ | ⟨off, cells, _, h2, _⟩
  · exact absurd h hA
  · exact ⟨_, h2⟩
theorem QAt.apart {w : World} {b chans : Nat} {q : Nat → QRow} (h : QAt w b chans q) {i : Nat} (hp : QP q i) : ¬ QS b q i := by
  intro hs
  obtain ⟨cs, h1⟩ := h.tyP hp
  obtain ⟨t, cs', h2, h3⟩ := h.ty hs
  have := h1.ne h2 (by rcases h3 with rfl | rfl <;> decide)
  exact this rfl
theorem QAt.cell {w : World} {b chans : Nat} {q : Nat → QRow} (h : QAt w b chans q) (n : Nat) (hn : n < 4) : w.cell? ⟨b, 1 + n, none⟩ = some (q n).val := (h.st.cell _).trans (qcells_get chans q n hn)
theorem QAt.cell0 {w : World} {b chans : Nat} {q : Nat → QRow} (h : QAt w b chans q) : w.cell? ⟨b, 0, none⟩ = some (.int .i64 chans) := h.st.cell 0

set_option maxHeartbeats 1000000 in
theorem new_bad (a : Int) (h : a < 1 ∨ 4 < a) (w : World) :
    Calls Try.prog 9 #[.int .i64 a] w fun e w' => e = .returned (.tuple #[.pointer none, .int .i64 1]) ∧ w' = w := by
  rcases h with h | h
  all_goals
    go_enter Try.func9, Try.ntmps9
    go_wp2
    all_goals (go_ret2; exact ⟨rfl, rfl⟩)

set_option maxHeartbeats 1000000 in
theorem new_any (n : Nat) (h1 : 1 ≤ n) (h2 : n ≤ 4) (w : World) :
    Calls Try.prog 9 #[.int .i64 n] w fun e w' => e = .returned (.tuple #[.pointer (some ⟨w.heap.size, 0, none⟩), .int .i64 0]) ∧ QAt w' w.heap.size n (fun _ => QRow.nil) ∧ Only (fun _ => False) w w' := by
  go_enter Try.func9, Try.ntmps9
  go_wp2
  all_goals go_ret2
  refine ⟨rfl, ⟨At.new _ _ _, fun i hi => .inl ⟨rfl, rfl, rfl, rfl⟩, fun i hi s hs => (by cases hs), fun i j _ _ _ h => absurd rfl h, h1, h2⟩, (Only.refl _ _).alloc _⟩

set_option maxHeartbeats 1000000 in
theorem has_out (b chans : Nat) (q : Nat → QRow) (n : Int) (hn : n < 0 ∨ chans ≤ n) (w : World) (h : QAt w b chans q) :
    Calls Try.prog 18 #[.pointer (some ⟨b, 0, none⟩), .int .i64 n] w fun e w' => e = .returned (.bool false) ∧ w' = w := by
  have c0 := h.cell0
  have h4 := h.hc.2
  clear h
  have hn : n < 0 ∨ (0 ≤ n ∧ (chans : Int) ≤ n) := by omega
  rcases hn with hn | ⟨hn, hn'⟩
  all_goals
    go_enter Try.func18, Try.ntmps18
    go_wp2
    all_goals (go_ret; exact ⟨by first | rfl | (simp; omega), rfl⟩)

set_option maxHeartbeats 1000000 in
theorem has_in (b chans : Nat) (q : Nat → QRow) (n : Nat) (hn : n < chans) (w : World) (h : QAt w b chans q) :
    Calls Try.prog 18 #[.pointer (some ⟨b, 0, none⟩), .int .i64 n] w fun e w' => e = .returned (.bool true) ∧ w' = w := by
  have c0 := h.cell0
  have hn' : (n : Int) < chans := by omega
  have h4 := h.hc.2
  clear h
  go_enter Try.func18, Try.ntmps18
  go_wp2
  all_goals (go_ret; exact ⟨rfl, rfl⟩)

set_option maxHeartbeats 1000000 in
theorem len_out (b chans : Nat) (q : Nat → QRow) (n : Int) (hn : n < 0 ∨ chans ≤ n) (w : World) (h : QAt w b chans q) :
    Calls Try.prog 12 #[.pointer (some ⟨b, 0, none⟩), .int .i64 n] w fun e w' => e = .returned (.int .i64 0) ∧ w' = w := by
  have Hh := Lib.hid (has_out b chans q n hn w h)
  clear h hn
  go_enter Try.func12, Try.ntmps12
  go_wp2_with (fail)
  refine Hh.out.mono ?_
  rintro e w1 ⟨rfl, rfl⟩
  go_wp2
  go_ret
  exact ⟨rfl, rfl⟩

set_option maxHeartbeats 1000000 in
theorem len_in (b chans : Nat) (q : Nat → QRow) (n : Nat) (hn : n < chans) (w : World) (h : QAt w b chans q) :
    Calls Try.prog 12 #[.pointer (some ⟨b, 0, none⟩), .int .i64 n] w fun e w' => e = .returned (.int .i64 (q n).js.length) ∧ w' = w := by
  have Hh := Lib.hid (has_in b chans q n hn w h)
  have h4 := h.hc.2
  have hc := h.cell n (by omega)
  have hn4 : (n : Int) < 4 := by omega
  simp only [QRow.val] at hc
  clear h
  go_enter Try.func12, Try.ntmps12
  go_wp2_with (fail)
  refine Hh.out.mono ?_
  rintro e w1 ⟨rfl, rfl⟩
  go_wp2
  go_ret
  exact ⟨rfl, rfl⟩
end Go.Proofs.Ytgaikacjophngaa
