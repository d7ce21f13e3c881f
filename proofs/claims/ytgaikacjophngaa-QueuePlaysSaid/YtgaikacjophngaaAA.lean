/- Queue: the reference's queues in memory; first, Len, Busy. -/
import Derived.Test.YtgaikacjophngaaY
namespace Go.Proofs.Ytgaikacjophngaa
open Go.RowKit

/-- A job that was put, as it lies. -/
structure RL where
  c : Int
  s : SJ
  gone : Bool
def RL.cells (x : RL) : List Value := [.int .i64 x.c, .int .i64 x.s.j.k, .int .i64 x.s.j.l, .int .i64 x.s.j.u, .int .i64 x.s.j.p, .slice x.s.A x.s.j.pos.length x.s.c, .bool x.gone]
def rv (l : List RL) : List Value := l.flatMap RL.cells
theorem rv_len (l : List RL) : (rv l).length = l.length * 7 := by
  induction l with
  | nil => rfl
  | cons x t ih => simp only [rv, List.flatMap_cons, List.length_append, List.length_cons] at *; rw [ih]; simp [RL.cells]; omega
theorem rv_append (a b : List RL) : rv (a ++ b) = rv a ++ rv b := by simp [rv]
theorem rv_one (x : RL) : rv [x] = x.cells := by simp [rv]
theorem rv_get (l : List RL) (i j : Nat) (hi : i < l.length) (hj : j < 7) : (rv l)[i * 7 + j]? = (l[i]).cells[j]? := by
  induction l generalizing i with
  | nil => simp at hi
  | cons x t ih =>
    have hc : x.cells.length = 7 := rfl
    cases i with
    | zero =>
      simp only [rv, List.flatMap_cons, Nat.zero_mul, Nat.zero_add, List.getElem_cons_zero]
      rw [List.getElem?_append_left (by omega)]
    | succ i =>
      simp only [rv, List.flatMap_cons, List.getElem_cons_succ]
      rw [List.getElem?_append_right (by omega)]
      have := ih i (by simpa using hi)
      rw [← this]
      congr 1
      omega

structure RAt (w : World) (rb chans : Nat) (A : Option Addr) (cap g : Nat) (rl : List RL) : Prop where
  st : At w rb 55 #[.int .i64 chans, .slice A rl.length cap]
  row : RowAt w A rl.length cap g 57 7 (rv rl)
  ok : ∀ x ∈ rl, x.s.Ok w
  hc : 1 ≤ chans ∧ chans ≤ 4

def RS (rb : Nat) (A : Option Addr) (g : Nat) (i : Nat) : Prop := i = rb ∨ A ≠ none ∧ i = g
def RP (rl : List RL) (i : Nat) : Prop := ∃ x, x ∈ rl ∧ x.s.A ≠ none ∧ i = x.s.gp

section
variable {S : Nat → Prop} {w w' : World} {rb chans : Nat} {A : Option Addr} {cap g : Nat} {rl : List RL}
theorem RAt.only (h : RAt w rb chans A cap g rl) (k : Only S w w') (h1 : ∀ i, RS rb A g i → ¬ S i) (h2 : ∀ i, RP rl i → ¬ S i) : RAt w' rb chans A cap g rl :=
  ⟨h.st.only k (h1 _ (.inl rfl)), h.row.only k (fun hA => h1 _ (.inr ⟨hA, rfl⟩)), fun x hx => (h.ok x hx).only k (fun hA => h2 _ ⟨x, hx, hA, rfl⟩), h.hc⟩
theorem RAt.quiet (h : RAt w rb chans A cap g rl) (k : Only (fun _ => False) w w') : RAt w' rb chans A cap g rl := h.only k (fun _ _ => id) (fun _ _ => id)
theorem RAt.ty (h : RAt w rb chans A cap g rl) {i : Nat} (hi : RS rb A g i) : ∃ t cs, At w i t cs ∧ (t = 55 ∨ t = 57) := by
  rcases hi with rfl | ⟨hA, rfl⟩
  · exact ⟨_, _, h.st, .inl rfl⟩
  · rcases h.row with ⟨h, _⟩ | ⟨off, cells, _, h2, _⟩
    · exact absurd h hA
    · exact ⟨_, _, h2, .inr rfl⟩
theorem RAt.tyP (h : RAt w rb chans A cap g rl) {i : Nat} (hi : RP rl i) : ∃ cs, At w i 3 cs := by
  obtain ⟨x, hx, hA, rfl⟩ := hi
  rcases (h.ok x hx).row with ⟨h, _⟩ | ⟨off, cells, _, h2, _⟩
  · exact absurd h hA
  · exact ⟨_, h2⟩
theorem RAt.apart (h : RAt w rb chans A cap g rl) {i : Nat} (hp : RP rl i) : ¬ RS rb A g i := by
  intro hs
  obtain ⟨cs, h1⟩ := h.tyP hp
  obtain ⟨t, cs', h2, h3⟩ := h.ty hs
  have := h1.ne h2 (by rcases h3 with rfl | rfl <;> decide)
  exact this rfl
theorem RAt.lt (h : RAt w rb chans A cap g rl) {i : Nat} (hi : RS rb A g i ∨ RP rl i) : i < w.heap.size := by
  rcases hi with hi | hi
  · obtain ⟨t, cs, h1, _⟩ := h.ty hi
    exact h1.lt
  · obtain ⟨cs, h1⟩ := h.tyP hi
    exact h1.lt
theorem RAt.g_ne (h : RAt w rb chans A cap g rl) (hA : A ≠ none) : g ≠ rb := h.row.neAt h.st hA (by decide)

/-- The seven cells of what was put at place m. -/
theorem RAt.cells (h : RAt w rb chans A cap g rl) {m : Nat} (hm : m < rl.length) :
    ∃ off, A = some ⟨g, off, none⟩ ∧ w.cell? ⟨g, off + m * 7, none⟩ = some (.int .i64 rl[m].c) ∧ w.cell? ⟨g, off + m * 7 + 1, none⟩ = some (.int .i64 rl[m].s.j.k) ∧ w.cell? ⟨g, off + m * 7 + 2, none⟩ = some (.int .i64 rl[m].s.j.l) ∧
      w.cell? ⟨g, off + m * 7 + 3, none⟩ = some (.int .i64 rl[m].s.j.u) ∧ w.cell? ⟨g, off + m * 7 + 4, none⟩ = some (.int .i64 rl[m].s.j.p) ∧ w.cell? ⟨g, off + m * 7 + 5, none⟩ = some (.slice rl[m].s.A rl[m].s.j.pos.length rl[m].s.c) ∧
      w.cell? ⟨g, off + m * 7 + 6, none⟩ = some (.bool rl[m].gone) := by
  obtain ⟨off, hA, hlt, hc⟩ := h.row.rd.at (by intro e; have := rv_len rl; rw [e] at this; simp at this; omega)
  have hh : ∀ j, j < 7 → ∀ u, (rl[m]).cells[j]? = some u → w.cell? ⟨g, off + m * 7 + j, none⟩ = some u := by
    intro j hj u hu
    have := hc (m * 7 + j) u (by rw [rv_get rl m j hm hj]; exact hu)
    rw [← Nat.add_assoc] at this
    exact this
  exact ⟨off, hA, hh 0 (by omega) _ rfl, hh 1 (by omega) _ rfl, hh 2 (by omega) _ rfl, hh 3 (by omega) _ rfl, hh 4 (by omega) _ rfl, hh 5 (by omega) _ rfl, hh 6 (by omega) _ rfl⟩
end

def hit (c : Int) (x : RL) : Bool := x.c == c && !x.gone
theorem hit_iff {c : Int} {x : RL} : hit c x = true ↔ x.c = c ∧ x.gone = false := by simp [hit]

set_option maxRecDepth 100000 in
set_option maxHeartbeats 4000000 in
/-- The first that is meant: there is one at place m. -/
theorem first_at (rb chans : Nat) (A : Option Addr) (cap g : Nat) (rl : List RL) (c : Int) (m : Nat) (w : World) (h : RAt w rb chans A cap g rl) (hm : m < rl.length) (hl : rl.length ≤ 100000) (hit_ : hit c rl[m] = true) (hno : ∀ j (hj : j < rl.length), j < m → hit c rl[j] = false) :
    Calls Try.prog 26 #[.pointer (some ⟨rb, 0, none⟩), .int .i64 c] w fun e w' => e = .returned (.int .i64 m) ∧ w' = w := by
  have HR := Lib.hid h
  have c1 := h.st.cell 1
  simp at c1
  have HNO := Lib.hid hno
  have HIT := Lib.hid hit_
  clear h hno hit_
  go_enter Try.func26, Try.ntmps26
  go_wp2
  go_loop [5] (fun v => ∃ k : Nat, k ≤ m ∧ v = .int .i64 k) (fun v => (m - intOf v).toNat)
  case atStart => exact ⟨0, by omega, rfl⟩
  case round =>
    obtain ⟨k, hk, rfl⟩ := hrel
    have hkl : k < rl.length := by omega
    have i0 : (0 : Int) ≤ k := by omega
    have i1 : (k : Int) < rl.length := by omega
    obtain ⟨off, hA, d0, d1, d2, d3, d4, d5, d6⟩ := HR.out.cells hkl
    by_cases hkm : k < m
    · have hn := HNO.out k hkl hkm
      rw [hA] at c1
      clear hA
      generalize rl[k] = x at *
      obtain ⟨xc, xs, xg⟩ := x
      simp only [hit] at hn
      simp only at d0 d6
      by_cases hc : xc = c
      · subst hc
        have hg : xg = true := by simpa using hn
        subst hg
        clear hn
        go_wp2
        go_round
        case rel => exact ⟨k + 1, by omega, by simp⟩
        case measure => simp [intOf]; omega
      · have hcc : (xc == c) = false := beq_false_of_ne hc
        clear hn
        go_wp2
        go_round
        case rel => exact ⟨k + 1, by omega, by simp⟩
        case measure => simp [intOf]; omega
    · obtain rfl : k = m := by omega
      have hh := hit_iff.1 HIT.out
      obtain ⟨h1, h2⟩ := hh
      rw [h1] at d0
      rw [h2] at d6
      rw [hA] at c1
      clear hA h1 h2
      go_wp2
      go_ret
      exact ⟨rfl, rfl⟩

set_option maxRecDepth 100000 in
set_option maxHeartbeats 4000000 in
/-- There is none that is meant. -/
theorem first_no (rb chans : Nat) (A : Option Addr) (cap g : Nat) (rl : List RL) (c : Int) (w : World) (h : RAt w rb chans A cap g rl) (hl : rl.length ≤ 100000) (hno : ∀ j (hj : j < rl.length), hit c rl[j] = false) :
    Calls Try.prog 26 #[.pointer (some ⟨rb, 0, none⟩), .int .i64 c] w fun e w' => e = .returned (.int .i64 (-1)) ∧ w' = w := by
  have HR := Lib.hid h
  have c1 := h.st.cell 1
  simp at c1
  have HNO := Lib.hid hno
  clear h hno
  go_enter Try.func26, Try.ntmps26
  go_wp2
  go_loop [5] (fun v => ∃ k : Nat, k ≤ rl.length ∧ v = .int .i64 k) (fun v => (rl.length - intOf v).toNat)
  case atStart => exact ⟨0, by omega, rfl⟩
  case round =>
    obtain ⟨k, hk, rfl⟩ := hrel
    by_cases hkm : k < rl.length
    · have i0 : (0 : Int) ≤ k := by omega
      have i1 : (k : Int) < rl.length := by omega
      obtain ⟨off, hA, d0, d1, d2, d3, d4, d5, d6⟩ := HR.out.cells hkm
      have hn := HNO.out k hkm
      rw [hA] at c1
      clear hA
      generalize rl[k] = x at *
      obtain ⟨xc, xs, xg⟩ := x
      simp only [hit] at hn
      simp only at d0 d6
      by_cases hc : xc = c
      · subst hc
        have hg : xg = true := by simpa using hn
        subst hg
        clear hn
        go_wp2
        go_round
        case rel => exact ⟨k + 1, by omega, by simp⟩
        case measure => simp [intOf]; omega
      · have hcc : (xc == c) = false := beq_false_of_ne hc
        clear hn
        go_wp2
        go_round
        case rel => exact ⟨k + 1, by omega, by simp⟩
        case measure => simp [intOf]; omega
    · obtain rfl : k = rl.length := by omega
      go_wp2
      go_ret
      exact ⟨rfl, rfl⟩
end Go.Proofs.Ytgaikacjophngaa
