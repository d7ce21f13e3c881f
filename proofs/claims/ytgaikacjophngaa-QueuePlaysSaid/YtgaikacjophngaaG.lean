/- Queue: append onto a row inside a region that draws its order. -/
import Derived.Test.YtgaikacjophngaaF
namespace Go.Proofs.Ytgaikacjophngaa
open Go.RowKit

theorem run_append_row {P : Program} (w : World) (t ty : TypeId)
    (e : TypeId) (i : TypeInfo) (z : Value) (size bytes : Nat) (h1 : P.underlying t = some (.slice e)) (h2 : P.info? e = some i) (h3 : i.zero = some z) (h4 : i.size = size) (h5 : i.bytes = bytes) (h6 : z.cells.size = size) (h7 : 0 < size)
    (A : Option Addr) (n c g : Nat) (xs : List Value) (hrow : RowAt w A n c g e size xs)
    (ad : Addr) (news : List Value) (cn : Nat) (hn : news.length = size) (hc : ∀ j u, news[j]? = some u → w.cell? (ad.add j) = some u) (h1c : ∀ u ∈ news, u.oneCell' = true)
    (b1 : n + 1 ≤ maxLen) (b2 : (n + 1) * bytes ≤ 140737488355328) :
    ∃ A' c' g' w', (Builtin.append_ #[t, t] ty #[.slice A n c, .slice (some ad) 1 cn]).run P w = .ok (.slice A' (n + 1) c') w' ∧ RowAt w' A' (n + 1) c' g' e size (xs ++ news) ∧ Only (fun i => A ≠ none ∧ i = g) w w' ∧ (A' ≠ none ∧ (A ≠ none ∧ g' = g ∨ w.heap.size ≤ g')) := by
  have hgrow : ∀ v' w', (Builtin.append_ #[t, t] ty #[.slice A n c, .slice (some ad) 1 cn]).run P w = .ok v' w' → w'.ownsRow w.heap.size e size v' (n + 1) (xs ++ news) → w.grownBy w' none →
      ∃ A' c' g' w', (Builtin.append_ #[t, t] ty #[.slice A n c, .slice (some ad) 1 cn]).run P w = .ok (.slice A' (n + 1) c') w' ∧ RowAt w' A' (n + 1) c' g' e size (xs ++ news) ∧ Only (fun i => A ≠ none ∧ i = g) w w' ∧ (A' ≠ none ∧ (A ≠ none ∧ g' = g ∨ w.heap.size ≤ g')) := by
    intro v' w' r0 r1 r2
    obtain ⟨A', c', rfl, hle⟩ := ownsRow_form r1
    obtain ⟨g', hb, hr⟩ := ownsRow_rowAt r1
    have hA : A' ≠ none := by
      rintro rfl
      rcases hr with ⟨_, h0, _⟩ | ⟨_, _, h0, _⟩
      · omega
      · cases h0
    exact ⟨A', c', g', w', r0, hr, (Only.of_grown r2).mono (fun i _ hi => by cases hi), hA, .inr (hb hA)⟩
  rcases hrow with ⟨rfl, rfl, rfl, rfl⟩ | ⟨off, cells, rfl, k2, k3, k4, k5, k6, k7⟩
  · obtain ⟨v', w', hrun, r1, r2, _⟩ := run_append_own_at (P := P) w w.heap.size t ty e i z size bytes h1 h2 h3 h4 h5 h6 h7 (.slice none 0 0) 0 [] (World.ownsRow_nil w _ e size) ad 1 cn news (by simpa using hn) hc h1c (by omega) b2 (Nat.le_refl _)
    exact hgrow v' w' hrun r1 r2
  · by_cases hh : n + 1 ≤ c
    · have hcc : off + n * size + news.length ≤ cells.size := by
        have : (n + 1) * size ≤ c * size := Nat.mul_le_mul_right _ hh
        rw [Nat.add_mul] at this
        omega
      have hf : ∀ j, j < news.length → (w.cell? ⟨g, off + n * size + j, none⟩).isSome = true := by
        intro j hj
        rw [k2.cell, Array.getElem?_eq_getElem (by omega)]; rfl
      have hrun := run_append_room_cells (P := P) w t ty e i h1 h2 g off n c ad 1 cn news (by rw [h4]; simpa using hn) hc h1c hh (by rw [h4]; exact hf) (fun j hj => k2.frozen _)
      rw [h4] at hrun
      obtain ⟨cells', q1, q2, q3, q4⟩ := at_setCells news (off + n * size) w cells k2 hcc
      refine ⟨some ⟨g, off, none⟩, c, g, _, hrun, .inr ⟨off, cells', rfl, q1, hh, k4, by omega, by rw [List.length_append, k6, hn, Nat.add_mul, Nat.one_mul], fun j u hu => ?_⟩, only_setCells news _ w w (Only.refl _ w) ⟨by simp, rfl⟩, by simp, .inl ⟨by simp, rfl⟩⟩
      by_cases hj : j < xs.length
      · rw [List.getElem?_append_left hj] at hu
        rw [q4 _ (by omega)]; exact k7 j u hu
      · rw [List.getElem?_append_right (by omega)] at hu
        have := q3 _ u hu
        rw [← this]; congr 1; omega
    · obtain ⟨v', w', hrun, r1, r2⟩ := run_append_arg_grows (P := P) w t ty e i z size bytes h1 h2 h3 h4 h5 h6 h7 ⟨g, off, none⟩ n c xs k6 (fun j u hj => by rw [Addr.add_lit]; exact (k2.cell _).trans (k7 j u hj)) ad 1 cn news (by simpa using hn) hc (by omega) (by omega) b2
      exact hgrow v' w' hrun r1 r2

theorem step_append_row {P : Program} {ops : Array Oper} {o : Oper} {a : Act} {w : World} {K : Act → World → Prop} {Q : Exit → Act → World → Prop} {E : Prop} (hgd : o.guard = none) (s x : Operand) (t : TypeId)
    (ho : o.op = Op.call { callee := Callee.builtin Builtin.append, args := #[s, x], argTypes := #[t, t] })
    (e : TypeId) (i : TypeInfo) (z : Value) (size bytes : Nat) (h1 : P.underlying t = some (.slice e)) (h2 : P.info? e = some i) (h3 : i.zero = some z) (h4 : i.size = size) (h5 : i.bytes = bytes) (h6 : z.cells.size = size) (h7 : 0 < size)
    (A : Option Addr) (n c g : Nat) (xs : List Value) (hs : a.eval s = .slice A n c) (hrow : RowAt w A n c g e size xs)
    (ad : Addr) (news : List Value) (cn : Nat) (hx : a.eval x = .slice (some ad) 1 cn) (hn : news.length = size) (hc : ∀ j u, news[j]? = some u → w.cell? (ad.add j) = some u) (h1c : ∀ u ∈ news, u.oneCell' = true)
    (b1 : n + 1 ≤ maxLen) (b2 : (n + 1) * bytes ≤ 140737488355328)
    (h : ∀ A' c' g' w', RowAt w' A' (n + 1) c' g' e size (xs ++ news) → Only (fun i => A ≠ none ∧ i = g) w w' → (A' ≠ none ∧ (A ≠ none ∧ g' = g ∨ w.heap.size ≤ g')) → K (a.put o.dst (.slice A' (n + 1) c')) w') :
    if Region.wanted o (yielded ops a.tmps) = true then Oper.wp P o a w K Q else E := by
  have hw : Region.wanted o (yielded ops a.tmps) = true := by simp [Region.wanted, hgd]
  rw [if_pos hw]
  obtain ⟨A', c', g', w', hrun, r1, r2, r3⟩ := run_append_row (P := P) w t o.type e i z size bytes h1 h2 h3 h4 h5 h6 h7 A n c g xs hrow ad news cn hn hc h1c b1 b2
  unfold Oper.wp execOp
  simp only [ho, resolve, invoke, builtin, Sem.run_bind, Sem.run_pure, Result.andThen_ok, List.map_toArray, List.map_cons, List.map_nil, hs, hx, hrun]
  exact h A' c' g' w' r1 r2 r3

set_option maxHeartbeats 1000000 in
theorem put_out (b chans : Nat) (q : Nat → QRow) (n : Int) (hn : n < 0 ∨ chans ≤ n) (v0 v1 v2 v3 v4 : Value) (w : World) (h : QAt w b chans q) :
    Calls Try.prog 10 #[.pointer (some ⟨b, 0, none⟩), .int .i64 n, .agg #[v0, v1, v2, v3, v4]] w fun e w' => e = .returned (.int .i64 2) ∧ Only (fun _ => False) w w' := by
  have HH := Lib.hid (has_out b chans q n hn (w.alloc (.cells #[v0, v1, v2, v3, v4] 31)) (h.quiet ((Only.refl _ _).alloc _)))
  clear h hn
  go_enter Try.func10, Try.ntmps10
  go_wp2_with (fail)
  refine HH.out.mono ?_
  rintro e w1 ⟨rfl, rfl⟩
  go_wp2
  go_ret
  exact ⟨rfl, (Only.refl _ _).alloc _⟩
end Go.Proofs.Ytgaikacjophngaa
