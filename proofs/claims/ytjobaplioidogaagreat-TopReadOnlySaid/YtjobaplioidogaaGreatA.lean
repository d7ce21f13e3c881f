/- Lines: rows in memory. -/
import Derived.Test.YtjobaplioidogaaGreatM
import Derived.Laws.CopyOwn
import Derived.ArgAppend
namespace Go.Proofs.YtjobaplioidogaaGreat
open Go.RowKit

/-- A slice (A, n, c) whose n elements (sz cells each, of type e) are xs, in block g, with its room. -/
def RowAt (w : World) (A : Option Addr) (n c g : Nat) (e : TypeId) (sz : Nat) (xs : List Value) : Prop :=
  (A = none ∧ n = 0 ∧ c = 0 ∧ xs = []) ∨
  ∃ off cells, A = some ⟨g, off, none⟩ ∧ At w g e cells ∧ n ≤ c ∧ c ≤ maxLen ∧ off + c * sz ≤ cells.size ∧ xs.length = n * sz ∧ ∀ j u, xs[j]? = some u → cells[off + j]? = some u

section
variable {S : Nat → Prop} {w w' : World} {A : Option Addr} {n c g : Nat} {e : TypeId} {sz : Nat} {xs : List Value}

theorem RowAt.len (h : RowAt w A n c g e sz xs) : xs.length = n * sz := by
  rcases h with ⟨_, rfl, _, rfl⟩ | ⟨_, _, _, _, _, _, _, h, _⟩
  · simp
  · exact h
theorem RowAt.le (h : RowAt w A n c g e sz xs) : n ≤ c := by
  rcases h with ⟨_, rfl, rfl, _⟩ | ⟨_, _, _, _, h, _⟩
  · exact Nat.le_refl _
  · exact h
theorem RowAt.only (h : RowAt w A n c g e sz xs) (k : Only S w w') (hg : A ≠ none → ¬ S g) : RowAt w' A n c g e sz xs := by
  rcases h with h | ⟨off, cells, rfl, h2, h3⟩
  · exact .inl h
  · exact .inr ⟨off, cells, rfl, h2.only k (hg (by simp)), h3⟩
theorem RowAt.lt (h : RowAt w A n c g e sz xs) (hA : A ≠ none) : g < w.heap.size := by
  rcases h with ⟨h, _⟩ | ⟨_, _, _, h2, _⟩
  · exact absurd h hA
  · exact h2.lt
theorem RowAt.rd (h : RowAt w A n c g e sz xs) : Rd w g A xs := by
  rcases h with ⟨_, _, _, rfl⟩ | ⟨off, cells, rfl, h2, _, _, _, _, h3⟩
  · exact .inl rfl
  · exact .inr ⟨off, rfl, h2.lt, fun j u hu => (h2.cell _).trans (h3 j u hu)⟩
/-- Two rows of different element types lie apart. -/
theorem RowAt.ne {A' : Option Addr} {n' c' g' : Nat} {e' : TypeId} {sz' : Nat} {xs' : List Value} (h : RowAt w A n c g e sz xs) (h' : RowAt w A' n' c' g' e' sz' xs') (hA : A ≠ none) (hA' : A' ≠ none) (hne : e ≠ e') : g ≠ g' := by
  rcases h with ⟨h, _⟩ | ⟨_, _, _, h2, _⟩
  · exact absurd h hA
  · rcases h' with ⟨h, _⟩ | ⟨_, _, _, h2', _⟩
    · exact absurd h hA'
    · exact h2.ne h2' hne
theorem RowAt.neAt {g' : Nat} {e' : TypeId} {cs : Array Value} (h : RowAt w A n c g e sz xs) (h' : At w g' e' cs) (hA : A ≠ none) (hne : e ≠ e') : g ≠ g' := by
  rcases h with ⟨h, _⟩ | ⟨_, _, _, h2, _⟩
  · exact absurd h hA
  · exact h2.ne h' hne

/-- The first element taken away. -/
theorem RowAt.tail {x : List Value} {xs : List Value} {n c : Nat} {off : Nat} (h : RowAt w (some ⟨g, off, none⟩) (n + 1) (c + 1) g e sz (x ++ xs)) (hx : x.length = sz) : RowAt w (some ⟨g, off + sz, none⟩) n c g e sz xs := by
  rcases h with ⟨h, _⟩ | ⟨off', cells, h1, h2, h3, h4, h5, h6, h7⟩
  · cases h
  · injection h1 with h1
    injection h1 with _ h1 _
    subst h1
    refine .inr ⟨off + sz, cells, rfl, h2, by omega, by omega, by rw [Nat.add_mul] at h5; omega, ?_, fun j u hu => ?_⟩
    · rw [List.length_append, hx, Nat.add_mul] at h6; omega
    · have := h7 (sz + j) u (by rw [List.getElem?_append_right (by omega), hx]; simpa using hu)
      rw [← this]; congr 1; omega
theorem RowAt.tail0 {x : List Value} {off : Nat} (h : RowAt w (some ⟨g, off, none⟩) 1 1 g e sz x) : RowAt w (some ⟨g, off, none⟩) 0 0 g e sz [] := by
  rcases h with ⟨h, _⟩ | ⟨off', cells, h1, h2, h3, h4, h5, h6, h7⟩
  · cases h
  · injection h1 with h1
    injection h1 with _ h1 _
    subst h1
    exact .inr ⟨off, cells, rfl, h2, by omega, by omega, by omega, by simp, fun j u hu => by simp at hu⟩
end

theorem ownsRow_rowAt {w : World} {base n : Nat} {e : TypeId} {sz : Nat} {A : Option Addr} {c : Nat} {xs : List Value} (h : w.ownsRow base e sz (.slice A n c) n xs) : ∃ g, (A ≠ none → base ≤ g) ∧ RowAt w A n c g e sz xs := by
  rcases h.2 with ⟨he, rfl⟩ | ⟨g, cap, cur, he, hb, hg, hn, hm, hs, hx⟩
  · obtain ⟨rfl, rfl⟩ : A = none ∧ c = 0 := by simpa using he
    exact ⟨0, fun h => absurd rfl h, .inl ⟨rfl, rfl, rfl, List.eq_nil_of_length_eq_zero (by simpa using h.1)⟩⟩
  · injection he with hA h2 h3
    subst hA; subst h3
    refine ⟨g, fun _ => hb, .inr ⟨0, cur, rfl, hg, hn, hm, by omega, h.1, fun j u hu => ?_⟩⟩
    rw [← hx, List.getElem?_take] at hu
    split at hu
    · simpa using hu
    · cases hu

theorem at_setCells {g : Nat} {e : TypeId} : ∀ (vs : List Value) (o : Nat) (w : World) (cells : Array Value), At w g e cells → o + vs.length ≤ cells.size →
    ∃ cells', At (w.setCells g o vs) g e cells' ∧ cells'.size = cells.size ∧ (∀ j u, vs[j]? = some u → cells'[o + j]? = some u) ∧ ∀ i, i < o → cells'[i]? = cells[i]?
  | [], o, w, cells, h, _ => ⟨cells, h, rfl, fun j u hu => by simp at hu, fun _ _ => rfl⟩
  | v :: vs, o, w, cells, h, hl => by
    obtain ⟨c', h1, h2, h3, h4⟩ := at_setCells vs (o + 1) _ _ (h.set o v) (by simp at hl ⊢; omega)
    refine ⟨c', h1, by simpa using h2, fun j u hu => ?_, fun i hi => ?_⟩
    · cases j with
      | zero =>
        simp at hu; subst hu
        rw [Nat.add_zero, h4 o (by omega), Array.getElem?_setIfInBounds_self_of_lt (by simp at hl; omega)]
      | succ j =>
        have := h3 j u (by simpa using hu)
        rw [← this]; congr 1; omega
    · rw [h4 i (by omega), Array.getElem?_setIfInBounds_ne (by omega)]

theorem only_setCells {g : Nat} {S : Nat → Prop} : ∀ (vs : List Value) (o : Nat) (a w : World), Only S a w → S g → Only S a (w.setCells g o vs)
  | [], _, _, _, h, _ => h
  | v :: vs, o, a, w, h, hg => only_setCells vs (o + 1) a _ (h.setCell (p := ⟨g, o, none⟩) (fun _ => hg) v) hg

/-- append of one element onto a row, for the walk. -/
theorem wpList_append_row {P : Program} (w : World) {ops : Array Oper} {rest : List Oper} {o : Oper} {a : Act} {Q : Exit → Act → World → Prop}
    (hg : o.guard = none) (s x : Operand) (t : TypeId) (hop : o.op = Op.call { callee := Callee.builtin Builtin.append, args := #[s, x], argTypes := #[t, t] })
    (e : TypeId) (i : TypeInfo) (z : Value) (size bytes : Nat) (h1 : P.underlying t = some (.slice e)) (h2 : P.info? e = some i) (h3 : i.zero = some z) (h4 : i.size = size) (h5 : i.bytes = bytes) (h6 : z.cells.size = size) (h7 : 0 < size)
    (A : Option Addr) (n c g : Nat) (xs : List Value) (hs : a.eval s = .slice A n c) (hrow : RowAt w A n c g e size xs)
    (ad : Addr) (news : List Value) (cn : Nat) (hx : a.eval x = .slice (some ad) 1 cn) (hn : news.length = size) (hc : ∀ j u, news[j]? = some u → w.cell? (ad.add j) = some u) (h1c : ∀ u ∈ news, u.oneCell' = true)
    (b1 : n + 1 ≤ maxLen) (b2 : (n + 1) * bytes ≤ 140737488355328)
    (h : ∀ A' c' g' w', RowAt w' A' (n + 1) c' g' e size (xs ++ news) → Only (fun i => A ≠ none ∧ i = g) w w' → (A' ≠ none ∧ (A ≠ none ∧ g' = g ∨ w.heap.size ≤ g')) → wpList P ops Q rest (a.put o.dst (.slice A' (n + 1) c')) w') :
    wpList P ops Q (o :: rest) a w := by
  have hgrow : ∀ v' w', w'.ownsRow w.heap.size e size v' (n + 1) (xs ++ news) → w.grownBy w' none → wpList P ops Q rest (a.put o.dst v') w' := by
    intro v' w' r1 r2
    obtain ⟨A', c', rfl, hle⟩ := ownsRow_form r1
    obtain ⟨g', hb, hr⟩ := ownsRow_rowAt r1
    have hA : A' ≠ none := by
      rintro rfl
      rcases hr with ⟨_, h0, _⟩ | ⟨_, _, h0, _⟩
      · omega
      · cases h0
    exact h A' c' g' w' hr ((Only.of_grown r2).mono fun i _ hi => by cases hi) ⟨hA, .inr (hb hA)⟩
  rcases hrow with ⟨rfl, rfl, rfl, rfl⟩ | ⟨off, cells, rfl, k2, k3, k4, k5, k6, k7⟩
  · refine wpList_append_grows w hg s x t hop e i z size bytes h1 h2 h3 h4 h5 h6 h7 none 0 0 [] hs (fun _ => ⟨rfl, rfl⟩) (by simp) (fun b hb => by cases hb) ad 1 cn news hx (by simpa using hn) hc h1c (by omega) b1 b2 ?_
    intro v' w' r1 r2
    exact hgrow v' w' r1 r2
  · have hcc : (n + 1) ≤ c → off + n * size + news.length ≤ cells.size := by
      intro hh
      have : (n + 1) * size ≤ c * size := Nat.mul_le_mul_right _ hh
      rw [Nat.add_mul] at this
      omega
    refine wpList_append_arg w hg s x t hop e i z size bytes h1 h2 h3 h4 h5 h6 h7 g off n c xs hs k6 (fun j u hj => (k2.cell _).trans (k7 j u hj)) ad 1 cn news hx (by simpa using hn) hc h1c (fun hh j hj => ?_) b1 b2 (fun hh => ?_) (fun hh v' w' r1 r2 => hgrow v' w' r1 r2)
    · have := hcc hh
      rw [k2.cell]
      exact ⟨by rw [Array.getElem?_eq_getElem (by omega)]; rfl, k2.frozen _⟩
    · obtain ⟨cells', q1, q2, q3, q4⟩ := at_setCells news (off + n * size) w cells k2 (hcc hh)
      refine h (some ⟨g, off, none⟩) c g _ (.inr ⟨off, cells', rfl, q1, hh, k4, by omega, by rw [List.length_append, k6, hn, Nat.add_mul, Nat.one_mul], fun j u hu => ?_⟩) (only_setCells news _ w w (Only.refl _ w) ⟨by simp, rfl⟩) ⟨by simp, .inl ⟨by simp, rfl⟩⟩
      by_cases hj : j < xs.length
      · rw [List.getElem?_append_left hj] at hu
        rw [q4 _ (by omega)]; exact k7 j u hu
      · rw [List.getElem?_append_right (by omega)] at hu
        have := q3 _ u hu
        rw [← this]; congr 1; omega

theorem At.new' {w : World} {g : Nat} (h : g = w.heap.size) (t : TypeId) (cs : Array Value) : At (w.alloc (.cells cs t)) g t cs := by subst h; exact At.new w t cs
theorem At.of_below {w w' : World} {g B : Nat} {t : TypeId} {cs : Array Value} (h : At w g t cs) (k : Below B w w') (hg : g < B) : At w' g t cs := (k.block g hg).trans h

end Go.Proofs.YtjobaplioidogaaGreat
