/- Victim: rows of numbers in memory. -/
import Derived.Test.YtbcjpchjidgpeaaF
import Derived.Laws.CopyOwn
import Derived.ArgAppend
namespace Go.Proofs.Ytbcjpchjidgpeaa
open Go.RowKit

/-- A slice (A, n, c) whose n elements (sz cells each, of type e) are xs, in block g, with its room. -/
def RowAt (w : World) (A : Option Addr) (n c g : Nat) (e : TypeId) (sz : Nat) (xs : List Value) : Prop :=
  (A = none ∧ n = 0 ∧ c = 0 ∧ xs = []) ∨
  ∃ off cells, A = some ⟨g, off, none⟩ ∧ At w g e cells ∧ n ≤ c ∧ c ≤ maxLen ∧ off + c * sz ≤ cells.size ∧ xs.length = n * sz ∧ ∀ j u, xs[j]? = some u → cells[off + j]? = some u

section
variable {S : Nat → Prop} {w w' : World} {A : Option Addr} {n c g : Nat} {e : TypeId} {sz : Nat} {xs : List Value}

theorem RowAt.len (h : RowAt w A n c g e sz xs) : xs.length = n * sz := by
  rcases h with ⟨_, rfl, _, rfl⟩ | ⟨_, _, _, _, _, _, _, h, _⟩
  · simp
  · exact h
theorem RowAt.le (h : RowAt w A n c g e sz xs) : n ≤ c := by
  rcases h with ⟨_, rfl, rfl, _⟩ | ⟨_, _, _, _, h, _⟩
  · exact Nat.le_refl _
  · exact h
theorem RowAt.only (h : RowAt w A n c g e sz xs) (k : Only S w w') (hg : A ≠ none → ¬ S g) : RowAt w' A n c g e sz xs := by
  rcases h with h | ⟨off, cells, rfl, h2, h3⟩
  · exact .inl h
  · exact .inr ⟨off, cells, rfl, h2.only k (hg (by simp)), h3⟩
theorem RowAt.lt (h : RowAt w A n c g e sz xs) (hA : A ≠ none) : g < w.heap.size := by
  rcases h with ⟨h, _⟩ | ⟨_, _, _, h2, _⟩
  · exact absurd h hA
  · exact h2.lt
theorem RowAt.rd (h : RowAt w A n c g e sz xs) : Rd w g A xs := by
  rcases h with ⟨_, _, _, rfl⟩ | ⟨off, cells, rfl, h2, _, _, _, _, h3⟩
  · exact .inl rfl
  · exact .inr ⟨off, rfl, h2.lt, fun j u hu => (h2.cell _).trans (h3 j u hu)⟩
/-- Two rows of different element types lie apart. -/
theorem RowAt.ne {A' : Option Addr} {n' c' g' : Nat} {e' : TypeId} {sz' : Nat} {xs' : List Value} (h : RowAt w A n c g e sz xs) (h' : RowAt w A' n' c' g' e' sz' xs') (hA : A ≠ none) (hA' : A' ≠ none) (hne : e ≠ e') : g ≠ g' := by
  rcases h with ⟨h, _⟩ | ⟨_, _, _, h2, _⟩
  · exact absurd h hA
  · rcases h' with ⟨h, _⟩ | ⟨_, _, _, h2', _⟩
    · exact absurd h hA'
    · exact h2.ne h2' hne
theorem RowAt.neAt {g' : Nat} {e' : TypeId} {cs : Array Value} (h : RowAt w A n c g e sz xs) (h' : At w g' e' cs) (hA : A ≠ none) (hne : e ≠ e') : g ≠ g' := by
  rcases h with ⟨h, _⟩ | ⟨_, _, _, h2, _⟩
  · exact absurd h hA
  · exact h2.ne h' hne

/-- The first element taken away. -/
theorem RowAt.tail {x : List Value} {xs : List Value} {n c : Nat} {off : Nat} (h : RowAt w (some ⟨g, off, none⟩) (n + 1) (c + 1) g e sz (x ++ xs)) (hx : x.length = sz) : RowAt w (some ⟨g, off + sz, none⟩) n c g e sz xs := by
  rcases h with ⟨h, _⟩ | ⟨off', cells, h1, h2, h3, h4, h5, h6, h7⟩
  · cases h
  · injection h1 with h1
    injection h1 with _ h1 _
    subst h1
    refine .inr ⟨off + sz, cells, rfl, h2, by omega, by omega, by rw [Nat.add_mul] at h5; omega, ?_, fun j u hu => ?_⟩
    · rw [List.length_append, hx, Nat.add_mul] at h6; omega
    · have := h7 (sz + j) u (by rw [List.getElem?_append_right (by omega), hx]; simpa using hu)
      rw [← this]; congr 1; omega
theorem RowAt.tail0 {x : List Value} {off : Nat} (h : RowAt w (some ⟨g, off, none⟩) 1 1 g e sz x) : RowAt w (some ⟨g, off, none⟩) 0 0 g e sz [] := by
  rcases h with ⟨h, _⟩ | ⟨off', cells, h1, h2, h3, h4, h5, h6, h7⟩
  · cases h
  · injection h1 with h1
    injection h1 with _ h1 _
    subst h1
    exact .inr ⟨off, cells, rfl, h2, by omega, by omega, by omega, by simp, fun j u hu => by simp at hu⟩
end

theorem ownsRow_rowAt {w : World} {base n : Nat} {e : TypeId} {sz : Nat} {A : Option Addr} {c : Nat} {xs : List Value} (h : w.ownsRow base e sz (.slice A n c) n xs) : ∃ g, (A ≠ none → base ≤ g) ∧ RowAt w A n c g e sz xs := by
  rcases h.2 with ⟨he, rfl⟩ | ⟨g, cap, cur, he, hb, hg, hn, hm, hs, hx⟩
  · obtain ⟨rfl, rfl⟩ : A = none ∧ c = 0 := by simpa using he
    exact ⟨0, fun h => absurd rfl h, .inl ⟨rfl, rfl, rfl, List.eq_nil_of_length_eq_zero (by simpa using h.1)⟩⟩
  · injection he with hA h2 h3
    subst hA; subst h3
    refine ⟨g, fun _ => hb, .inr ⟨0, cur, rfl, hg, hn, hm, by omega, h.1, fun j u hu => ?_⟩⟩
    rw [← hx, List.getElem?_take] at hu
    split at hu
    · simpa using hu
    · cases hu

theorem at_setCells {g : Nat} {e : TypeId} : ∀ (vs : List Value) (o : Nat) (w : World) (cells : Array Value), At w g e cells → o + vs.length ≤ cells.size →
    ∃ cells', At (w.setCells g o vs) g e cells' ∧ cells'.size = cells.size ∧ (∀ j u, vs[j]? = some u → cells'[o + j]? = some u) ∧ ∀ i, i < o → cells'[i]? = cells[i]?
  | [], o, w, cells, h, _ => ⟨cells, h, rfl, fun j u hu => by simp at hu, fun _ _ => rfl⟩
  | v :: vs, o, w, cells, h, hl => by
    obtain ⟨c', h1, h2, h3, h4⟩ := at_setCells vs (o + 1) _ _ (h.set o v) (by simp at hl ⊢; omega)
    refine ⟨c', h1, by simpa using h2, fun j u hu => ?_, fun i hi => ?_⟩
    · cases j with
      | zero =>
        simp at hu; subst hu
        rw [Nat.add_zero, h4 o (by omega), Array.getElem?_setIfInBounds_self_of_lt (by simp at hl; omega)]
      | succ j =>
        have := h3 j u (by simpa using hu)
        rw [← this]; congr 1; omega
    · rw [h4 i (by omega), Array.getElem?_setIfInBounds_ne (by omega)]

theorem only_setCells {g : Nat} {S : Nat → Prop} : ∀ (vs : List Value) (o : Nat) (a w : World), Only S a w → S g → Only S a (w.setCells g o vs)
  | [], _, _, _, h, _ => h
  | v :: vs, o, a, w, h, hg => only_setCells vs (o + 1) a _ (h.setCell (p := ⟨g, o, none⟩) (fun _ => hg) v) hg

/-- append of one element onto a row, for the walk. -/
theorem wpList_append_row {P : Program} (w : World) {ops : Array Oper} {rest : List Oper} {o : Oper} {a : Act} {Q : Exit → Act → World → Prop}
    (hg : o.guard = none) (s x : Operand) (t : TypeId) (hop : o.op = Op.call { callee := Callee.builtin Builtin.append, args := #[s, x], argTypes := #[t, t] })
    (e : TypeId) (i : TypeInfo) (z : Value) (size bytes : Nat) (h1 : P.underlying t = some (.slice e)) (h2 : P.info? e = some i) (h3 : i.zero = some z) (h4 : i.size = size) (h5 : i.bytes = bytes) (h6 : z.cells.size = size) (h7 : 0 < size)
    (A : Option Addr) (n c g : Nat) (xs : List Value) (hs : a.eval s = .slice A n c) (hrow : RowAt w A n c g e size xs)
    (ad : Addr) (news : List Value) (cn : Nat) (hx : a.eval x = .slice (some ad) 1 cn) (hn : news.length = size) (hc : ∀ j u, news[j]? = some u → w.cell? (ad.add j) = some u) (h1c : ∀ u ∈ news, u.oneCell' = true)
    (b1 : n + 1 ≤ maxLen) (b2 : (n + 1) * bytes ≤ 140737488355328)
    (h : ∀ A' c' g' w', RowAt w' A' (n + 1) c' g' e size (xs ++ news) → Only (fun i => A ≠ none ∧ i = g) w w' → (A' ≠ none ∧ (A ≠ none ∧ g' = g ∨ w.heap.size ≤ g')) → wpList P ops Q rest (a.put o.dst (.slice A' (n + 1) c')) w') :
    wpList P ops Q (o :: rest) a w := by
  have hgrow : ∀ v' w', w'.ownsRow w.heap.size e size v' (n + 1) (xs ++ news) → w.grownBy w' none → wpList P ops Q rest (a.put o.dst v') w' := by
    intro v' w' r1 r2
    obtain ⟨A', c', rfl, hle⟩ := ownsRow_form r1
    obtain ⟨g', hb, hr⟩ := ownsRow_rowAt r1
    have hA : A' ≠ none := by
      rintro rfl
      rcases hr with ⟨_, h0, _⟩ | ⟨_, _, h0, _⟩
      · omega
      · cases h0
    exact h A' c' g' w' hr ((Only.of_grown r2).mono fun i _ hi => by cases hi) ⟨hA, .inr (hb hA)⟩
  rcases hrow with ⟨rfl, rfl, rfl, rfl⟩ | ⟨off, cells, rfl, k2, k3, k4, k5, k6, k7⟩
  · refine wpList_append_grows w hg s x t hop e i z size bytes h1 h2 h3 h4 h5 h6 h7 none 0 0 [] hs (fun _ => ⟨rfl, rfl⟩) (by simp) (fun b hb => by cases hb) ad 1 cn news hx (by simpa using hn) hc h1c (by omega) b1 b2 ?_
    intro v' w' r1 r2
    exact hgrow v' w' r1 r2
  · have hcc : (n + 1) ≤ c → off + n * size + news.length ≤ cells.size := by
      intro hh
      have : (n + 1) * size ≤ c * size := Nat.mul_le_mul_right _ hh
      rw [Nat.add_mul] at this
      omega
    refine wpList_append_arg w hg s x t hop e i z size bytes h1 h2 h3 h4 h5 h6 h7 g off n c xs hs k6 (fun j u hj => (k2.cell _).trans (k7 j u hj)) ad 1 cn news hx (by simpa using hn) hc h1c (fun hh j hj => ?_) b1 b2 (fun hh => ?_) (fun hh v' w' r1 r2 => hgrow v' w' r1 r2)
    · have := hcc hh
      rw [k2.cell]
      exact ⟨by rw [Array.getElem?_eq_getElem (by omega)]; rfl, k2.frozen _⟩
    · obtain ⟨cells', q1, q2, q3, q4⟩ := at_setCells news (off + n * size) w cells k2 (hcc hh)
      refine h (some ⟨g, off, none⟩) c g _ (.inr ⟨off, cells', rfl, q1, hh, k4, by omega, by rw [List.length_append, k6, hn, Nat.add_mul, Nat.one_mul], fun j u hu => ?_⟩) (only_setCells news _ w w (Only.refl _ w) ⟨by simp, rfl⟩) ⟨by simp, .inl ⟨by simp, rfl⟩⟩
      by_cases hj : j < xs.length
      · rw [List.getElem?_append_left hj] at hu
        rw [q4 _ (by omega)]; exact k7 j u hu
      · rw [List.getElem?_append_right (by omega)] at hu
        have := q3 _ u hu
        rw [← this]; congr 1; omega


/-- A row of natural numbers. -/
def nv (d : List Nat) : List Value := d.map (fun (n : Nat) => Value.int .i64 (n : Int))
theorem nv_len (d : List Nat) : (nv d).length = d.length := by simp [nv]
/-- What stands at a place. -/
def ix (d : List Nat) (p : Nat) : Nat := d.getD p 0
theorem nv_get (d : List Nat) (p : Nat) (h : p < d.length) : (nv d)[p]? = some (.int .i64 (ix d p : Int)) := by simp [nv, ix, List.getD, h]
theorem ix_set (d : List Nat) (q z p : Nat) (hq : q < d.length) : ix (d.set q z) p = if p = q then z else ix d p := by
  simp only [ix, List.getD, List.getElem?_set]
  by_cases h : q = p
  · subst h; simp [hq]
  · rw [if_neg h, if_neg (fun e => h e.symm)]
theorem nrow_at {w : World} {A : Option Addr} {n c g : Nat} {d : List Nat} (h : RowAt w A n c g 3 1 (nv d)) (hd : 0 < d.length) :
    ∃ off, A = some ⟨g, off, none⟩ ∧ ∀ m, m < d.length → w.cell? ⟨g, off + m, none⟩ = some (.int .i64 (ix d m : Int)) ∧ w.frozen? ⟨g, off + m, none⟩ = false := by
  rcases h with ⟨_, _, _, h⟩ | ⟨off, cells, h1, h2, h3, h4, h5, h6, h7⟩
  · have := nv_len d; rw [h] at this; simp at this; omega
  · exact ⟨off, h1, fun m hm => ⟨(h2.cell _).trans (h7 m _ (nv_get d m hm)), h2.frozen _⟩⟩
theorem nrow_set {w : World} {A : Option Addr} {n c g off : Nat} {d : List Nat} {m z : Nat} (h : RowAt w A n c g 3 1 (nv d)) (hA : A = some ⟨g, off, none⟩) (hm : m < d.length) :
    RowAt (w.setCell ⟨g, off + m, none⟩ (.int .i64 (z : Int))) A n c g 3 1 (nv (d.set m z)) := by
  rcases h with ⟨h, _⟩ | ⟨off', cells, h1, h2, h3, h4, h5, h6, h7⟩
  · rw [h] at hA; cases hA
  · rw [hA] at h1
    injection h1 with h1
    injection h1 with _ h1 _
    subst h1
    have hml : (nv d).length = d.length := nv_len d
    refine .inr ⟨off, cells.setIfInBounds (off + m) (.int .i64 (z : Int)), hA, h2.set _ _, h3, h4, by simpa using h5, by rw [nv_len, List.length_set, ← hml, h6], fun j u hu => ?_⟩
    have hj : j < d.length := by have := (List.getElem?_eq_some_iff.1 hu).1; rw [nv_len, List.length_set] at this; exact this
    rw [nv_get _ _ (by rw [List.length_set]; exact hj), ix_set _ _ _ _ hm] at hu
    by_cases hjm : j = m
    · subst hjm
      rw [Array.getElem?_setIfInBounds_self_of_lt (by have : j < n * 1 := by omega
                                                      have h8 : n * 1 ≤ c * 1 := Nat.mul_le_mul_right _ h3
                                                      omega)]
      rw [if_pos rfl] at hu
      exact hu
    · rw [Array.getElem?_setIfInBounds_ne (by omega)]
      rw [if_neg hjm] at hu
      exact h7 j u (by rw [nv_get d j hj]; exact hu)
/-- Two places change what they hold. -/
def sw (d : List Nat) (i j : Nat) : List Nat := (d.set i (ix d j)).set j (ix d i)
theorem sw_len (d : List Nat) (i j : Nat) : (sw d i j).length = d.length := by simp [sw]
theorem sw_ix (d : List Nat) (i j p : Nat) (hi : i < d.length) (hj : j < d.length) : ix (sw d i j) p = if p = j then ix d i else if p = i then ix d j else ix d p := by
  unfold sw
  rw [ix_set _ _ _ _ (by rw [List.length_set]; exact hj), ix_set _ _ _ _ hi]
theorem sw_perm (d : List Nat) (i j : Nat) (hi : i < d.length) (hj : j < d.length) : (sw d i j).Perm d := by
  have := List.set_set_perm hi hj
  unfold sw ix
  simpa [List.getD, hi, hj] using this
theorem nrow_sw {w : World} {A : Option Addr} {n c g off : Nat} {d : List Nat} {i j : Nat} (h : RowAt w A n c g 3 1 (nv d)) (hA : A = some ⟨g, off, none⟩) (hi : i < d.length) (hj : j < d.length) :
    RowAt ((w.setCell ⟨g, off + i, none⟩ (.int .i64 (ix d j : Int))).setCell ⟨g, off + j, none⟩ (.int .i64 (ix d i : Int))) A n c g 3 1 (nv (sw d i j)) :=
  nrow_set (nrow_set h hA hi) hA (by rw [List.length_set]; exact hj)
theorem only_sw (w : World) (g a b : Nat) (x y : Value) : Only (fun i => i = g) w ((w.setCell ⟨g, a, none⟩ x).setCell ⟨g, b, none⟩ y) :=
  ((Only.refl (fun i => i = g) w).setCell (p := ⟨g, a, none⟩) (fun _ => rfl) x).setCell (p := ⟨g, b, none⟩) (fun _ => rfl) y

/-- So many places from a on change with those from b on. -/
def swr (d : List Nat) (a b : Nat) : Nat → List Nat
  | 0 => d
  | q + 1 => sw (swr d a b q) (a + q) (b + q)
theorem swr_len (d : List Nat) (a b : Nat) : ∀ q, (swr d a b q).length = d.length
  | 0 => rfl
  | q + 1 => by simp [swr, sw_len, swr_len d a b q]
theorem swr_perm (d : List Nat) (a b : Nat) : ∀ q, a + q ≤ b → b + q ≤ d.length → (swr d a b q).Perm d
  | 0, _, _ => List.Perm.refl _
  | q + 1, h1, h2 => (sw_perm _ _ _ (by rw [swr_len]; omega) (by rw [swr_len]; omega)).trans (swr_perm d a b q (by omega) (by omega))
theorem swr_ix (d : List Nat) (a b : Nat) : ∀ q, a + q ≤ b → b + q ≤ d.length → ∀ p, ix (swr d a b q) p = if a ≤ p ∧ p < a + q then ix d (p - a + b) else if b ≤ p ∧ p < b + q then ix d (p - b + a) else ix d p
  | 0, h1, h2, p => by
    rw [if_neg (by omega), if_neg (by omega)]
    rfl
  | q + 1, h1, h2, p => by
    have ih := swr_ix d a b q (by omega) (by omega)
    simp only [swr]
    rw [sw_ix _ _ _ _ (by rw [swr_len]; omega) (by rw [swr_len]; omega)]
    by_cases e1 : p = b + q
    · subst e1
      rw [if_pos rfl, ih, if_neg (by omega), if_neg (by omega), if_neg (by omega), if_pos (by omega)]
      congr 1; omega
    · rw [if_neg e1]
      by_cases e2 : p = a + q
      · subst e2
        rw [if_pos rfl, ih, if_neg (by omega), if_neg (by omega), if_pos (by omega)]
        congr 1; omega
      · rw [if_neg e2, ih]
        by_cases e3 : a ≤ p ∧ p < a + q
        · rw [if_pos e3, if_pos (by omega)]
        · rw [if_neg e3]
          by_cases e4 : b ≤ p ∧ p < b + q
          · rw [if_pos e4, if_neg (by omega), if_pos (by omega)]
          · rw [if_neg e4, if_neg (by omega), if_neg (by omega)]

def RowP (A : Option Addr) (c g : Nat) (n : Nat) (d' : List Nat) (w : World) (e : Ending) (w' : World) : Prop :=
  e = .returned (.tuple #[]) ∧ RowAt w' A n c g 3 1 (nv d') ∧ Only (fun i => i = g) w w'

set_option maxRecDepth 100000 in
set_option maxHeartbeats 8000000 in
theorem swapRange_any (A : Option Addr) (c g : Nat) (d : List Nat) (a b k : Nat) (cl : Value) (n : Nat) (hn : d.length = n) (w : World) (h : RowAt w A n c g 3 1 (nv d)) (h1 : a + k ≤ b) (h2 : b + k ≤ n) (h3 : n ≤ 100000) :
    Calls Try.prog 28 #[.slice A n c, .int .i64 a, .int .i64 b, .int .i64 k, cl] w (RowP A c g n (swr d a b k) w) := by
  have HR := Lib.hid h
  have HN := Lib.hid hn
  clear hn h
  unfold RowP
  go_enter Try.func28, Try.ntmps28
  go_wp2_with (fail)
  go_loopw [10] (fun v10 wr => ∃ q : Nat, q ≤ k ∧ v10 = .int .i64 q ∧ RowAt wr A n c g 3 1 (nv (swr d a b q)) ∧ Only (fun i => i = g) w wr) (fun v10 _ => (k - intOf v10).toNat)
  case atStart => exact ⟨0, by omega, rfl, HR.out, Only.refl _ _⟩
  case round =>
    obtain ⟨q, hq, rfl, hrow, hO⟩ := hrel
    have HO := Lib.hid hO
    clear hO
    by_cases hqk : q < k
    · have hel : (swr d a b q).length = n := by rw [swr_len, HN.out]
      obtain ⟨off, rfl, hc⟩ := nrow_at hrow (by omega)
      obtain ⟨x1, f1⟩ := hc (a + q) (by omega)
      obtain ⟨x2, f2⟩ := hc (b + q) (by omega)
      have hd := (Only.refl (fun i => i = g) wr).drew
      have HSW : Hid (∀ W, RowAt W (some ⟨g, off, none⟩) n c g 3 1 (nv (swr d a b q)) → RowAt ((W.setCell ⟨g, off + (a + q), none⟩ (.int .i64 (ix (swr d a b q) (b + q) : Int))).setCell ⟨g, off + (b + q), none⟩ (.int .i64 (ix (swr d a b q) (a + q) : Int))) (some ⟨g, off, none⟩) n c g 3 1 (nv (swr d a b (q + 1)))) :=
        Lib.hid (fun W hW => nrow_sw hW rfl (by omega) (by omega))
      have HROW := Lib.hid hrow
      have i0 : (0 : Int) ≤ (a : Int) + q := by omega
      have i1 : (a : Int) + q < n := by omega
      have i2 : (0 : Int) ≤ (b : Int) + q := by omega
      have i3 : (b : Int) + q < n := by omega
      have q1 : (q : Int) < k := by omega
      generalize ix (swr d a b q) (b + q) = y2 at *
      generalize ix (swr d a b q) (a + q) = y1 at *
      clear hc hrow hd
      go_wp2_with (fail)
      go_region
      go_wp2
      go_roundw
      case rel => exact ⟨q + 1, by omega, by simp, (HSW.out _ HROW.out).only ((Only.refl (fun _ => False) _).drew) (fun _ => id), HO.out.trans (only_sw _ _ _ _ _ _).drew⟩
      case measure => simp [intOf]; omega
    · obtain rfl : q = k := by omega
      have q1 : ¬ (q : Int) < q := by omega
      go_wp2
      refine bodyPost_end (results_none rfl _ _ _) rfl ?_
      exact ⟨rfl, hrow, HO.out⟩
end Go.Proofs.Ytbcjpchjidgpeaa
