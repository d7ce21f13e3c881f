/- Victim: the laws VictimMore and VictimTurned: the plain parts. -/
import Derived.Test.YtbcjpchjidgpeaaY
namespace Go.Proofs.Ytbcjpchjidgpeaa
open Go.RowKit

theorem gl_app (l : List Ln) (x : Ln) (i : Nat) (h : i < l.length) : gl (l ++ [x]) i = gl l i := by simp [gl, List.getD, List.getElem?_append_left h]
theorem gl_end (l : List Ln) (x : Ln) : gl (l ++ [x]) l.length = x := by simp [gl, List.getD]
theorem mayL_app (l : List Ln) (x : Ln) : ∀ k, k ≤ l.length → mayL (l ++ [x]) k = mayL l k := by
  intro k
  induction k with
  | zero => intro _; rfl
  | succ k ih =>
    intro hk
    simp only [mayL]
    rw [ih (by omega), gl_app l x k (by omega)]
theorem mayL_more (l : List Ln) (x : Ln) (hx : x.may = false) : mayL (l ++ [x]) (l ++ [x]).length = mayL l l.length := by
  rw [List.length_append, List.length_singleton]
  simp only [mayL]
  rw [gl_end, if_neg (by rw [hx]; decide), mayL_app l x _ (Nat.le_refl _)]
theorem so_more (l : List Ln) (x : Ln) (d : List Nat) (hb : ∀ e ∈ d, e < l.length) (h : So (l ++ [x]) d 0 d.length) : So l d 0 d.length := fun p q p1 p2 p3 => by
  have h1 := h p q p1 p2 p3
  unfold lt at h1 ⊢
  rwa [gl_app l x _ (hb _ (ix_mem d p (by omega))), gl_app l x _ (hb _ (ix_mem d q p3))] at h1
theorem pk_app (l : List Ln) (x : Ln) : ∀ i, i ≤ l.length → pk (l ++ [x]) i = pk l i := by
  intro i
  induction i with
  | zero => intro _; rfl
  | succ i ih =>
    intro hi
    have e1 : (l ++ [x])[i]? = l[i]? := List.getElem?_append_left (by omega)
    have hb := pk_bd l i
    simp only [pk]
    rw [ih (by omega), e1]
    by_cases h0 : pk l i < 0
    · simp [h0]
    · have e2 : (l ++ [x])[(pk l i).toNat]? = l[(pk l i).toNat]? := List.getElem?_append_left (by omega)
      rw [e2]
theorem pk_more (l : List Ln) (x : Ln) (hx : x.may = false) : pk (l ++ [x]) (l ++ [x]).length = pk l l.length := by
  have e1 : (l ++ [x])[l.length]? = some x := by simp
  rw [List.length_append, List.length_singleton]
  simp only [pk]
  rw [e1]
  simp only
  rw [if_neg (fun h => by rw [hx] at h; exact absurd h.1 (by decide)), pk_app l x _ (Nat.le_refl _)]
theorem gain_more (l : List Ln) (x : Ln) (hx : x.may = false) : gainI (l ++ [x]) (l.length : Int) = 0 := by
  rw [gainI_gl _ _ (by simp), gl_end, gain_no hx]

/-- How many lines may be moved. -/
theorem cnt_filter (l : List Ln) : cntTo l l.length = (l.filter Ln.may).length := by
  have h : ∀ k, k ≤ l.length → cntTo l k = ((l.take k).filter Ln.may).length := by
    intro k
    induction k with
    | zero => intro _; rfl
    | succ k ih =>
      intro hk
      have hg := gl_get l k (by omega)
      rw [List.take_add_one, hg, List.filter_append, List.length_append, ← ih (by omega)]
      simp only [cntTo, hg, Option.toList_some]
      by_cases hm : (gl l k).may = true
      · rw [if_pos hm]; simp [hm]
      · have hm' : (gl l k).may = false := by simpa using hm
        rw [if_neg hm]; simp [hm']
  have := h l.length (Nat.le_refl _)
  rwa [List.take_length] at this
theorem cnt_turn (l : List Ln) (k : Nat) : cntTo (l.drop k ++ l.take k) (l.drop k ++ l.take k).length = cntTo l l.length := by
  rw [cnt_filter, cnt_filter, List.filter_append, List.length_append]
  have : (l.filter Ln.may).length = ((l.take k).filter Ln.may).length + ((l.drop k).filter Ln.may).length := by
    rw [← List.length_append, ← List.filter_append, List.take_append_drop]
  omega
theorem mem_turn (l : List Ln) (k : Nat) (x : Ln) : x ∈ l.drop k ++ l.take k ↔ x ∈ l := by
  constructor
  · intro h
    rcases List.mem_append.1 h with h | h
    · exact List.mem_of_mem_drop h
    · exact List.mem_of_mem_take h
  · intro h
    rw [← List.take_append_drop k l] at h
    rcases List.mem_append.1 h with h | h
    · exact List.mem_append.2 (.inr h)
    · exact List.mem_append.2 (.inl h)
theorem gl_mem (l : List Ln) (i : Nat) (h : i < l.length) : gl l i ∈ l := by rw [← gl_eq l i h]; exact List.getElem_mem h
theorem mem_gl {l : List Ln} {x : Ln} (h : x ∈ l) : ∃ i, i < l.length ∧ gl l i = x := by
  obtain ⟨i, hi, he⟩ := List.getElem_of_mem h
  exact ⟨i, hi, by rw [← gl_eq l i hi]; exact he⟩
/-- Of two lines that are each the best, none is better. -/
theorem not_better {l : List Ln} {i b : Nat} (h : ¬ lt l i b) : (gl l b).va < (gl l i).va ∨ ((gl l b).va = (gl l i).va ∧ (gl l b).we ≤ (gl l i).we) := by
  unfold lt bt at h
  by_cases h1 : (gl l i).va = (gl l b).va
  · rw [if_pos h1] at h
    refine .inr ⟨h1.symm, ?_⟩
    by_cases h2 : (gl l i).we = (gl l b).we
    · omega
    · rw [if_neg h2] at h
      simp at h; omega
  · rw [if_neg h1] at h
    simp at h; omega
/-- The two picked lines of a list and of the list turned. -/
theorem turn_law (l : List Ln) (k : Nat) : (pk l l.length = -1 ∧ pk (l.drop k ++ l.take k) (l.drop k ++ l.take k).length = -1) ∨
    ∃ a b : Nat, pk l l.length = (a : Int) ∧ pk (l.drop k ++ l.take k) (l.drop k ++ l.take k).length = (b : Int) ∧ a < l.length ∧ b < (l.drop k ++ l.take k).length ∧
      (gl l a).va = (gl (l.drop k ++ l.take k) b).va ∧ (gl l a).we = (gl (l.drop k ++ l.take k) b).we := by
  have hc := cnt_turn l k
  have hmem := mem_turn l k
  generalize l.drop k ++ l.take k = m at *
  rcases pick_best l with ⟨h1, h2, h3⟩ | ⟨a, h1, h2, h3, h4, h5⟩
  · rcases pick_best m with ⟨k1, _⟩ | ⟨b, _, _, _, k4, _⟩
    · exact .inl ⟨h1, k1⟩
    · omega
  · rcases pick_best m with ⟨_, k2, _⟩ | ⟨b, k1, k2, k3, k4, k5⟩
    · omega
    · refine .inr ⟨a, b, h1, k1, h2, k2, ?_⟩
      obtain ⟨j, j1, j2⟩ := mem_gl ((hmem _).1 (gl_mem m b k2))
      obtain ⟨i, i1, i2⟩ := mem_gl ((hmem _).2 (gl_mem l a h2))
      have n1 := not_better (h5 j j1 (by rw [j2]; exact k3))
      have n2 := not_better (k5 i i1 (by rw [i2]; exact h3))
      rw [j2] at n1
      rw [i2] at n2
      omega
theorem lv_app (l m : List Ln) : lv (l ++ m) = lv l ++ lv m := by simp [lv]
theorem lv_one (l : List Ln) : ∀ u ∈ lv l, u.oneCell' = true := by
  intro u hu
  obtain ⟨x, _, h⟩ := List.mem_flatMap.1 hu
  simp only [Ln.cells, List.mem_cons, List.not_mem_nil, or_false] at h
  rcases h with rfl | rfl | rfl | rfl | rfl <;> rfl
end Go.Proofs.Ytbcjpchjidgpeaa
