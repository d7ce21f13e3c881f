/- Lines: lines that are used one behind the other: plain. -/
import Derived.Test.YtlenjgofiocaaaaAA
namespace Go.Proofs.Ytlenjgofiocaaaa
open Go.RowKit

/-- All are free, of one good block, and worn alike. -/
structure Even (l : List Ln) (m : Int) : Prop where
  g : ∀ x ∈ l, x.g = 1
  s : ∀ x ∈ l, x.s = 0
  w : ∀ x ∈ l, m ≤ x.w ∧ x.w ≤ m + 1
theorem Even.round {l : List Ln} {m : Int} (h : Even l m) {j : Nat} (hj : Least l j) (hl : j < l.length) : ∃ m', m ≤ m' ∧ m' ≤ m + 1 ∧ Even (l.set j { l[j] with w := (l[j]).w + 1 }) m' := by
  obtain ⟨hj', hs, hle⟩ := hj
  have hw := h.w _ (List.getElem_mem hl)
  have hg : ∀ x ∈ l.set j { l[j] with w := (l[j]).w + 1 }, x.g = 1 := fun x hx => by
    rcases List.mem_or_eq_of_mem_set hx with hx | rfl
    · exact h.g x hx
    · exact h.g l[j] (List.getElem_mem hl)
  have hs : ∀ x ∈ l.set j { l[j] with w := (l[j]).w + 1 }, x.s = 0 := fun x hx => by
    rcases List.mem_or_eq_of_mem_set hx with hx | rfl
    · exact h.s x hx
    · exact h.s l[j] (List.getElem_mem hl)
  by_cases e : (l[j]).w = m
  · refine ⟨m, by omega, by omega, hg, hs, fun x hx => ?_⟩
    rcases List.mem_or_eq_of_mem_set hx with hx | rfl
    · exact h.w x hx
    · simp only; omega
  · refine ⟨m + 1, by omega, by omega, hg, hs, fun x hx => ?_⟩
    rcases List.mem_or_eq_of_mem_set hx with hx | rfl
    · obtain ⟨k, hk, rfl⟩ := List.getElem_of_mem hx
      have h1 := (hle k hk (h.s _ hx)).1
      have h2 := h.w _ hx
      omega
    · simp only; omega
theorem Even.opens {l : List Ln} {m : Int} (h : Even l m) (hl : 1 ≤ l.length) : ∃ y : Ent l, bst (flt l 0 l.length) = some y ∧ Least l y.1.1 := by
  have hb := bst_least l.length (Nat.le_refl _) (l := l)
  cases e : bst (flt l 0 l.length) with
  | none => exact absurd (h.s _ (List.getElem_mem (show 0 < l.length by omega))) (hb.2 e 0 (by omega) (by omega))
  | some y =>
    obtain ⟨hi, hx⟩ := List.getElem?_eq_some_iff.1 y.2
    refine ⟨y, rfl, hi, h.s _ (List.getElem_mem hi), fun k hk hks => ?_⟩
    have := (hb.1 y e).2 k hk hk hks
    rw [hx]
    exact this
/-- What the rows are filled with. -/
def spW (wear : Int) (more : List Bool) : Nat → List Int
  | 0 => []
  | k + 1 => spW wear more k ++ [if more.getD k false then wear + 1 else wear]
def spG : Nat → List Int
  | 0 => []
  | k + 1 => spG k ++ [1]
theorem spW_len (wear : Int) (more : List Bool) : ∀ k, (spW wear more k).length = k
  | 0 => rfl
  | k + 1 => by simp [spW, spW_len wear more k]
theorem spG_len : ∀ k, (spG k).length = k
  | 0 => rfl
  | k + 1 => by simp [spG, spG_len k]
theorem spW_mem {wear : Int} {more : List Bool} : ∀ k, ∀ z ∈ spW wear more k, wear ≤ z ∧ z ≤ wear + 1
  | 0, z, h => by simp [spW] at h
  | k + 1, z, h => by
    rcases List.mem_append.1 h with h | h
    · exact spW_mem k z h
    · simp at h
      subst h
      split <;> omega
theorem spG_mem : ∀ k, ∀ z ∈ spG k, z = 1
  | 0, z, h => by simp [spG] at h
  | k + 1, z, h => by
    rcases List.mem_append.1 h with h | h
    · exact spG_mem k z h
    · simpa using h
theorem even_new {wear : Int} {more : List Bool} {k : Nat} : Even (newL (spG k) (spW wear more k) k) wear := by
  have hx : ∀ x ∈ newL (spG k) (spW wear more k) k, x.g = 1 ∧ x.s = 0 ∧ wear ≤ x.w ∧ x.w ≤ wear + 1 := by
    intro x hx
    obtain ⟨i, hi, rfl⟩ := List.getElem_of_mem hx
    rw [newL_get hi]
    have hl := newL_len (spG k) (spW wear more k) k
    have h1 : i < (spG k).length := by rw [spG_len]; omega
    have h2 : i < (spW wear more k).length := by rw [spW_len]; omega
    have e1 : (spG k).getD i 0 = 1 := by
      have := spG_mem k _ (List.getElem_mem h1)
      simp [List.getD, h1, this]
    have e2 := spW_mem k _ (List.getElem_mem h2)
    have e3 : (spW wear more k).getD i 0 = (spW wear more k)[i] := by simp [List.getD, h2]
    rw [e1, e3]
    exact ⟨rfl, rfl, e2.1, e2.2⟩
  exact ⟨fun x h => (hx x h).1, fun x h => (hx x h).2.1, fun x h => (hx x h).2.2⟩
end Go.Proofs.Ytlenjgofiocaaaa
