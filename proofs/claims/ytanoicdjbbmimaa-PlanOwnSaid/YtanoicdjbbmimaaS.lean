/- Slices among a call's arguments, opened: a slice of integers, of bools. -/
import Derived.Test.YtanoicdjbbmimaaM
import Derived.Test.YtanoicdjbbmimaaR
namespace Go.Proofs.Ytanoicdjbbmimaa
open Go.ChangeShapes Go.WideShapes Go.ChangeAt Go.RowKit

theorem add_spot {w : World} {x : Addr} {j : Nat} {u : Value} (h : w.cell? (x.add j) = some u) (h0 : ∃ u0, w.cell? (x.add 0) = some u0) : ∃ b off, x = ⟨b, off, none⟩ ∧ w.cell? ⟨b, off + j, none⟩ = some u := by
  obtain ⟨b, off, spot⟩ := x
  obtain ⟨u0, h0⟩ := h0
  have hs : spot = none := by simpa [Addr.add] using World.cell?_spot h0
  subst hs
  refine ⟨b, off, rfl, ?_⟩
  unfold Addr.add at h
  split at h
  · subst j; simpa using h
  · exact h

theorem open_slice_ints {H : Type} {enc : TypeId × Value → H} {P : Program} {w : World} {spare : Nat → Bool} {held : Bool} {t e : TypeId} {k : IntKind} {v : Value} {d : DataW H} {p : List MemPlace} {r : Reach} {b0 : Nat}
    (ht : P.underlying t = some (.slice e)) (he : P.underlying e = some (.int k)) (hce : P.cellsOf e = 1) (hv : Value.okWide P w r b0 t v) (h : DataW.Trod enc P w 0 spare held t v d p) :
    ∃ (g c : Nat) (A : Option Addr) (l : List Int), v = .slice A l.length c ∧ Rd w g A (l.map (Value.int k)) ∧ (∀ z ∈ l, (Lit.int k z).wf = true) ∧ l.length ≤ c ∧ c ≤ maxLen := by
  obtain ⟨a0, len, cap, rfl⟩ := okWide_slice ht hv
  obtain ⟨fuel, hf⟩ := h
  rcases open_ints ht he hce hf with ⟨hcs, _⟩ | ⟨x, l, c, zs, hcs, _, hl, hm, hz, _, hcell, hwz⟩
  · simp [Value.cells] at hcs
    obtain ⟨rfl, rfl, rfl⟩ := hcs
    exact ⟨0, 0, none, [], rfl, .inl rfl, by simp, Nat.le_refl _, by simp [maxLen]⟩
  · simp [Value.cells] at hcs
    obtain ⟨rfl, rfl, rfl⟩ := hcs
    have hzl : (zs.take len).length = len := by
      rw [List.length_take]
      have : len ≤ zs.length := by
        rw [hz]; split <;> omega
      omega
    refine ⟨x.block, cap, some x, zs.take len, by rw [hzl], ?_, fun z hz => hwz z (List.mem_of_mem_take hz), by omega, hm⟩
    by_cases h0 : len = 0
    · subst h0; exact .inl (by simp)
    · have hzlen : len ≤ zs.length := by rw [hz]; split <;> omega
      have c0 := hcell 0 (by omega)
      obtain ⟨b, off, hx, _⟩ := add_spot c0 ⟨_, c0⟩
      subst hx
      refine .inr ⟨off, rfl, World.block_lt_of_cell? _ _ (by simpa [Addr.add] using c0), fun j u hu => ?_⟩
      simp only [List.getElem?_map, List.getElem?_take] at hu
      split at hu
      · rename_i hj
        have cj := hcell j (by omega)
        obtain ⟨b', off', hx', hc'⟩ := add_spot cj ⟨_, c0⟩
        injection hx' with h1 h2 _
        subst h1; subst h2
        rw [hc', ← hu]
        simp [List.getD, List.getElem?_eq_getElem (show j < zs.length by omega)]
      · simp at hu

end Go.Proofs.Ytanoicdjbbmimaa
