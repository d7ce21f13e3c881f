/- Slices among a call's arguments, opened: a slice of integers, of bools. -/
import Derived.Test.YtjobaplioidogaaGreatM
import Derived.Test.YtjobaplioidogaaGreatR
import Derived.Deep.Slices
import Derived.Deep.Fields
import Derived.ChangeSame
namespace Go.Proofs.YtjobaplioidogaaGreat
open Go.ChangeShapes Go.WideShapes Go.ChangeAt Go.RowKit Go.Deep

theorem add_spot {w : World} {x : Addr} {j : Nat} {u : Value} (h : w.cell? (x.add j) = some u) (h0 : ∃ u0, w.cell? (x.add 0) = some u0) : ∃ b off, x = ⟨b, off, none⟩ ∧ w.cell? ⟨b, off + j, none⟩ = some u := by
  obtain ⟨b, off, spot⟩ := x
  obtain ⟨u0, h0⟩ := h0
  have hs : spot = none := by simpa [Addr.add] using World.cell?_spot h0
  subst hs
  refine ⟨b, off, rfl, ?_⟩
  unfold Addr.add at h
  split at h
  · subst j; simpa using h
  · exact h

theorem open_slice_ints {H : Type} {enc : TypeId × Value → H} {P : Program} {w : World} {spare : Nat → Bool} {held : Bool} {t e : TypeId} {k : IntKind} {v : Value} {d : DataW H} {p : List MemPlace} {r : Reach} {b0 : Nat}
    (ht : P.underlying t = some (.slice e)) (he : P.underlying e = some (.int k)) (hce : P.cellsOf e = 1) (hv : Value.okWide P w r b0 t v) (h : DataW.Trod enc P w 0 spare held t v d p) :
    ∃ (g c : Nat) (A : Option Addr) (l : List Int), v = .slice A l.length c ∧ Rd w g A (l.map (Value.int k)) ∧ (∀ z ∈ l, (Lit.int k z).wf = true) ∧ l.length ≤ c ∧ c ≤ maxLen := by
  obtain ⟨a0, len, cap, rfl⟩ := okWide_slice ht hv
  obtain ⟨fuel, hf⟩ := h
  rcases open_ints ht he hce hf with ⟨hcs, _⟩ | ⟨x, l, c, zs, hcs, _, hl, hm, hz, _, hcell, hwz⟩
  · simp [Value.cells] at hcs
    obtain ⟨rfl, rfl, rfl⟩ := hcs
    exact ⟨0, 0, none, [], rfl, .inl rfl, by simp, Nat.le_refl _, by simp [maxLen]⟩
  · simp [Value.cells] at hcs
    obtain ⟨rfl, rfl, rfl⟩ := hcs
    have hzl : (zs.take len).length = len := by
      rw [List.length_take]
      have : len ≤ zs.length := by
        rw [hz]; split <;> omega
      omega
    refine ⟨x.block, cap, some x, zs.take len, by rw [hzl], ?_, fun z hz => hwz z (List.mem_of_mem_take hz), by omega, hm⟩
    by_cases h0 : len = 0
    · subst h0; exact .inl (by simp)
    · have hzlen : len ≤ zs.length := by rw [hz]; split <;> omega
      have c0 := hcell 0 (by omega)
      obtain ⟨b, off, hx, _⟩ := add_spot c0 ⟨_, c0⟩
      subst hx
      refine .inr ⟨off, rfl, World.block_lt_of_cell? _ _ (by simpa [Addr.add] using c0), fun j u hu => ?_⟩
      simp only [List.getElem?_map, List.getElem?_take] at hu
      split at hu
      · rename_i hj
        have cj := hcell j (by omega)
        obtain ⟨b', off', hx', hc'⟩ := add_spot cj ⟨_, c0⟩
        injection hx' with h1 h2 _
        subst h1; subst h2
        rw [hc', ← hu]
        simp [List.getD, List.getElem?_eq_getElem (show j < zs.length by omega)]
      · simp at hu

theorem flat_length {α : Type} (f : Nat → List α) (k : Nat) : ∀ n, (∀ i, i < n → (f i).length = k) → ((List.range n).flatMap f).length = n * k
  | 0, _ => by simp
  | n + 1, h => by
    rw [List.range_succ, List.flatMap_append, List.length_append, flat_length f k n (fun i hi => h i (by omega))]
    simp only [List.flatMap_cons, List.flatMap_nil, List.append_nil]
    rw [h n (by omega), Nat.add_mul, Nat.one_mul]

theorem flat_get {α : Type} (f : Nat → List α) (k : Nat) : ∀ n, (∀ i, i < n → (f i).length = k) → ∀ i r, i < n → r < k → ((List.range n).flatMap f)[i * k + r]? = (f i)[r]?
  | 0, _, i, _, hi, _ => by omega
  | n + 1, h, i, r, hi, hr => by
    have hl := flat_length f k n (fun i hi => h i (by omega))
    rw [List.range_succ, List.flatMap_append]
    by_cases e : i = n
    · subst e
      rw [List.getElem?_append_right (by omega), hl]
      simp only [List.flatMap_cons, List.flatMap_nil, List.append_nil]
      congr 1
      omega
    · have hlt : i * k + r < n * k := by
        have : (i + 1) * k ≤ n * k := Nat.mul_le_mul_right k (by omega)
        rw [Nat.add_mul, Nat.one_mul] at this
        omega
      rw [List.getElem?_append_left (by omega)]
      exact flat_get f k n (fun i hi => h i (by omega)) i r (by omega) hr

/-- A slice of whatever elements (k cells each): its cells, and each element's own reading. -/
theorem open_slice_any {H : Type} {enc : TypeId × Value → H} {P : Program} {w : World} {spare : Nat → Bool} {held : Bool} {t e : TypeId} {v : Value} {d : DataW H} {p : List MemPlace} {r : Reach} {b0 k : Nat}
    (ht : P.underlying t = some (.slice e)) (hk : P.cellsOf e = k) (hk0 : 0 < k) (hv : Value.okWide P w r b0 t v) (h : DataW.Trod enc P w 0 spare held t v d p) :
    ∃ (g c n : Nat) (A : Option Addr) (vs : List Value), v = .slice A n c ∧ n ≤ c ∧ c ≤ maxLen ∧ vs.length = n * k ∧ Rd w g A vs ∧
      ∀ i, i < n → ∃ (fuel : Nat) (x : DataW H × List MemPlace), DataW.trod enc P w 0 spare held fuel e ((vs.drop (i * k)).take k) = some x := by
  obtain ⟨a0, len0, cap0, rfl⟩ := okWide_slice ht hv
  obtain ⟨fuel, hf⟩ := h
  rcases Go.Deep.open_slice ht hf with ⟨hcs, _⟩ | ⟨a, len, cap, m, n, D, Pl, hcs, hb, hl, hm, hmm, hx, hi⟩
  · simp [Value.cells] at hcs
    obtain ⟨rfl, rfl, rfl⟩ := hcs
    exact ⟨0, 0, 0, none, [], rfl, Nat.le_refl _, by simp [maxLen], by simp, .inl rfl, fun i hi => by omega⟩
  · simp [Value.cells] at hcs
    obtain ⟨rfl, rfl, rfl⟩ := hcs
    have hlm : len0 ≤ m := by rw [hmm]; split <;> omega
    have hi' : ∀ i, i < len0 → ∃ cs, w.cells? 0 (a.add (i * k)) k = some cs ∧ DataW.trod enc P w 0 spare held n e cs = some (D i, Pl i) := by
      intro i h
      have := hi i (by omega)
      rwa [hk] at this
    let f : Nat → List Value := fun i => (w.cells? 0 (a.add (i * k)) k).getD []
    have hf1 : ∀ i, i < len0 → (f i).length = k := by
      intro i h
      obtain ⟨cs, h1, _⟩ := hi' i h
      obtain ⟨_, h2, _⟩ := World.cells?_some h1
      show ((w.cells? 0 (a.add (i * k)) k).getD []).length = k
      rw [h1]; exact h2
    have hf2 : ∀ i, i < len0 → ∀ r, r < k → w.cell? ((a.add (i * k)).add r) = (f i)[r]? := by
      intro i h r hr
      obtain ⟨cs, h1, _⟩ := hi' i h
      obtain ⟨_, _, h3⟩ := World.cells?_some h1
      show _ = ((w.cells? 0 (a.add (i * k)) k).getD [])[r]?
      rw [h1]; exact h3 r hr
    refine ⟨a.block, cap0, len0, some a, (List.range len0).flatMap f, rfl, hl, hm, flat_length f k len0 hf1, ?_, ?_⟩
    · by_cases h0 : len0 = 0
      · subst h0; exact .inl (by simp)
      · have c0 := hf2 0 (by omega) 0 hk0
        have hfl := hf1 0 (by omega)
        rw [List.getElem?_eq_getElem (by omega)] at c0
        have c0' : w.cell? (a.add 0) = some ((f 0)[0]'(by omega)) := by
          rw [← c0]; simp [Addr.add]
        obtain ⟨b, off, ha, _⟩ := add_spot c0' ⟨_, c0'⟩
        subst ha
        refine .inr ⟨off, rfl, World.block_lt_of_cell? _ _ (by simpa [Addr.add] using c0'), fun j u hu => ?_⟩
        have hj : j < len0 * k := by
          have := (List.getElem?_eq_some_iff.1 hu).1
          rwa [flat_length f k len0 hf1] at this
        have hq : j / k < len0 := Nat.div_lt_of_lt_mul (by rwa [Nat.mul_comm] at hj)
        have hr : j % k < k := Nat.mod_lt _ hk0
        have hjk : j / k * k + j % k = j := Nat.div_add_mod' j k
        have h1 := flat_get f k len0 hf1 (j / k) (j % k) hq hr
        rw [hjk, hu] at h1
        have h2 := hf2 (j / k) hq (j % k) hr
        rw [← h1] at h2
        rw [← h2, Go.Deep.add_add, hjk]
        unfold Addr.add
        split
        · subst j; rfl
        · rfl
    · intro i h
      obtain ⟨cs, h1, h2⟩ := hi' i h
      have he : (((List.range len0).flatMap f).drop (i * k)).take k = cs := by
        have hfi : f i = cs := by show (w.cells? 0 (a.add (i * k)) k).getD [] = cs; rw [h1]; rfl
        apply List.ext_getElem?
        intro r
        by_cases hr : r < k
        · rw [List.getElem?_take, if_pos hr, List.getElem?_drop, flat_get f k len0 hf1 i r h hr, hfi]
        · rw [List.getElem?_take, if_neg hr]
          have := hf1 i h
          rw [hfi] at this
          rw [List.getElem?_eq_none (by omega)]
      exact ⟨n, (D i, Pl i), by rw [he]; exact h2⟩

/-- A struct of integers: its cells are integers. -/
theorem trod_ints {H : Type} {enc : TypeId × Value → H} {P : Program} {w : World} {base : Nat} {spare : Nat → Bool} {held : Bool} {e : TypeId} {fs : Array Field} {fuel : Nat} {cs : List Value} {x : DataW H × List MemPlace}
    (hs : P.underlying e = some (.struct fs)) (hone : oneCellFields P fs = true) (hC : P.cellsOf e = fs.size) (hint : ∀ (j : Nat) (f : Field), fs[j]? = some f → P.underlying f.type = some (.int .i64))
    (h : DataW.trod enc P w base spare held fuel e cs = some x) : ∃ zs : List Int, zs.length = fs.size ∧ cs = zs.map (Value.int .i64) ∧ ∀ z ∈ zs, (Lit.int .i64 z).wf = true := by
  obtain ⟨xs, n, _, _, hcl, hlen, hg⟩ := DataW.trod_struct hs h
  rw [hC] at hcl
  have hi : ∀ j, j < fs.size → ∃ z, cs[j]? = some (.int .i64 z) ∧ (Lit.int .i64 z).wf = true := by
    intro j hj
    obtain ⟨ho, hk⟩ := hone_of hone j fs[j] (Array.getElem?_eq_getElem hj)
    have h1 := hg j fs[j] (Array.getElem?_eq_getElem hj)
    rw [ho, hk, List.getElem?_eq_getElem (show j < xs.length by omega)] at h1
    have e1 : (cs.drop j).take 1 = [cs[j]'(by omega)] := by
      rw [List.drop_eq_getElem_cons (by omega)]; rfl
    rw [e1] at h1
    obtain ⟨z, hz, _, hw⟩ := DataW.trod_int (hint j fs[j] (Array.getElem?_eq_getElem hj)) h1
    simp at hz
    exact ⟨z, by rw [List.getElem?_eq_getElem (by omega), hz], hw⟩
  refine ⟨cs.map intOf, by simpa using hcl, ?_, ?_⟩
  · apply List.ext_getElem
    · simp
    · intro j h1 h2
      obtain ⟨z, hz, _⟩ := hi j (by omega)
      have : cs[j] = .int .i64 z := by
        rw [List.getElem?_eq_getElem h1] at hz; simpa using hz
      simp [this, intOf]
  · intro z hz
    obtain ⟨v, hv, rfl⟩ := List.mem_map.1 hz
    obtain ⟨j, h1, h2⟩ := List.getElem_of_mem hv
    obtain ⟨z, hz, hw⟩ := hi j (by omega)
    rw [List.getElem?_eq_getElem h1] at hz
    have : v = .int .i64 z := by rw [← h2]; simpa using hz
    rw [this]; exact hw

/-- Cells that are so many rows, each a thing's own, are a list of things. -/
theorem chunks {α : Type} (cells : α → List Value) (k : Nat) (hk : ∀ x, (cells x).length = k) (Q : α → Prop) : ∀ (n : Nat) (vs : List Value), vs.length = n * k →
    (∀ i, i < n → ∃ x, Q x ∧ (vs.drop (i * k)).take k = cells x) → ∃ l : List α, l.length = n ∧ vs = l.flatMap cells ∧ ∀ x ∈ l, Q x
  | 0, vs, hl, _ => ⟨[], rfl, by simpa using hl, by simp⟩
  | n + 1, vs, hl, h => by
    obtain ⟨x, hq, hx⟩ := h 0 (by omega)
    rw [Nat.add_mul, Nat.one_mul] at hl
    obtain ⟨l, h1, h2, h3⟩ := chunks cells k hk Q n (vs.drop k) (by rw [List.length_drop]; omega) (fun i hi => by
      obtain ⟨y, hq, hy⟩ := h (i + 1) (by omega)
      refine ⟨y, hq, ?_⟩
      rw [List.drop_drop, ← hy]
      congr 2
      rw [Nat.add_mul, Nat.one_mul]; omega)
    refine ⟨x :: l, by simp [h1], ?_, ?_⟩
    · rw [List.flatMap_cons, ← h2, ← hx]
      simp
    · intro y hy
      rcases List.mem_cons.1 hy with rfl | hy
      · exact hq
      · exact h3 y hy

end Go.Proofs.YtjobaplioidogaaGreat
