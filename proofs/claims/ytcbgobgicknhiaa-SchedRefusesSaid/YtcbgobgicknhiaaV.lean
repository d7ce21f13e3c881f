/- Sched: a slice of who is ready and who is asked for among a call's arguments, opened. -/
import Derived.Test.YtcbgobgicknhiaaS
import Derived.Test.YtcbgobgicknhiaaG
namespace Go.Proofs.Ytcbgobgicknhiaa
open Go.ChangeShapes Go.WideShapes Go.ChangeAt Go.RowKit Go.Deep

/-- What a slice's cell leads to: so many elements of k cells, each with its own reading. -/
theorem cells_slice_any {H : Type} {enc : TypeId × Value → H} {P : Program} {w : World} {spare : Nat → Bool} {held : Bool} {t e : TypeId} {fuel : Nat} {cs : List Value} {x : DataW H × List MemPlace} {k : Nat}
    (ht : P.underlying t = some (.slice e)) (hk : P.cellsOf e = k) (hk0 : 0 < k) (hf : DataW.trod enc P w 0 spare held fuel t cs = some x) :
    ∃ (g c n : Nat) (A : Option Addr) (vs : List Value), cs = [.slice A n c] ∧ n ≤ c ∧ c ≤ maxLen ∧ vs.length = n * k ∧ Rd w g A vs ∧
      ∀ i, i < n → ∃ (fuel : Nat) (x : DataW H × List MemPlace), DataW.trod enc P w 0 spare held fuel e ((vs.drop (i * k)).take k) = some x := by
  rcases Go.Deep.open_slice ht hf with ⟨hcs, _⟩ | ⟨a, len0, cap0, m, n, D, Pl, hcs, hb, hl, hm, hmm, hx, hi⟩
  · exact ⟨0, 0, 0, none, [], hcs, Nat.le_refl _, by simp [maxLen], by simp, .inl rfl, fun i hi => by omega⟩
  · have hlm : len0 ≤ m := by rw [hmm]; split <;> omega
    have hi' : ∀ i, i < len0 → ∃ cs, w.cells? 0 (a.add (i * k)) k = some cs ∧ DataW.trod enc P w 0 spare held n e cs = some (D i, Pl i) := by
      intro i h
      have := hi i (by omega)
      rwa [hk] at this
    let f : Nat → List Value := fun i => (w.cells? 0 (a.add (i * k)) k).getD []
    have hf1 : ∀ i, i < len0 → (f i).length = k := by
      intro i h
      obtain ⟨cs, h1, _⟩ := hi' i h
      obtain ⟨_, h2, _⟩ := World.cells?_some h1
      show ((w.cells? 0 (a.add (i * k)) k).getD []).length = k
      rw [h1]; exact h2
    have hf2 : ∀ i, i < len0 → ∀ r, r < k → w.cell? ((a.add (i * k)).add r) = (f i)[r]? := by
      intro i h r hr
      obtain ⟨cs, h1, _⟩ := hi' i h
      obtain ⟨_, _, h3⟩ := World.cells?_some h1
      show _ = ((w.cells? 0 (a.add (i * k)) k).getD [])[r]?
      rw [h1]; exact h3 r hr
    refine ⟨a.block, cap0, len0, some a, (List.range len0).flatMap f, hcs, hl, hm, flat_length f k len0 hf1, ?_, ?_⟩
    · by_cases h0 : len0 = 0
      · subst h0; exact .inl (by simp)
      · have c0 := hf2 0 (by omega) 0 hk0
        have hfl := hf1 0 (by omega)
        rw [List.getElem?_eq_getElem (by omega)] at c0
        have c0' : w.cell? (a.add 0) = some ((f 0)[0]'(by omega)) := by
          rw [← c0]; simp [Addr.add]
        obtain ⟨b, off, ha, _⟩ := add_spot c0' ⟨_, c0'⟩
        subst ha
        refine .inr ⟨off, rfl, World.block_lt_of_cell? _ _ (by simpa [Addr.add] using c0'), fun j u hu => ?_⟩
        have hj : j < len0 * k := by
          have := (List.getElem?_eq_some_iff.1 hu).1
          rwa [flat_length f k len0 hf1] at this
        have hq : j / k < len0 := Nat.div_lt_of_lt_mul (by rwa [Nat.mul_comm] at hj)
        have hr : j % k < k := Nat.mod_lt _ hk0
        have hjk : j / k * k + j % k = j := Nat.div_add_mod' j k
        have h1 := flat_get f k len0 hf1 (j / k) (j % k) hq hr
        rw [hjk, hu] at h1
        have h2 := hf2 (j / k) hq (j % k) hr
        rw [← h1] at h2
        rw [← h2, Go.Deep.add_add, hjk]
        unfold Addr.add
        split
        · subst j; rfl
        · rfl
    · intro i h
      obtain ⟨cs, h1, h2⟩ := hi' i h
      have he : (((List.range len0).flatMap f).drop (i * k)).take k = cs := by
        have hfi : f i = cs := by show (w.cells? 0 (a.add (i * k)) k).getD [] = cs; rw [h1]; rfl
        apply List.ext_getElem?
        intro r
        by_cases hr : r < k
        · rw [List.getElem?_take, if_pos hr, List.getElem?_drop, flat_get f k len0 hf1 i r h hr, hfi]
        · rw [List.getElem?_take, if_neg hr]
          have := hf1 i h
          rw [hfi] at this
          rw [List.getElem?_eq_none (by omega)]
      exact ⟨n, (D i, Pl i), by rw [he]; exact h2⟩

/-- Who is ready (where it lies: A, c, in block gr), and who is asked for. -/
structure Opn where
  A : Option Addr
  c : Nat
  rd : List Bool
  want : Int
def Opn.cells (o : Opn) : List Value := [.slice o.A o.rd.length o.c, .int .i64 o.want]
def ov (l : List Opn) : List Value := l.flatMap Opn.cells
structure Opn.Ok (w : World) (o : Opn) : Prop where
  rd : ∃ gr, Rd w gr o.A (bl o.rd) ∧ (o.rd ≠ [] → gr < w.heap.size)
  len : o.rd.length ≤ 9223372036854775807
  want : (Lit.int .i64 o.want).wf = true

theorem bools_of {H : Type} {enc : TypeId × Value → H} {w : World} {spare : Nat → Bool} {held : Bool} (n : Nat) (vs : List Value) (hl : vs.length = n * 1)
    (h : ∀ i, i < n → ∃ (fuel : Nat) (x : DataW H × List MemPlace), DataW.trod enc Try.prog w 0 spare held fuel 4 ((vs.drop (i * 1)).take 1) = some x) : ∃ l : List Bool, l.length = n ∧ vs = bl l := by
  obtain ⟨l, h1, h2, _⟩ := chunks (fun b : Bool => [Value.bool b]) 1 (fun _ => rfl) (fun _ => True) n vs hl (fun i hi => by
    obtain ⟨fuel, x, ht⟩ := h i hi
    obtain ⟨b, hb, _⟩ := DataW.trod_bool Try.underlying4 ht
    exact ⟨b, trivial, hb⟩)
  exact ⟨l, h1, by rw [h2]; exact List.map_eq_flatMap.symm⟩

theorem open_ops {H : Type} {enc : TypeId × Value → H} {w : World} {spare : Nat → Bool} {held : Bool} {v : Value} {d : DataW H} {p : List MemPlace} {r : Reach} {b0 : Nat}
    (hv : Value.okWide Try.prog w r b0 32 v) (h : DataW.Trod enc Try.prog w 0 spare held 32 v d p) :
    ∃ (g c : Nat) (A : Option Addr) (l : List Opn), v = .slice A l.length c ∧ Rd w g A (ov l) ∧ ∀ o ∈ l, o.Ok w := by
  obtain ⟨g, c, n, A, vs, rfl, _, _, hl, hr, hi⟩ := open_slice_any (k := 2) Try.underlying32 (by kernel_rfl) (by omega) hv h
  obtain ⟨l, h1, h2, h3⟩ := chunks Opn.cells 2 (fun _ => rfl) (fun o => o.Ok w) n vs hl (fun i hin => by
    obtain ⟨fuel, x, ht⟩ := hi i hin
    generalize (vs.drop (i * 2)).take 2 = cs at ht
    obtain ⟨y0, y1, m, -, hcl, t0, t1⟩ := trod_struct2 Try.underlying35 ht
    have hcl' : cs.length = 2 := by rw [hcl]; kernel_rfl
    match cs, hcl' with
    | [u0, u1], _ =>
      have t0' : DataW.trod enc Try.prog w 0 spare held m 33 [u0] = some y0 := t0
      have t1' : DataW.trod enc Try.prog w 0 spare held m 3 [u1] = some y1 := t1
      obtain ⟨g', c', n', A', vs', hc', _, hm', hl', hr', hi'⟩ := cells_slice_any (k := 1) Try.underlying33 (by kernel_rfl) (by omega) t0'
      obtain ⟨bs, hb, rfl⟩ := bools_of n' vs' hl' hi'
      obtain ⟨z, hz, _, hw⟩ := DataW.trod_int Try.underlying3 t1'
      simp at hc' hz
      refine ⟨⟨A', c', bs, z⟩, ⟨⟨g', hr', ?_⟩, ?_, hw⟩, ?_⟩
      · intro hne
        obtain ⟨_, _, h, _⟩ := hr'.at (by simpa [bl] using hne)
        exact h
      · have : maxLen = 9223372036854775807 := rfl
        simp only; omega
      · simp [Opn.cells, hb, hc', hz])
  subst h1
  subst h2
  exact ⟨g, c, A, l, rfl, hr, h3⟩
end Go.Proofs.Ytcbgobgicknhiaa
