/- Queue: a slice of calls among a law's arguments, opened. -/
import Derived.Test.YtgaikacjophngaaS
import Derived.Test.YtgaikacjophngaaY
import Derived.Deep.Strs
namespace Go.Proofs.Ytgaikacjophngaa
open Go.ChangeShapes Go.WideShapes Go.ChangeAt Go.RowKit Go.Deep

/-- What a slice's cell leads to: so many elements of k cells, each with its own reading. -/
theorem cells_slice_any {H : Type} {enc : TypeId × Value → H} {P : Program} {w : World} {spare : Nat → Bool} {held : Bool} {t e : TypeId} {fuel : Nat} {cs : List Value} {x : DataW H × List MemPlace} {k : Nat}
    (ht : P.underlying t = some (.slice e)) (hk : P.cellsOf e = k) (hk0 : 0 < k) (hf : DataW.trod enc P w 0 spare held fuel t cs = some x) :
    ∃ (g c n : Nat) (A : Option Addr) (vs : List Value), cs = [.slice A n c] ∧ n ≤ c ∧ c ≤ maxLen ∧ vs.length = n * k ∧ Rd w g A vs ∧
      ∀ i, i < n → ∃ (fuel : Nat) (x : DataW H × List MemPlace), DataW.trod enc P w 0 spare held fuel e ((vs.drop (i * k)).take k) = some x := by
  rcases Go.Deep.open_slice ht hf with ⟨hcs, _⟩ | ⟨a, len0, cap0, m, n, D, Pl, hcs, hb, hl, hm, hmm, hx, hi⟩
  · exact ⟨0, 0, 0, none, [], hcs, Nat.le_refl _, by simp [maxLen], by simp, .inl rfl, fun i hi => by omega⟩
  · have hlm : len0 ≤ m := by rw [hmm]; split <;> omega
    have hi' : ∀ i, i < len0 → ∃ cs, w.cells? 0 (a.add (i * k)) k = some cs ∧ DataW.trod enc P w 0 spare held n e cs = some (D i, Pl i) := by
      intro i h
      have := hi i (by omega)
      rwa [hk] at this
    let f : Nat → List Value := fun i => (w.cells? 0 (a.add (i * k)) k).getD []
    have hf1 : ∀ i, i < len0 → (f i).length = k := by
      intro i h
      obtain ⟨cs, h1, _⟩ := hi' i h
      obtain ⟨_, h2, _⟩ := World.cells?_some h1
      show ((w.cells? 0 (a.add (i * k)) k).getD []).length = k
      rw [h1]; exact h2
    have hf2 : ∀ i, i < len0 → ∀ r, r < k → w.cell? ((a.add (i * k)).add r) = (f i)[r]? := by
      intro i h r hr
      obtain ⟨cs, h1, _⟩ := hi' i h
      obtain ⟨_, _, h3⟩ := World.cells?_some h1
      show _ = ((w.cells? 0 (a.add (i * k)) k).getD [])[r]?
      rw [h1]; exact h3 r hr
    refine ⟨a.block, cap0, len0, some a, (List.range len0).flatMap f, hcs, hl, hm, flat_length f k len0 hf1, ?_, ?_⟩
    · by_cases h0 : len0 = 0
      · subst h0; exact .inl (by simp)
      · have c0 := hf2 0 (by omega) 0 hk0
        have hfl := hf1 0 (by omega)
        rw [List.getElem?_eq_getElem (by omega)] at c0
        have c0' : w.cell? (a.add 0) = some ((f 0)[0]'(by omega)) := by
          rw [← c0]; simp [Addr.add]
        obtain ⟨b, off, ha, _⟩ := add_spot c0' ⟨_, c0'⟩
        subst ha
        refine .inr ⟨off, rfl, World.block_lt_of_cell? _ _ (by simpa [Addr.add] using c0'), fun j u hu => ?_⟩
        have hj : j < len0 * k := by
          have := (List.getElem?_eq_some_iff.1 hu).1
          rwa [flat_length f k len0 hf1] at this
        have hq : j / k < len0 := Nat.div_lt_of_lt_mul (by rwa [Nat.mul_comm] at hj)
        have hr : j % k < k := Nat.mod_lt _ hk0
        have hjk : j / k * k + j % k = j := Nat.div_add_mod' j k
        have h1 := flat_get f k len0 hf1 (j / k) (j % k) hq hr
        rw [hjk, hu] at h1
        have h2 := hf2 (j / k) hq (j % k) hr
        rw [← h1] at h2
        rw [← h2, Go.Deep.add_add, hjk]
        unfold Addr.add
        split
        · subst j; rfl
        · rfl
    · intro i h
      obtain ⟨cs, h1, h2⟩ := hi' i h
      have he : (((List.range len0).flatMap f).drop (i * k)).take k = cs := by
        have hfi : f i = cs := by show (w.cells? 0 (a.add (i * k)) k).getD [] = cs; rw [h1]; rfl
        apply List.ext_getElem?
        intro r
        by_cases hr : r < k
        · rw [List.getElem?_take, if_pos hr, List.getElem?_drop, flat_get f k len0 hf1 i r h hr, hfi]
        · rw [List.getElem?_take, if_neg hr]
          have := hf1 i h
          rw [hfi] at this
          rw [List.getElem?_eq_none (by omega)]
      exact ⟨n, (D i, Pl i), by rw [he]; exact h2⟩

theorem ints_of {H : Type} {enc : TypeId × Value → H} {w : World} {spare : Nat → Bool} {held : Bool} (n : Nat) (vs : List Value) (hl : vs.length = n * 1)
    (h : ∀ i, i < n → ∃ (fuel : Nat) (x : DataW H × List MemPlace), DataW.trod enc Try.prog w 0 spare held fuel 3 ((vs.drop (i * 1)).take 1) = some x) : ∃ l : List Int, l.length = n ∧ vs = iv l := by
  obtain ⟨l, h1, h2, _⟩ := chunks (fun b : Int => [Value.int .i64 b]) 1 (fun _ => rfl) (fun _ => True) n vs hl (fun i hi => by
    obtain ⟨fuel, x, ht⟩ := h i hi
    obtain ⟨b, hb, _⟩ := DataW.trod_int Try.underlying3 ht
    exact ⟨b, trivial, hb⟩)
  exact ⟨l, h1, by rw [h2]; exact List.map_eq_flatMap.symm⟩

/-- A call: what is done, the channel, the job; where the job's places lie. -/
structure Opq where
  d : Int
  c : Int
  j : Jb
  A : Option Addr
  cap : Nat
def Opq.cells (o : Opq) : List Value := [.int .i64 o.d, .int .i64 o.c, .int .i64 o.j.k, .int .i64 o.j.l, .int .i64 o.j.u, .int .i64 o.j.p, .slice o.A o.j.pos.length o.cap]
def ov (l : List Opq) : List Value := l.flatMap Opq.cells
structure Opq.Ok (w : World) (o : Opq) : Prop where
  rd : ∃ gr, Rd w gr o.A (iv o.j.pos)
  len : o.j.pos.length ≤ 9223372036854775807

theorem trod_job {H : Type} {enc : TypeId × Value → H} {w : World} {spare : Nat → Bool} {held : Bool} {fuel : Nat} {cs : List Value} {x : DataW H × List MemPlace} (h : DataW.trod enc Try.prog w 0 spare held fuel 31 cs = some x) :
    ∃ (j : Jb) (A : Option Addr) (cap : Nat), cs = [.int .i64 j.k, .int .i64 j.l, .int .i64 j.u, .int .i64 j.p, .slice A j.pos.length cap] ∧ (∃ gr, Rd w gr A (iv j.pos)) ∧ j.pos.length ≤ 9223372036854775807 := by
  obtain ⟨xs, n, _, _, hl, hlen, hg⟩ := DataW.trod_struct Try.underlying31 h
  have hl' : cs.length = 5 := by rw [hl]; kernel_rfl
  have hx : xs.length = 5 := by rw [hlen]; rfl
  match cs, hl', xs, hx with
  | [u0, u1, u2, u3, u4], _, [y0, y1, y2, y3, y4], _ =>
    have t0 : DataW.trod enc Try.prog w 0 spare held n 3 [u0] = some y0 := hg 0 _ rfl
    have t1 : DataW.trod enc Try.prog w 0 spare held n 3 [u1] = some y1 := hg 1 _ rfl
    have t2 : DataW.trod enc Try.prog w 0 spare held n 3 [u2] = some y2 := hg 2 _ rfl
    have t3 : DataW.trod enc Try.prog w 0 spare held n 3 [u3] = some y3 := hg 3 _ rfl
    have t4 : DataW.trod enc Try.prog w 0 spare held n 22 [u4] = some y4 := hg 4 _ rfl
    obtain ⟨z0, h0, _⟩ := DataW.trod_int Try.underlying3 t0
    obtain ⟨z1, h1, _⟩ := DataW.trod_int Try.underlying3 t1
    obtain ⟨z2, h2, _⟩ := DataW.trod_int Try.underlying3 t2
    obtain ⟨z3, h3, _⟩ := DataW.trod_int Try.underlying3 t3
    obtain ⟨g', c', n', A', vs', hc', hn', hm', hl', hr', hi'⟩ := cells_slice_any (k := 1) Try.underlying22 (by kernel_rfl) (by omega) t4
    obtain ⟨l, hl2, rfl⟩ := ints_of n' vs' hl' hi'
    simp at h0 h1 h2 h3 hc'
    have : maxLen = 9223372036854775807 := rfl
    exact ⟨⟨z0, z1, z2, z3, l⟩, A', c', by simp [h0, h1, h2, h3, hc', hl2], ⟨g', hr'⟩, by simp only; omega⟩

theorem open_ops {H : Type} {enc : TypeId × Value → H} {w : World} {spare : Nat → Bool} {held : Bool} {v : Value} {d : DataW H} {p : List MemPlace} {r : Reach} {b0 : Nat}
    (hv : Value.okWide Try.prog w r b0 23 v) (h : DataW.Trod enc Try.prog w 0 spare held 23 v d p) :
    ∃ (g c : Nat) (A : Option Addr) (l : List Opq), v = .slice A l.length c ∧ Rd w g A (ov l) ∧ (∀ o ∈ l, o.Ok w) ∧ l.length ≤ 9223372036854775807 := by
  obtain ⟨g, c, n, A, vs, rfl, hn, hm, hl, hr, hi⟩ := open_slice_any (k := 7) Try.underlying23 (by kernel_rfl) (by omega) hv h
  obtain ⟨l, h1, h2, h3⟩ := chunks Opq.cells 7 (fun _ => rfl) (fun o => o.Ok w) n vs hl (fun i hin => by
    obtain ⟨fuel, x, ht⟩ := hi i hin
    generalize (vs.drop (i * 7)).take 7 = cs at ht
    obtain ⟨y0, y1, y2, m, -, hcl, t0, t1, t2⟩ := Go.Deep.trod_struct3 Try.underlying33 ht
    have hcl' : cs.length = 7 := by rw [hcl]; kernel_rfl
    match cs, hcl' with
    | [u0, u1, u2, u3, u4, u5, u6], _ =>
      have t0' : DataW.trod enc Try.prog w 0 spare held m 3 [u0] = some y0 := t0
      have t1' : DataW.trod enc Try.prog w 0 spare held m 3 [u1] = some y1 := t1
      have t2' : DataW.trod enc Try.prog w 0 spare held m 31 [u2, u3, u4, u5, u6] = some y2 := t2
      obtain ⟨z0, hz0, _⟩ := DataW.trod_int Try.underlying3 t0'
      obtain ⟨z1, hz1, _⟩ := DataW.trod_int Try.underlying3 t1'
      obtain ⟨j, A', cap, hj, hr', hlen⟩ := trod_job t2'
      simp at hz0 hz1 hj
      refine ⟨⟨z0, z1, j, A', cap⟩, ⟨hr', hlen⟩, ?_⟩
      simp [Opq.cells, hz0, hz1, hj])
  subst h1
  subst h2
  have : maxLen = 9223372036854775807 := rfl
  exact ⟨g, c, A, l, rfl, hr, h3, by omega⟩

theorem ov_len (l : List Opq) : (ov l).length = l.length * 7 := by
  induction l with
  | nil => rfl
  | cons x t ih => simp only [ov, List.flatMap_cons, List.length_append, List.length_cons] at *; rw [ih]; simp [Opq.cells]; omega
theorem ov_get (l : List Opq) (i j : Nat) (hi : i < l.length) (hj : j < 7) : (ov l)[i * 7 + j]? = (l[i]).cells[j]? := by
  induction l generalizing i with
  | nil => simp at hi
  | cons x t ih =>
    have hc : x.cells.length = 7 := rfl
    cases i with
    | zero =>
      simp only [ov, List.flatMap_cons, Nat.zero_mul, Nat.zero_add, List.getElem_cons_zero]
      rw [List.getElem?_append_left (by omega)]
    | succ i =>
      simp only [ov, List.flatMap_cons, List.getElem_cons_succ]
      rw [List.getElem?_append_right (by omega)]
      have := ih i (by simpa using hi)
      rw [← this]
      congr 1
      omega
/-- The seven cells of the call at place k. -/
theorem op_cells {w wr : World} {gA : Nat} {A : Option Addr} {l : List Opq} {k : Nat} (h : Rd w gA A (ov l)) (hO : Only (fun _ => False) w wr) (hk : k < l.length) :
    ∃ off, A = some ⟨gA, off, none⟩ ∧ gA < w.heap.size ∧ wr.cell? ⟨gA, off + k * 7, none⟩ = some (.int .i64 l[k].d) ∧ wr.cell? ⟨gA, off + k * 7 + 1, none⟩ = some (.int .i64 l[k].c) ∧
      wr.cell? ⟨gA, off + k * 7 + 2, none⟩ = some (.int .i64 l[k].j.k) ∧ wr.cell? ⟨gA, off + k * 7 + 3, none⟩ = some (.int .i64 l[k].j.l) ∧ wr.cell? ⟨gA, off + k * 7 + 4, none⟩ = some (.int .i64 l[k].j.u) ∧
      wr.cell? ⟨gA, off + k * 7 + 5, none⟩ = some (.int .i64 l[k].j.p) ∧ wr.cell? ⟨gA, off + k * 7 + 6, none⟩ = some (.slice l[k].A l[k].j.pos.length l[k].cap) := by
  obtain ⟨off, hA, hlt, hc⟩ := h.at (by intro e; have := ov_len l; rw [e] at this; simp at this; omega)
  have hh : ∀ j, j < 7 → ∀ u, (l[k]).cells[j]? = some u → wr.cell? ⟨gA, off + k * 7 + j, none⟩ = some u := by
    intro j hj u hu
    have := hc (k * 7 + j) u (by rw [ov_get l k j hk hj]; exact hu)
    rw [← Nat.add_assoc] at this
    exact (hO.cell (p := ⟨gA, off + k * 7 + j, none⟩) hlt id).trans this
  exact ⟨off, hA, hlt, hh 0 (by omega) _ rfl, hh 1 (by omega) _ rfl, hh 2 (by omega) _ rfl, hh 3 (by omega) _ rfl, hh 4 (by omega) _ rfl, hh 5 (by omega) _ rfl, hh 6 (by omega) _ rfl⟩
end Go.Proofs.Ytgaikacjophngaa
