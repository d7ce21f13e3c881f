/- Ring: a slice of calls among a law's arguments, opened. -/
import Derived.Test.YtookghkfghdadaaS
import Derived.Test.YtookghkfghdadaaQ
import Derived.Test.YtookghkfghdadaaX
import Derived.Deep.Strs
namespace Go.Proofs.Ytookghkfghdadaa
open Go.ChangeShapes Go.WideShapes Go.ChangeAt Go.RowKit Go.Deep

/-- What a slice's cell leads to: so many elements of k cells, each with its own reading. -/
theorem cells_slice_any {H : Type} {enc : TypeId × Value → H} {P : Program} {w : World} {spare : Nat → Bool} {held : Bool} {t e : TypeId} {fuel : Nat} {cs : List Value} {x : DataW H × List MemPlace} {k : Nat}
    (ht : P.underlying t = some (.slice e)) (hk : P.cellsOf e = k) (hk0 : 0 < k) (hf : DataW.trod enc P w 0 spare held fuel t cs = some x) :
    ∃ (g c n : Nat) (A : Option Addr) (vs : List Value), cs = [.slice A n c] ∧ n ≤ c ∧ c ≤ maxLen ∧ vs.length = n * k ∧ Rd w g A vs ∧
      ∀ i, i < n → ∃ (fuel : Nat) (x : DataW H × List MemPlace), DataW.trod enc P w 0 spare held fuel e ((vs.drop (i * k)).take k) = some x := by
  rcases Go.Deep.open_slice ht hf with ⟨hcs, _⟩ | ⟨a, len0, cap0, m, n, D, Pl, hcs, hb, hl, hm, hmm, hx, hi⟩
  · exact ⟨0, 0, 0, none, [], hcs, Nat.le_refl _, by simp [maxLen], by simp, .inl rfl, fun i hi => by omega⟩
  · have hlm : len0 ≤ m := by rw [hmm]; split <;> omega
    have hi' : ∀ i, i < len0 → ∃ cs, w.cells? 0 (a.add (i * k)) k = some cs ∧ DataW.trod enc P w 0 spare held n e cs = some (D i, Pl i) := by
      intro i h
      have := hi i (by omega)
      rwa [hk] at this
    let f : Nat → List Value := fun i => (w.cells? 0 (a.add (i * k)) k).getD []
    have hf1 : ∀ i, i < len0 → (f i).length = k := by
      intro i h
      obtain ⟨cs, h1, _⟩ := hi' i h
      obtain ⟨_, h2, _⟩ := World.cells?_some h1
      show ((w.cells? 0 (a.add (i * k)) k).getD []).length = k
      rw [h1]; exact h2
    have hf2 : ∀ i, i < len0 → ∀ r, r < k → w.cell? ((a.add (i * k)).add r) = (f i)[r]? := by
      intro i h r hr
      obtain ⟨cs, h1, _⟩ := hi' i h
      obtain ⟨_, _, h3⟩ := World.cells?_some h1
      show _ = ((w.cells? 0 (a.add (i * k)) k).getD [])[r]?
      rw [h1]; exact h3 r hr
    refine ⟨a.block, cap0, len0, some a, (List.range len0).flatMap f, hcs, hl, hm, flat_length f k len0 hf1, ?_, ?_⟩
    · by_cases h0 : len0 = 0
      · subst h0; exact .inl (by simp)
      · have c0 := hf2 0 (by omega) 0 hk0
        have hfl := hf1 0 (by omega)
        rw [List.getElem?_eq_getElem (by omega)] at c0
        have c0' : w.cell? (a.add 0) = some ((f 0)[0]'(by omega)) := by
          rw [← c0]; simp [Addr.add]
        obtain ⟨b, off, ha, _⟩ := add_spot c0' ⟨_, c0'⟩
        subst ha
        refine .inr ⟨off, rfl, World.block_lt_of_cell? _ _ (by simpa [Addr.add] using c0'), fun j u hu => ?_⟩
        have hj : j < len0 * k := by
          have := (List.getElem?_eq_some_iff.1 hu).1
          rwa [flat_length f k len0 hf1] at this
        have hq : j / k < len0 := Nat.div_lt_of_lt_mul (by rwa [Nat.mul_comm] at hj)
        have hr : j % k < k := Nat.mod_lt _ hk0
        have hjk : j / k * k + j % k = j := Nat.div_add_mod' j k
        have h1 := flat_get f k len0 hf1 (j / k) (j % k) hq hr
        rw [hjk, hu] at h1
        have h2 := hf2 (j / k) hq (j % k) hr
        rw [← h1] at h2
        rw [← h2, Go.Deep.add_add, hjk]
        unfold Addr.add
        split
        · subst j; rfl
        · rfl
    · intro i h
      obtain ⟨cs, h1, h2⟩ := hi' i h
      have he : (((List.range len0).flatMap f).drop (i * k)).take k = cs := by
        have hfi : f i = cs := by show (w.cells? 0 (a.add (i * k)) k).getD [] = cs; rw [h1]; rfl
        apply List.ext_getElem?
        intro r
        by_cases hr : r < k
        · rw [List.getElem?_take, if_pos hr, List.getElem?_drop, flat_get f k len0 hf1 i r h hr, hfi]
        · rw [List.getElem?_take, if_neg hr]
          have := hf1 i h
          rw [hfi] at this
          rw [List.getElem?_eq_none (by omega)]
      exact ⟨n, (D i, Pl i), by rw [he]; exact h2⟩

theorem bytes_of {H : Type} {enc : TypeId × Value → H} {w : World} {spare : Nat → Bool} {held : Bool} (n : Nat) (vs : List Value) (hl : vs.length = n * 1)
    (h : ∀ i, i < n → ∃ (fuel : Nat) (x : DataW H × List MemPlace), DataW.trod enc Try.prog w 0 spare held fuel 5 ((vs.drop (i * 1)).take 1) = some x) : ∃ l : List Int, l.length = n ∧ vs = bv l := by
  obtain ⟨l, h1, h2, _⟩ := chunks (fun b : Int => [Value.int .u8 b]) 1 (fun _ => rfl) (fun _ => True) n vs hl (fun i hi => by
    obtain ⟨fuel, x, ht⟩ := h i hi
    obtain ⟨b, hb, _⟩ := DataW.trod_int Try.underlying5 ht
    exact ⟨b, trivial, hb⟩)
  exact ⟨l, h1, by rw [h2]; exact List.map_eq_flatMap.symm⟩

/-- A call: what is done, a number, whether it counts from the head; the slot; where its bytes lie. -/
structure Opr where
  d : Int
  n : Int
  la : Bool
  x : Sl
  A : Option Addr
  cap : Nat
def Opr.cells (o : Opr) : List Value := [.int .i64 o.d, .int .i64 o.n, .bool o.la, .int .i64 o.x.k, .int .i64 o.x.l, .int .i64 o.x.s, .slice o.A o.x.data.length o.cap, .int .i64 o.x.f]
def ocs (l : List Opr) : List Value := l.flatMap Opr.cells
structure Opr.Ok (w : World) (o : Opr) : Prop where
  rd : ∃ gr, Rd w gr o.A (bv o.x.data)
  len : o.x.data.length ≤ 9223372036854775807

theorem trod_slot {H : Type} {enc : TypeId × Value → H} {w : World} {spare : Nat → Bool} {held : Bool} {fuel : Nat} {cs : List Value} {x : DataW H × List MemPlace} (h : DataW.trod enc Try.prog w 0 spare held fuel 37 cs = some x) :
    ∃ (j : Sl) (A : Option Addr) (cap : Nat), cs = [.int .i64 j.k, .int .i64 j.l, .int .i64 j.s, .slice A j.data.length cap, .int .i64 j.f] ∧ (∃ gr, Rd w gr A (bv j.data)) ∧ j.data.length ≤ 9223372036854775807 := by
  obtain ⟨xs, n, _, _, hl, hlen, hg⟩ := DataW.trod_struct Try.underlying37 h
  have hl' : cs.length = 5 := by rw [hl]; kernel_rfl
  have hx : xs.length = 5 := by rw [hlen]; rfl
  match cs, hl', xs, hx with
  | [u0, u1, u2, u3, u4], _, [y0, y1, y2, y3, y4], _ =>
    have t0 : DataW.trod enc Try.prog w 0 spare held n 3 [u0] = some y0 := hg 0 _ rfl
    have t1 : DataW.trod enc Try.prog w 0 spare held n 3 [u1] = some y1 := hg 1 _ rfl
    have t2 : DataW.trod enc Try.prog w 0 spare held n 3 [u2] = some y2 := hg 2 _ rfl
    have t3 : DataW.trod enc Try.prog w 0 spare held n 35 [u3] = some y3 := hg 3 _ rfl
    have t4 : DataW.trod enc Try.prog w 0 spare held n 3 [u4] = some y4 := hg 4 _ rfl
    obtain ⟨z0, h0, _⟩ := DataW.trod_int Try.underlying3 t0
    obtain ⟨z1, h1, _⟩ := DataW.trod_int Try.underlying3 t1
    obtain ⟨z2, h2, _⟩ := DataW.trod_int Try.underlying3 t2
    obtain ⟨z4, h4, _⟩ := DataW.trod_int Try.underlying3 t4
    obtain ⟨g', c', n', A', vs', hc', hn', hm', hl', hr', hi'⟩ := cells_slice_any (k := 1) Try.underlying35 (by kernel_rfl) (by omega) t3
    obtain ⟨l, hl2, rfl⟩ := bytes_of n' vs' hl' hi'
    simp at h0 h1 h2 h4 hc'
    have : maxLen = 9223372036854775807 := rfl
    exact ⟨⟨z0, z1, z2, z4, l⟩, A', c', by simp [h0, h1, h2, h4, hc', hl2], ⟨g', hr'⟩, by simp only; omega⟩

theorem open_ops {H : Type} {enc : TypeId × Value → H} {w : World} {spare : Nat → Bool} {held : Bool} {v : Value} {d : DataW H} {p : List MemPlace} {r : Reach} {b0 : Nat}
    (hv : Value.okWide Try.prog w r b0 44 v) (h : DataW.Trod enc Try.prog w 0 spare held 44 v d p) :
    ∃ (g c : Nat) (A : Option Addr) (l : List Opr), v = .slice A l.length c ∧ Rd w g A (ocs l) ∧ (∀ o ∈ l, o.Ok w) ∧ l.length ≤ 9223372036854775807 := by
  obtain ⟨g, c, n, A, vs, rfl, hn, hm, hl, hr, hi⟩ := open_slice_any (k := 8) Try.underlying44 (by kernel_rfl) (by omega) hv h
  obtain ⟨l, h1, h2, h3⟩ := chunks Opr.cells 8 (fun _ => rfl) (fun o => o.Ok w) n vs hl (fun i hin => by
    obtain ⟨fuel, x, ht⟩ := hi i hin
    generalize (vs.drop (i * 8)).take 8 = cs at ht
    obtain ⟨xs, m, _, _, hcl, hlen, hg⟩ := DataW.trod_struct Try.underlying47 ht
    have hcl' : cs.length = 8 := by rw [hcl]; kernel_rfl
    have hx : xs.length = 4 := by rw [hlen]; rfl
    match cs, hcl', xs, hx with
    | [u0, u1, u2, u3, u4, u5, u6, u7], _, [y0, y1, y2, y3], _ =>
      have t0' : DataW.trod enc Try.prog w 0 spare held m 3 [u0] = some y0 := hg 0 _ rfl
      have t1' : DataW.trod enc Try.prog w 0 spare held m 3 [u1] = some y1 := hg 1 _ rfl
      have t2' : DataW.trod enc Try.prog w 0 spare held m 4 [u2] = some y2 := hg 2 _ rfl
      have t3' : DataW.trod enc Try.prog w 0 spare held m 37 [u3, u4, u5, u6, u7] = some y3 := hg 3 _ rfl
      obtain ⟨z0, hz0, _⟩ := DataW.trod_int Try.underlying3 t0'
      obtain ⟨z1, hz1, _⟩ := DataW.trod_int Try.underlying3 t1'
      obtain ⟨z2, hz2, _⟩ := DataW.trod_bool Try.underlying4 t2'
      obtain ⟨j, A', cap, hj, hr', hlen⟩ := trod_slot t3'
      simp at hz0 hz1 hz2 hj
      refine ⟨⟨z0, z1, z2, j, A', cap⟩, ⟨hr', hlen⟩, ?_⟩
      simp [Opr.cells, hz0, hz1, hz2, hj])
  subst h1
  subst h2
  have : maxLen = 9223372036854775807 := rfl
  exact ⟨g, c, A, l, rfl, hr, h3, by omega⟩

theorem ocs_len (l : List Opr) : (ocs l).length = l.length * 8 := by
  induction l with
  | nil => rfl
  | cons x t ih => simp only [ocs, List.flatMap_cons, List.length_append, List.length_cons] at *; rw [ih]; simp [Opr.cells]; omega
theorem ocs_get (l : List Opr) (i j : Nat) (hi : i < l.length) (hj : j < 8) : (ocs l)[i * 8 + j]? = (l[i]).cells[j]? := by
  induction l generalizing i with
  | nil => simp at hi
  | cons x t ih =>
    have hc : x.cells.length = 8 := rfl
    cases i with
    | zero =>
      simp only [ocs, List.flatMap_cons, Nat.zero_mul, Nat.zero_add, List.getElem_cons_zero]
      rw [List.getElem?_append_left (by omega)]
    | succ i =>
      simp only [ocs, List.flatMap_cons, List.getElem_cons_succ]
      rw [List.getElem?_append_right (by omega)]
      have := ih i (by simpa using hi)
      rw [← this]
      congr 1
      omega
/-- The eight cells of a call at (g, o). -/
structure OpAt (w : World) (g o : Nat) (x : Opr) : Prop where
  c0 : w.cell? ⟨g, o, none⟩ = some (.int .i64 x.d)
  c1 : w.cell? ⟨g, o + 1, none⟩ = some (.int .i64 x.n)
  c2 : w.cell? ⟨g, o + 2, none⟩ = some (.bool x.la)
  c3 : w.cell? ⟨g, o + 3, none⟩ = some (.int .i64 x.x.k)
  c4 : w.cell? ⟨g, o + 4, none⟩ = some (.int .i64 x.x.l)
  c5 : w.cell? ⟨g, o + 5, none⟩ = some (.int .i64 x.x.s)
  c6 : w.cell? ⟨g, o + 6, none⟩ = some (.slice x.A x.x.data.length x.cap)
  c7 : w.cell? ⟨g, o + 7, none⟩ = some (.int .i64 x.x.f)
theorem op_cells {w wr : World} {gA : Nat} {A : Option Addr} {l : List Opr} {k : Nat} (h : Rd w gA A (ocs l)) (hO : Only (fun _ => False) w wr) (hk : k < l.length) :
    ∃ off, A = some ⟨gA, off, none⟩ ∧ gA < w.heap.size ∧ OpAt wr gA (off + k * 8) l[k] := by
  obtain ⟨off, hA, hlt, hc⟩ := h.at (by intro e; have := ocs_len l; rw [e] at this; simp at this; omega)
  have hh : ∀ j, j < 8 → ∀ u, (l[k]).cells[j]? = some u → wr.cell? ⟨gA, off + k * 8 + j, none⟩ = some u := by
    intro j hj u hu
    have := hc (k * 8 + j) u (by rw [ocs_get l k j hk hj]; exact hu)
    rw [← Nat.add_assoc] at this
    exact (hO.cell (p := ⟨gA, off + k * 8 + j, none⟩) hlt id).trans this
  exact ⟨off, hA, hlt, hh 0 (by omega) _ rfl, hh 1 (by omega) _ rfl, hh 2 (by omega) _ rfl, hh 3 (by omega) _ rfl, hh 4 (by omega) _ rfl, hh 5 (by omega) _ rfl, hh 6 (by omega) _ rfl, hh 7 (by omega) _ rfl⟩
end Go.Proofs.Ytookghkfghdadaa
