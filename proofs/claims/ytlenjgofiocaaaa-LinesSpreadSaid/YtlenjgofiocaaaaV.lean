/- Lines: the laws' arguments, opened. -/
import Derived.Test.YtlenjgofiocaaaaS
import Derived.Test.YtlenjgofiocaaaaL
import Derived.Deep.Strs
namespace Go.Proofs.Ytlenjgofiocaaaa
open Go.ChangeShapes Go.WideShapes Go.ChangeAt Go.RowKit Go.Deep

/-- What a slice's cell leads to: so many elements of k cells, each with its own reading. -/
theorem cells_slice_any {H : Type} {enc : TypeId × Value → H} {P : Program} {w : World} {spare : Nat → Bool} {held : Bool} {t e : TypeId} {fuel : Nat} {cs : List Value} {x : DataW H × List MemPlace} {k : Nat}
    (ht : P.underlying t = some (.slice e)) (hk : P.cellsOf e = k) (hk0 : 0 < k) (hf : DataW.trod enc P w 0 spare held fuel t cs = some x) :
    ∃ (g c n : Nat) (A : Option Addr) (vs : List Value), cs = [.slice A n c] ∧ n ≤ c ∧ c ≤ maxLen ∧ vs.length = n * k ∧ Rd w g A vs ∧
      ∀ i, i < n → ∃ (fuel : Nat) (x : DataW H × List MemPlace), DataW.trod enc P w 0 spare held fuel e ((vs.drop (i * k)).take k) = some x := by
  rcases Go.Deep.open_slice ht hf with ⟨hcs, _⟩ | ⟨a, len0, cap0, m, n, D, Pl, hcs, hb, hl, hm, hmm, hx, hi⟩
  · exact ⟨0, 0, 0, none, [], hcs, Nat.le_refl _, by simp [maxLen], by simp, .inl rfl, fun i hi => by omega⟩
  · have hlm : len0 ≤ m := by rw [hmm]; split <;> omega
    have hi' : ∀ i, i < len0 → ∃ cs, w.cells? 0 (a.add (i * k)) k = some cs ∧ DataW.trod enc P w 0 spare held n e cs = some (D i, Pl i) := by
      intro i h
      have := hi i (by omega)
      rwa [hk] at this
    let f : Nat → List Value := fun i => (w.cells? 0 (a.add (i * k)) k).getD []
    have hf1 : ∀ i, i < len0 → (f i).length = k := by
      intro i h
      obtain ⟨cs, h1, _⟩ := hi' i h
      obtain ⟨_, h2, _⟩ := World.cells?_some h1
      show ((w.cells? 0 (a.add (i * k)) k).getD []).length = k
      rw [h1]; exact h2
    have hf2 : ∀ i, i < len0 → ∀ r, r < k → w.cell? ((a.add (i * k)).add r) = (f i)[r]? := by
      intro i h r hr
      obtain ⟨cs, h1, _⟩ := hi' i h
      obtain ⟨_, _, h3⟩ := World.cells?_some h1
      show _ = ((w.cells? 0 (a.add (i * k)) k).getD [])[r]?
      rw [h1]; exact h3 r hr
    refine ⟨a.block, cap0, len0, some a, (List.range len0).flatMap f, hcs, hl, hm, flat_length f k len0 hf1, ?_, ?_⟩
    · by_cases h0 : len0 = 0
      · subst h0; exact .inl (by simp)
      · have c0 := hf2 0 (by omega) 0 hk0
        have hfl := hf1 0 (by omega)
        rw [List.getElem?_eq_getElem (by omega)] at c0
        have c0' : w.cell? (a.add 0) = some ((f 0)[0]'(by omega)) := by
          rw [← c0]; simp [Addr.add]
        obtain ⟨b, off, ha, _⟩ := add_spot c0' ⟨_, c0'⟩
        subst ha
        refine .inr ⟨off, rfl, World.block_lt_of_cell? _ _ (by simpa [Addr.add] using c0'), fun j u hu => ?_⟩
        have hj : j < len0 * k := by
          have := (List.getElem?_eq_some_iff.1 hu).1
          rwa [flat_length f k len0 hf1] at this
        have hq : j / k < len0 := Nat.div_lt_of_lt_mul (by rwa [Nat.mul_comm] at hj)
        have hr : j % k < k := Nat.mod_lt _ hk0
        have hjk : j / k * k + j % k = j := Nat.div_add_mod' j k
        have h1 := flat_get f k len0 hf1 (j / k) (j % k) hq hr
        rw [hjk, hu] at h1
        have h2 := hf2 (j / k) hq (j % k) hr
        rw [← h1] at h2
        rw [← h2, Go.Deep.add_add, hjk]
        unfold Addr.add
        split
        · subst j; rfl
        · rfl
    · intro i h
      obtain ⟨cs, h1, h2⟩ := hi' i h
      have he : (((List.range len0).flatMap f).drop (i * k)).take k = cs := by
        have hfi : f i = cs := by show (w.cells? 0 (a.add (i * k)) k).getD [] = cs; rw [h1]; rfl
        apply List.ext_getElem?
        intro r
        by_cases hr : r < k
        · rw [List.getElem?_take, if_pos hr, List.getElem?_drop, flat_get f k len0 hf1 i r h hr, hfi]
        · rw [List.getElem?_take, if_neg hr]
          have := hf1 i h
          rw [hfi] at this
          rw [List.getElem?_eq_none (by omega)]
      exact ⟨n, (D i, Pl i), by rw [he]; exact h2⟩


theorem ints_of {H : Type} {enc : TypeId × Value → H} {w : World} {spare : Nat → Bool} {held : Bool} (n : Nat) (vs : List Value) (hl : vs.length = n * 1)
    (h : ∀ i, i < n → ∃ (fuel : Nat) (x : DataW H × List MemPlace), DataW.trod enc Try.prog w 0 spare held fuel 3 ((vs.drop (i * 1)).take 1) = some x) : ∃ l : List Int, l.length = n ∧ vs = iv l := by
  obtain ⟨l, h1, h2, _⟩ := chunks (fun b : Int => [Value.int .i64 b]) 1 (fun _ => rfl) (fun _ => True) n vs hl (fun i hi => by
    obtain ⟨fuel, x, ht⟩ := h i hi
    obtain ⟨b, hb, _⟩ := DataW.trod_int Try.underlying3 ht
    exact ⟨b, trivial, hb⟩)
  exact ⟨l, h1, by rw [h2]; exact List.map_eq_flatMap.symm⟩

theorem wf_bd {z : Int} (h : (Lit.int .i64 z).wf = true) : -9223372036854775808 ≤ z ∧ z ≤ 9223372036854775807 := by
  have h1 : IntKind.i64.min ≤ z ∧ z ≤ IntKind.i64.max := by simpa [Lit.wf] using h
  have e1 : IntKind.i64.min = -9223372036854775808 := by decide
  have e2 : IntKind.i64.max = 9223372036854775807 := by decide
  rw [e1, e2] at h1
  exact h1

theorem open_geom {H : Type} {enc : TypeId × Value → H} {w : World} {spare : Nat → Bool} {held : Bool} {v : Value} {d : DataW H} {p : List MemPlace} {r : Reach} {b0 : Nat}
    (hv : Value.okWide Try.prog w r b0 23 v) (h : DataW.Trod enc Try.prog w 0 spare held 23 v d p) : ∃ G : Ge, v = G.val ∧ G.Wf := by
  obtain ⟨cs, rfl, hsz⟩ := okWide_struct Try.underlying23 hv
  obtain ⟨fuel, hf⟩ := h
  obtain ⟨xs, n, _, _, hl, hlen, hg⟩ := DataW.trod_struct Try.underlying23 hf
  obtain ⟨cs⟩ := cs
  have hl' : cs.length = 5 := by rw [← List.size_toArray, hsz]; kernel_rfl
  have hx : xs.length = 5 := by rw [hlen]; rfl
  match cs, hl', xs, hx with
  | [u0, u1, u2, u3, u4], _, [y0, y1, y2, y3, y4], _ =>
    have t0 : DataW.trod enc Try.prog w 0 spare held n 3 [u0] = some y0 := hg 0 _ rfl
    have t1 : DataW.trod enc Try.prog w 0 spare held n 3 [u1] = some y1 := hg 1 _ rfl
    have t2 : DataW.trod enc Try.prog w 0 spare held n 3 [u2] = some y2 := hg 2 _ rfl
    have t3 : DataW.trod enc Try.prog w 0 spare held n 3 [u3] = some y3 := hg 3 _ rfl
    have t4 : DataW.trod enc Try.prog w 0 spare held n 3 [u4] = some y4 := hg 4 _ rfl
    obtain ⟨z0, h0, _, k0⟩ := DataW.trod_int Try.underlying3 t0
    obtain ⟨z1, h1, _, k1⟩ := DataW.trod_int Try.underlying3 t1
    obtain ⟨z2, h2, _, k2⟩ := DataW.trod_int Try.underlying3 t2
    obtain ⟨z3, h3, _, k3⟩ := DataW.trod_int Try.underlying3 t3
    obtain ⟨z4, h4, _, k4⟩ := DataW.trod_int Try.underlying3 t4
    simp at h0 h1 h2 h3 h4
    refine ⟨⟨z0, z1, z2, z3, z4⟩, by simp [Ge.val, h0, h1, h2, h3, h4], wf_bd k0, wf_bd k1, wf_bd k2, wf_bd k3, wf_bd k4⟩

theorem open_setting {H : Type} {enc : TypeId × Value → H} {w : World} {spare : Nat → Bool} {held : Bool} {v : Value} {d : DataW H} {p : List MemPlace} {r : Reach} {b0 : Nat}
    (hv : Value.okWide Try.prog w r b0 36 v) (h : DataW.Trod enc Try.prog w 0 spare held 36 v d p) :
    ∃ (good wear : List Int) (Ag Aw : Option Addr) (cg cw gg gw : Nat), v = .agg #[.slice Ag good.length cg, .slice Aw wear.length cw] ∧ Rd w gg Ag (iv good) ∧ Rd w gw Aw (iv wear) := by
  obtain ⟨cs, rfl, hsz⟩ := okWide_struct Try.underlying36 hv
  obtain ⟨fuel, hf⟩ := h
  obtain ⟨xs, n, _, _, hl, hlen, hg⟩ := DataW.trod_struct Try.underlying36 hf
  obtain ⟨cs⟩ := cs
  have hl' : cs.length = 2 := by rw [← List.size_toArray, hsz]; kernel_rfl
  have hx : xs.length = 2 := by rw [hlen]; rfl
  match cs, hl', xs, hx with
  | [u0, u1], _, [y0, y1], _ =>
    have t0 : DataW.trod enc Try.prog w 0 spare held n 24 [u0] = some y0 := hg 0 _ rfl
    have t1 : DataW.trod enc Try.prog w 0 spare held n 24 [u1] = some y1 := hg 1 _ rfl
    obtain ⟨gg, cg, n0, Ag, vs0, hc0, _, _, hl0, hr0, hi0⟩ := cells_slice_any (k := 1) Try.underlying24 (by kernel_rfl) (by omega) t0
    obtain ⟨gw, cw, n1, Aw, vs1, hc1, _, _, hl1, hr1, hi1⟩ := cells_slice_any (k := 1) Try.underlying24 (by kernel_rfl) (by omega) t1
    obtain ⟨good, e0, rfl⟩ := ints_of n0 vs0 hl0 hi0
    obtain ⟨wear, e1, rfl⟩ := ints_of n1 vs1 hl1 hi1
    simp at hc0 hc1
    exact ⟨good, wear, Ag, Aw, cg, cw, gg, gw, by rw [hc0, hc1, e0, e1], hr0, hr1⟩

/-- A call. -/
structure Opr where
  d : Int
  n : Int
  own : Bool
def Opr.cells (o : Opr) : List Value := [.int .i64 o.d, .int .i64 o.n, .bool o.own]
def ocs (l : List Opr) : List Value := l.flatMap Opr.cells
theorem open_ops {H : Type} {enc : TypeId × Value → H} {w : World} {spare : Nat → Bool} {held : Bool} {v : Value} {d : DataW H} {p : List MemPlace} {r : Reach} {b0 : Nat}
    (hv : Value.okWide Try.prog w r b0 37 v) (h : DataW.Trod enc Try.prog w 0 spare held 37 v d p) :
    ∃ (g c : Nat) (A : Option Addr) (l : List Opr), v = .slice A l.length c ∧ Rd w g A (ocs l) ∧ l.length ≤ 9223372036854775807 := by
  obtain ⟨g, c, n, A, vs, rfl, hn, hm, hl, hr, hi⟩ := open_slice_any (k := 3) Try.underlying37 (by kernel_rfl) (by omega) hv h
  obtain ⟨l, h1, h2, _⟩ := chunks Opr.cells 3 (fun _ => rfl) (fun _ => True) n vs hl (fun i hin => by
    obtain ⟨fuel, x, ht⟩ := hi i hin
    generalize (vs.drop (i * 3)).take 3 = cs at ht
    obtain ⟨xs, m, _, _, hcl, hlen, hg⟩ := DataW.trod_struct Try.underlying39 ht
    have hcl' : cs.length = 3 := by rw [hcl]; kernel_rfl
    have hx : xs.length = 3 := by rw [hlen]; rfl
    match cs, hcl', xs, hx with
    | [u0, u1, u2], _, [y0, y1, y2], _ =>
      have t0' : DataW.trod enc Try.prog w 0 spare held m 3 [u0] = some y0 := hg 0 _ rfl
      have t1' : DataW.trod enc Try.prog w 0 spare held m 3 [u1] = some y1 := hg 1 _ rfl
      have t2' : DataW.trod enc Try.prog w 0 spare held m 4 [u2] = some y2 := hg 2 _ rfl
      obtain ⟨z0, hz0, _⟩ := DataW.trod_int Try.underlying3 t0'
      obtain ⟨z1, hz1, _⟩ := DataW.trod_int Try.underlying3 t1'
      obtain ⟨z2, hz2, _⟩ := DataW.trod_bool Try.underlying4 t2'
      simp at hz0 hz1 hz2
      refine ⟨⟨z0, z1, z2⟩, trivial, ?_⟩
      simp [Opr.cells, hz0, hz1, hz2])
  subst h1
  subst h2
  have : maxLen = 9223372036854775807 := rfl
  exact ⟨g, c, A, l, rfl, hr, by omega⟩
end Go.Proofs.Ytlenjgofiocaaaa
