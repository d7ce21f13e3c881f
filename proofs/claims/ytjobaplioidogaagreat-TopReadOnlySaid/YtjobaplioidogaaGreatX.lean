/- Top: where a sector is; how many are in a line. -/
import Derived.Test.YtjobaplioidogaaGreatW
import Derived.Laws.ResultCell
namespace Go.Proofs.YtjobaplioidogaaGreat
open Go.RowKit

theorem RowAt.out {w : World} {A : Option Addr} {n c g : Nat} {e : TypeId} {sz : Nat} {xs : List Value} (h : RowAt w A n c g e sz xs) (hn : 0 < n) :
    ∃ off cells, A = some ⟨g, off, none⟩ ∧ At w g e cells ∧ n ≤ c ∧ off + c * sz ≤ cells.size ∧ ∀ j u, xs[j]? = some u → cells[off + j]? = some u := by
  rcases h with ⟨_, h0, _⟩ | ⟨off, cells, k1, k2, k3, k4, k5, k6, k7⟩
  · omega
  · exact ⟨off, cells, k1, k2, k3, by omega, k7⟩

/-- Where element i of what is kept lies. -/
theorem KAt.spot {w : World} {kb : Nat} {T e : TypeId} {sz lo : Nat} {sh : Nat → Sh} {xs : Nat → List Value} (k : KAt w kb T e sz sh xs lo) (n i : Nat) (hn : ∀ s, s < 4 → (sh s).n = (n + 3 - s) / 4) (hi : i < n) :
    ∃ s q off : Nat, s < 4 ∧ (i : Int).tmod 4 = s ∧ (i : Int).tdiv 4 = q ∧ i = 4 * q + s ∧ q < (sh s).n ∧ (sh s).A = some ⟨(sh s).g, off, none⟩ ∧ ∀ j u, (xs s)[q * sz + j]? = some u → w.cell? ⟨(sh s).g, off + (q * sz + j), none⟩ = some u := by
  have hq : i / 4 < (sh (i % 4)).n := by rw [hn _ (by omega)]; omega
  obtain ⟨off, cells, h1, h2, _, _, h3⟩ := (k.row (i % 4) (by omega)).out (by omega)
  refine ⟨i % 4, i / 4, off, by omega, ?_, ?_, by omega, hq, h1, fun j u hu => ?_⟩
  · rw [Int.tmod_eq_emod_of_nonneg (by omega)]; omega
  · rw [Int.tdiv_eq_ediv_of_nonneg (by omega)]; omega
  · rw [h2.cell]; exact h3 _ u hu

def AtP (w : World) (cs : List Value) (e : Ending) (w' : World) : Prop :=
  ∃ g o, e = .returned (.pointer (some ⟨g, o, none⟩)) ∧ (∀ j u, cs[j]? = some u → w.cell? ⟨g, o + j, none⟩ = some u) ∧ w' = w

set_option maxHeartbeats 4000000 in
theorem atE_any (kb n i lo : Nat) (sh : Nat → Sh) (E : Nat → En) (w : World) (k : KAt w kb 256 163 3 sh (fun s => colE E (sh s).n s) lo) (hn : ∀ s, s < 4 → (sh s).n = (n + 3 - s) / 4) (hi : i < n) (hb : n ≤ 100000) :
    Calls Tryz.prog 156 #[.pointer (some ⟨kb, 0, none⟩), .int .i64 i] w (AtP w (E i).cells) := by
  obtain ⟨s, q, off, hs, h1, h2, h3, hq, hA, hc⟩ := k.spot n i hn hi
  have HC : Hid (∀ j u, (E i).cells[j]? = some u → w.cell? ⟨(sh s).g, off + q * 3 + j, none⟩ = some u) := Lib.hid (fun j u hu => by
    have hj : j < 3 := by
      by_cases h : j < 3
      · exact h
      · rw [List.getElem?_eq_none (by simp [En.cells]; omega)] at hu; cases hu
    rw [Nat.add_assoc]
    refine hc j u ?_
    rw [colE_get E _ s q j hq hj, ← h3]
    exact hu)
  have cs := k.cell s hs
  rw [hA] at cs
  have hqn : (q : Int) < (sh s).n := by omega
  have q0 : (0 : Int) ≤ q := by omega
  have s0 : (0 : Int) ≤ s := by omega
  have s4 : (s : Int) < 4 := by omega
  have w1 : IntKind.i64.wrap (q : Int) = q := IntWalk.i64_in _ (by omega)
  have w1' : wrap64 (q : Int) = q := by rw [← IntWalk.i64_left]; exact w1
  have w2 : IntKind.i64.wrap (s : Int) = s := IntWalk.i64_in _ (by omega)
  have w2' : wrap64 (s : Int) = s := by rw [← IntWalk.i64_left]; exact w2
  generalize (sh s).n = m at *
  generalize (sh s).g = g at *
  generalize (sh s).c = c at *
  have h2' : (i : Int) / 4 = q := by omega
  have h1' : (i : Int) % 4 = s := by omega
  clear k hn hc hA h3
  unfold AtP
  go_enter Tryz.func156, Tryz.ntmps156
  go_wp2
  go_ret
  exact ⟨g, off + q * 3, rfl, HC.out, rfl⟩

theorem results_row_tmp {P : Program} {fn : Func} {p u : Tmp} {ty : TypeId} (h : fn.results = #[.cell p ty, .tmp u]) (tmps : Array Value) (w : World) (g : Nat) (t : TypeId) (cs : Array Value) (fr : Nat × Nat) (d : TypeDesc)
    (hp : tmps.getD p undef = .pointer (some ⟨g, 0, none⟩)) (hg : w.heap[g]? = some (.cells cs t fr))
    (hu : P.underlying ty = some d) (hd : (match d with | .struct _ | .array _ _ => true | _ => false) = true) (hi : (P.info? ty).map (·.size) = some cs.size) :
    (results fn tmps).run P w = .ok (.tuple #[.agg cs, tmps.getD u undef]) w := by
  rw [results_cell_tmp h, hp]
  simp [asAddr, run_loadVar_row w g t ty cs fr d hg hu hd hi, Result.andThen]

set_option maxRecDepth 100000 in
set_option maxHeartbeats 4000000 in
theorem mapGet_any (mb kt kw vb n i lo : Nat) (G : Ge) (st sw : Nat → Sh) (E : Nat → En) (F : Nat → Int) (vs : List Int) (w : World) (k : MAt w mb kt kw vb G n st sw E F vs lo) (hi : i < n) (hn : n ≤ 100000) :
    Calls Tryz.prog 85 #[.pointer (some ⟨mb, 0, none⟩), .int .i64 i] w fun e w' => e = .returned (.tuple #[(E i).val, .int .i64 0]) ∧ Only (fun _ => False) w w' := by
  have o0 := (Only.refl (fun _ => False) w).alloc (.cells #[.int .i64 0, .int .i64 0, .int .i64 0] 163)
  have hx := At.new w 163 #[.int .i64 0, .int .i64 0, .int .i64 0]
  have HX := Lib.hid hx
  have HO := Lib.hid o0
  have k1 := k.quiet o0
  have HA := Lib.hid (atE_any kt n i lo st E _ k1.tt k1.nt hi hn)
  have c5 := k1.hd.cell 5
  have c6 := k1.hd.cell 6
  simp only [List.getElem?_toArray, List.getElem?_cons_zero, List.getElem?_cons_succ] at c5 c6
  have d1 : decide ((i : Int) < 0) = false := decide_eq_false (by omega)
  have d2 : decide ((n : Int) ≤ i) = false := decide_eq_false (by omega)
  have d2' : decide (n ≤ i) = false := decide_eq_false (by omega)
  have x0 := hx.cell 0
  have x1 := hx.cell 1
  have x2 := hx.cell 2
  simp only [List.getElem?_toArray, List.getElem?_cons_zero, List.getElem?_cons_succ] at x0 x1 x2
  have f0 := hx.frozen 0
  have f1 := hx.frozen 1
  have f2 := hx.frozen 2
  clear k k1 o0 hx
  unfold AtP at HA
  generalize E i = x at *
  obtain ⟨xa, xs, xk⟩ := x
  unfold En.cells at HA
  unfold En.val
  simp only at *
  go_enter Tryz.func85, Tryz.ntmps85
  go_wp2_with (fail)
  refine HA.out.mono ?_
  rintro e w1 ⟨g, o, rfl, hc, rfl⟩
  have y0 := hc 0 _ rfl
  have y1 := hc 1 _ rfl
  have y2 := hc 2 _ rfl
  rw [Nat.add_zero] at y0
  clear hc
  go_wp2
  refine bodyPost_ret (v := .tuple #[.agg #[.int .i64 xa, .int .i64 xs, .int .i64 xk], .int .i64 0]) (results_row_tmp (p := 4) (u := 5) (ty := 163) rfl _ _ w.heap.size 163 #[.int .i64 xa, .int .i64 xs, .int .i64 xk] (0, 0) _ rfl (At.new w 163 _) Tryz.underlying163 rfl rfl) rfl ?_
  exact ⟨rfl, (Only.refl (fun _ => False) w).alloc _⟩

set_option maxHeartbeats 4000000 in
theorem valid_any (mb kt kw vb n i lo : Nat) (G : Ge) (st sw : Nat → Sh) (E : Nat → En) (F : Nat → Int) (vs : List Int) (w : World) (k : MAt w mb kt kw vb G n st sw E F vs lo) (hi : i < vs.length) :
    Calls Tryz.prog 58 #[.pointer (some ⟨mb, 0, none⟩), .int .i64 i] w fun e w' => e = .returned (.int .i64 (vs[i])) ∧ w' = w := by
  have hl := k.len
  have c2 := k.hd.cell 2
  have c8 := k.hd.cell 8
  simp only [List.getElem?_toArray, List.getElem?_cons_zero, List.getElem?_cons_succ] at c2 c8
  have v0 : w.cell? ⟨vb, i, none⟩ = some (.int .i64 (vs[i])) := by rw [k.val.cell]; simp [iv, hi]
  rw [← hl] at c2
  generalize vs[i] = z at *
  have d1 : decide ((i : Int) < 0) = false := decide_eq_false (by omega)
  have d2 : decide ((vs.length : Int) ≤ i) = false := decide_eq_false (by omega)
  have d2' : decide (vs.length ≤ i) = false := decide_eq_false (by omega)
  have i0 : (0 : Int) ≤ i := by omega
  have i1 : (i : Int) < vs.length := by omega
  clear k hl
  generalize vs.length = m at *
  go_enter Tryz.func58, Tryz.ntmps58
  go_wp2
  go_ret
  exact ⟨rfl, rfl⟩
end Go.Proofs.YtjobaplioidogaaGreat
