/- Top: entries in memory; Newest of nothing; nothing is laid. -/
import Derived.Test.YtjobaplioidogaaGreatT
import Derived.Laws.IdiomRangeMap
namespace Go.Proofs.YtjobaplioidogaaGreat
open Go.RowKit Go.MapKept

/-- An entry: its address, its stamp, its kind. -/
structure En where
  a : Int
  s : Int
  k : Int
def En.cells (x : En) : List Value := [.int .i64 x.a, .int .i64 x.s, .int .i64 x.k]
def En.val (x : En) : Value := .agg #[.int .i64 x.a, .int .i64 x.s, .int .i64 x.k]
def ecs (l : List En) : List Value := l.flatMap En.cells
theorem ecs_len (l : List En) : (ecs l).length = l.length * 3 := by
  induction l with
  | nil => rfl
  | cons x t ih => simp only [ecs, List.flatMap_cons, List.length_append, List.length_cons] at *; rw [ih]; simp [En.cells]; omega
theorem ecs_get (l : List En) (i j : Nat) (hi : i < l.length) (hj : j < 3) : (ecs l)[i * 3 + j]? = (l[i]).cells[j]? := by
  induction l generalizing i with
  | nil => simp at hi
  | cons x t ih =>
    have hc : x.cells.length = 3 := rfl
    cases i with
    | zero =>
      simp only [ecs, List.flatMap_cons, Nat.zero_mul, Nat.zero_add, List.getElem_cons_zero]
      rw [List.getElem?_append_left (by omega)]
    | succ i =>
      simp only [ecs, List.flatMap_cons, List.getElem_cons_succ]
      rw [List.getElem?_append_right (by omega)]
      have := ih i (by simpa using hi)
      rw [← this]
      congr 1
      omega
theorem ecs_set (l : List En) (q j : Nat) (hq : q < l.length) (hj : j < 3) (v : Value) (x : En) (hx : (l[q]).cells.set j v = x.cells) : (ecs l).set (q * 3 + j) v = ecs (l.set q x) := by
  apply List.ext_getElem?
  intro i
  rw [List.getElem?_set]
  by_cases h : q * 3 + j = i
  · subst h
    rw [if_pos rfl, if_pos (by rw [ecs_len]; omega)]
    have := ecs_get (l.set q x) q j (by simpa using hq) hj
    rw [this, List.getElem_set_self, ← hx]
    simp [En.cells, hj]
  · rw [if_neg h]
    by_cases hi : i < l.length * 3
    · have h1 : i / 3 < l.length := Nat.div_lt_of_lt_mul (by omega)
      have h2 : i % 3 < 3 := Nat.mod_lt _ (by omega)
      have e1 := ecs_get l (i / 3) (i % 3) h1 h2
      have e2 := ecs_get (l.set q x) (i / 3) (i % 3) (by simpa using h1) h2
      rw [show i / 3 * 3 + i % 3 = i from Nat.div_add_mod' i 3] at e1 e2
      rw [e1, e2]
      by_cases hq' : q = i / 3
      · subst hq'
        simp only [List.getElem_set_self]
        rw [← hx, List.getElem?_set_ne (by have := Nat.div_add_mod' i 3; omega)]
      · rw [List.getElem_set_ne hq']
    · rw [List.getElem?_eq_none (by rw [ecs_len]; omega), List.getElem?_eq_none (by rw [ecs_len]; simp; omega)]

theorem ezero_get (n i : Nat) (h : i < n * 3) : (ecs (List.replicate n ⟨0, 0, 0⟩))[i]? = (En.cells ⟨0, 0, 0⟩)[i % 3]? := by
  have h1 : i / 3 < n := Nat.div_lt_of_lt_mul (by omega)
  have h2 : i % 3 < 3 := Nat.mod_lt _ (by omega)
  have := ecs_get (List.replicate n ⟨0, 0, 0⟩) (i / 3) (i % 3) (by simpa using h1) h2
  rw [show i / 3 * 3 + i % 3 = i from Nat.div_add_mod' i 3] at this
  rw [this]
  simp
set_option maxRecDepth 100000 in
theorem make_entries (n : Nat) (hn : n ≤ 5000) (w : World) : (Instr.makeSlice 130 (.int .i64 (n : Int)) (.int .i64 (n : Int))).run Tryz.prog w = .ok (.slice (some ⟨w.heap.size, 0, none⟩) n n) (w.alloc (.cells (ecs (List.replicate n ⟨0, 0, 0⟩)).toArray 163)) := by
  obtain ⟨i0, hi⟩ : ∃ i, Tryz.prog.info? 163 = some i := ⟨_, rfl⟩
  have hz0 : i0.zero = some (.agg #[.int .i64 0, .int .i64 0, .int .i64 0]) := by cases hi; rfl
  have hr := run_make (P := Tryz.prog) w 130 163 i0 _ Tryz.underlying130 hi hz0 .i64 .i64 n n (by omega) (by omega) (by cases hi; show (24 : Int) * (n : Int) ≤ _; omega) (by omega)
  rw [hr]
  have e : madeCells (Value.agg #[.int .i64 0, .int .i64 0, .int .i64 0]).cells (((n : Int)).toNat * i0.size) = (ecs (List.replicate n ⟨0, 0, 0⟩)).toArray := by
    have hsz : i0.size = 3 := by cases hi; rfl
    rw [hsz]
    apply Array.ext'
    apply List.ext_getElem?
    intro i
    by_cases hin : i < n * 3
    · rw [show (ecs (List.replicate n ⟨0, 0, 0⟩)).toArray.toList = ecs (List.replicate n ⟨0, 0, 0⟩) from rfl, ezero_get n i hin]
      have hlt : i % 3 < 3 := Nat.mod_lt _ (by omega)
      have e1 : (madeCells (Value.agg #[.int .i64 0, .int .i64 0, .int .i64 0]).cells (((n : Int)).toNat * 3)).toList[i]? = some ((#[Value.int .i64 0, .int .i64 0, .int .i64 0] : Array Value)[i % 3]!) := by
        have hin' : i < ((n : Int)).toNat * 3 := by simpa using hin
        rw [Array.getElem?_toList]
        unfold madeCells
        rw [Array.getElem?_map, Array.getElem?_range, if_pos hin']
        rfl
      rw [e1]
      generalize i % 3 = r at hlt
      have hr : r = 0 ∨ r = 1 ∨ r = 2 := by omega
      rcases hr with rfl | rfl | rfl <;> rfl
    · rw [List.getElem?_eq_none (by simp [madeCells]; omega), List.getElem?_eq_none (by simp [ecs_len]; omega)]
  rw [e]
  simp

/-- The first i entries are nowhere. -/
def lessE (n i : Nat) : List En := List.replicate i ⟨-1, 0, 0⟩ ++ List.replicate (n - i) ⟨0, 0, 0⟩
theorem lessE_len (n i : Nat) (h : i ≤ n) : (lessE n i).length = n := by simp [lessE]; omega
theorem lessE_set (n i : Nat) (h : i < n) : (lessE n i).set i ⟨-1, 0, 0⟩ = lessE n (i + 1) := by
  apply List.ext_getElem?
  intro j
  rw [List.getElem?_set]
  unfold lessE
  by_cases hj : i = j
  · subst hj
    rw [if_pos rfl, if_pos (by simp; omega), List.getElem?_append_left (by simp)]
    simp
  · rw [if_neg hj]
    by_cases h1 : j < i
    · rw [List.getElem?_append_left (by simpa using h1), List.getElem?_append_left (by simp; omega)]
      rw [List.getElem?_replicate, List.getElem?_replicate, if_pos h1, if_pos (by omega)]
    · rw [List.getElem?_append_right (by simp; omega), List.getElem?_append_right (by simp; omega)]
      simp only [List.length_replicate, List.getElem?_replicate]
      by_cases h2 : j < n
      · rw [if_pos (by omega), if_pos (by omega)]
      · rw [if_neg (by omega), if_neg (by omega)]
theorem lessE_get (n i : Nat) (h : i < n) : (lessE n i)[i]'(by rw [lessE_len n i (by omega)]; exact h) = ⟨0, 0, 0⟩ := by
  simp [lessE]

theorem next_none (w : World) (ty : TypeId) (bm c : Nat) (hb : w.heap[bm]? = some (.map #[] c)) :
    (Instr.next (.pointer (some ⟨w.heap.size, 0, none⟩)) false ty).run Tryz.prog (w.alloc (.mapIter (some bm) c #[] c)) = .ok (.tuple #[.bool false]) (w.alloc (.mapIter (some bm) c #[] c)) := by
  rcases run_next_map (P := Tryz.prog) w ty bm c c #[] #[] c hb (by simp) (Nat.le_refl _) with h | ⟨e, he, _⟩
  · exact h.2
  · simp [leftOf] at he

set_option maxRecDepth 100000 in
set_option maxHeartbeats 2000000 in
theorem best_none (n : Nat) (hn : 1 ≤ n ∧ n ≤ 4096) (w : World) :
    Calls Tryz.prog 106 #[.slice none 0 0, .int .i64 n] w fun e w' => e = .returned (.map (some w.heap.size)) ∧ w' = w.alloc (.map #[] 0) := by
  have hmk : ∀ W : World, (Instr.makeMap 189 none).run Tryz.prog W = .ok (.map (some W.heap.size)) (W.alloc (.map #[] 0)) := fun W => rfl
  have d1 : decide ((n : Int) < 1) = false := decide_eq_false (by omega)
  have d2 : decide ((4096 : Int) < n) = false := decide_eq_false (by omega)
  have d1' : decide (n < 1) = false := decide_eq_false (by omega)
  have d2' : decide (4096 < n) = false := decide_eq_false (by omega)
  go_enter Tryz.func106, Tryz.ntmps106
  go_wp2_with (fail)
  go_loopw [7, 8, 9, 20] (fun v7 v8 v9 v20 wr => v20 = .int .i64 0 ∧ wr = w.alloc (.map #[] 0)) (fun _ _ _ _ _ => 0)
  case atStart => exact ⟨rfl, rfl⟩
  case round =>
    obtain ⟨rfl, rfl⟩ := hrel
    go_wp2
    go_ret
    exact ⟨rfl, rfl⟩

def NewestP (n : Nat) (w : World) (e : Ending) (w' : World) : Prop :=
  ∃ g, e = .returned (.tuple #[.slice (some ⟨g, 0, none⟩) n n, .int .i64 0]) ∧ At w' g 163 (ecs (List.replicate n ⟨-1, 0, 0⟩)).toArray ∧ w.heap.size ≤ g ∧ Only (fun _ => False) w w'

set_option maxRecDepth 100000 in
set_option maxHeartbeats 4000000 in
theorem newest_none (n : Nat) (hn : 1 ≤ n ∧ n ≤ 4096) (w : World) :
    Calls Tryz.prog 53 #[.slice none 0 0, .int .i64 n] w (NewestP n w) := by
  have HB := Lib.hid (fun W => best_none n hn W)
  have hmk := fun W => make_entries n (by omega) W
  have HRG : Hid (∀ (W : World) (bm c : Nat) (hb : W.heap[bm]? = some (.map #[] c)), (Instr.range 189 (.map (some bm))).run Tryz.prog W = .ok (.pointer (some ⟨W.heap.size, 0, none⟩)) (W.alloc (.mapIter (some bm) c #[] c))) := Lib.hid (fun W bm c hb => run_range_map W 189 _ _ bm #[] c Tryz.underlying189 hb)
  have d1 : decide ((n : Int) < 1) = false := decide_eq_false (by omega)
  have d2 : decide ((4096 : Int) < n) = false := decide_eq_false (by omega)
  have d1' : decide (n < 1) = false := decide_eq_false (by omega)
  have d2' : decide (4096 < n) = false := decide_eq_false (by omega)
  unfold NewestP
  have HN := Lib.hid (At.new w 163 (ecs (lessE n 0)).toArray)
  have HO0 := Lib.hid ((Only.refl (fun i => w.heap.size ≤ i) w).alloc (.cells (ecs (lessE n 0)).toArray 163))
  have e0 : List.replicate n (⟨0, 0, 0⟩ : En) = lessE n 0 := by simp [lessE]
  rw [e0] at hmk
  clear e0
  go_enter Tryz.func53, Tryz.ntmps53
  go_wp2_with (fail)
  clear hmk
  go_loopw [7, 21] (fun v7 v21 wr => ∃ i : Nat, i ≤ n ∧ v21 = .int .i64 i ∧ At wr w.heap.size 163 (ecs (lessE n i)).toArray ∧ Only (fun i => w.heap.size ≤ i) w wr) (fun _ v21 _ => (n - intOf v21).toNat)
  case atStart => exact ⟨0, by omega, rfl, HN.out, HO0.out⟩
  case round =>
    obtain ⟨i, hi, rfl, hx, hO⟩ := hrel
    have HX := Lib.hid hx
    have HO := Lib.hid hO
    clear hx hO HN HO0
    by_cases hin : i < n
    · have i1 : (i : Int) < n := by omega
      have i0 : (0 : Int) ≤ i := by omega
      have hlen := lessE_len n i (by omega)
      have c0 := HX.out.cell (i * 3)
      have := ecs_get (lessE n i) i 0 (by omega) (by omega)
      rw [lessE_get n i hin] at this
      simp only [Nat.add_zero, En.cells, List.getElem?_cons_zero] at this
      rw [List.getElem?_toArray, this] at c0
      have f0 := HX.out.frozen (i * 3)
      have hset := HX.out.set (i * 3) (.int .i64 (-1))
      rw [List.setIfInBounds_toArray] at hset
      have e2 := ecs_set (lessE n i) i 0 (by omega) (by omega) (.int .i64 (-1)) ⟨-1, 0, 0⟩ (by rw [lessE_get n i hin]; rfl)
      rw [Nat.add_zero, lessE_set n i hin] at e2
      rw [e2] at hset
      have HS := Lib.hid hset
      clear this e2 hset hlen
      go_wp2
      go_roundw
      case rel => exact ⟨i + 1, by omega, by simp, HS.out, HO.out.setCell (p := ⟨w.heap.size, i * 3, none⟩) (fun _ => Nat.le_refl _) _⟩
      case measure => simp [intOf]; omega
    · obtain rfl : i = n := by omega
      have i1 : decide ((i : Int) < i) = false := by simp
      have e1 : lessE i i = List.replicate i ⟨-1, 0, 0⟩ := by simp [lessE]
      rw [e1] at HX
      clear e1
      go_wp2_with (fail)
      refine (HB.out _).mono ?_
      rintro e w2 ⟨rfl, rfl⟩
      have ob := (Only.refl (fun _ => False) wr).alloc (.map #[] 0)
      have HM : Hid ((wr.alloc (.map #[] 0)).heap[wr.heap.size]? = some (.map #[] 0)) := Lib.hid (heap_alloc_new _ _)
      have HX2 := Lib.hid (HX.out.only ob id)
      have HO2 := Lib.hid (HO.out.alloc (.map #[] 0))
      clear ob HX HO
      generalize wr.heap.size = bm at *
      generalize wr.alloc (.map #[] 0) = V at *
      have hrg := HRG.out V bm 0 HM.out
      go_wp2_with (fail)
      clear hrg
      have HNX := Lib.hid (fun ty => next_none V ty bm 0 HM.out)
      go_loopw [8, 9, 10] (fun v8 v9 v10 wr => v8 = .int .i64 0 ∧ wr = V.alloc (.mapIter (some bm) 0 #[] 0)) (fun _ _ _ _ => 0)
      case atStart => exact ⟨rfl, rfl⟩
      case round =>
        obtain ⟨rfl, rfl⟩ := hrel
        have hnx := HNX.out
        go_wp2
        go_ret2
        exact ⟨w.heap.size, rfl, HX2.out.alloc _, Nat.le_refl _, (HO2.out.alloc _).fresh _⟩

set_option maxRecDepth 100000 in
set_option maxHeartbeats 4000000 in
theorem lay_none (v : Value) (n g c : Nat) (w : World) (h : At w g 163 (ecs (List.replicate n ⟨-1, 0, 0⟩)).toArray) (hn : n ≤ 5000) :
    Calls Tryz.prog 54 #[v, .slice (some ⟨g, 0, none⟩) n c] w fun e w' => e = .returned (.tuple #[]) ∧ Only (fun _ => False) w w' := by
  have H := Lib.hid h
  clear h
  go_enter Tryz.func54, Tryz.ntmps54
  go_wp2_with (fail)
  go_loopw [4, 5, 8] (fun v4 v5 v8 wr => ∃ i : Nat, i ≤ n ∧ v8 = .int .i64 i ∧ Only (fun _ => False) w wr) (fun _ _ v8 _ => (n - intOf v8).toNat)
  case atStart => exact ⟨0, by omega, rfl, Only.refl _ _⟩
  case round =>
    obtain ⟨i, hi, rfl, hO⟩ := hrel
    have HO := Lib.hid hO
    have HX := Lib.hid (H.out.only hO id)
    clear hO
    by_cases hin : i < n
    · have i1 : (i : Int) < n := by omega
      have i0 : (0 : Int) ≤ i := by omega
      have c0 := HX.out.cell (i * 3)
      have c1 := HX.out.cell (i * 3 + 1)
      have c2 := HX.out.cell (i * 3 + 2)
      have t0 := ecs_get (List.replicate n ⟨-1, 0, 0⟩) i 0 (by simpa using hin) (by omega)
      have t1 := ecs_get (List.replicate n ⟨-1, 0, 0⟩) i 1 (by simpa using hin) (by omega)
      have t2 := ecs_get (List.replicate n ⟨-1, 0, 0⟩) i 2 (by simpa using hin) (by omega)
      simp only [Nat.add_zero, En.cells, List.getElem_replicate, List.getElem?_cons_zero, List.getElem?_cons_succ] at t0 t1 t2
      rw [List.getElem?_toArray] at c0 c1 c2
      rw [t0] at c0
      rw [t1] at c1
      rw [t2] at c2
      clear t0 t1 t2
      have HO2 := Lib.hid (HO.out.alloc (.cells #[.int .i64 (-1), .int .i64 0, .int .i64 0] 163))
      go_wp2
      go_roundw
      case rel => exact ⟨i + 1, by omega, by simp, HO2.out⟩
      case measure => simp [intOf]; omega
    · obtain rfl : i = n := by omega
      have i1 : decide ((i : Int) < i) = false := by simp
      go_wp2
      refine bodyPost_end (results_none rfl _ _ _) rfl ?_
      exact ⟨rfl, HO.out⟩
end Go.Proofs.YtjobaplioidogaaGreat
