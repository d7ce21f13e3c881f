/- Top: the device in memory: Geometry, Wrong, Off, Plan; the look-up of what is not there. -/
import Derived.Test.YtjobaplioidogaaGreatG
import Derived.Laws.IdiomMaps
import Derived.Laws.ResultCell
namespace Go.Proofs.YtjobaplioidogaaGreat
open Go.RowKit Go.WideShapes Go.MapKept

theorem check_int1 {k : TypeId} (hk : Tryz.prog.underlying k = some (.int .i64)) (em : Bool) (d : Nat) (z : Int) (w : World) : (Instr.checkKey em (d + 1) k (.int .i64 z)).run Tryz.prog w = .ok () w := by
  simp [Instr.checkKey, run_underlying hk, Result.andThen]
theorem check_int {k : TypeId} (hk : Tryz.prog.underlying k = some (.int .i64)) (em : Bool) (z : Int) (w : World) : (Instr.checkKey em 10000 k (.int .i64 z)).run Tryz.prog w = .ok () w := check_int1 hk em 9999 z w
theorem find_nil {k : TypeId} (hk : Tryz.prog.underlying k = some (.int .i64)) (z : Int) (w : World) : (Instr.findKey k (.int .i64 z) []).run Tryz.prog w = .ok none w := by
  simp [Instr.findKey, run_underlying hk, Instr.findNow, Result.andThen]
theorem look_none (t k e : TypeId) (ht : Tryz.prog.underlying t = some (.map k e)) (hk : Tryz.prog.underlying k = some (.int .i64)) {z : Value} {w : World} (hz : (zeroValue e).run Tryz.prog w = .ok z w) {b clock : Nat} (hb : w.heap[b]? = some (.map #[] clock)) (n : Int) :
    (Instr.lookup t (.map (some b)) (.int .i64 n) true).run Tryz.prog w = .ok (.tuple #[z, .bool false]) w := by
  simp [Instr.lookup, run_underlying ht, MapKept.run_getObj_map hb, check_int hk, find_nil hk, hz, Result.andThen]
theorem look_sector {w : World} {b clock : Nat} (hb : w.heap[b]? = some (.map #[] clock)) (n : Int) :
    (Instr.lookup 93 (.map (some b)) (.int .i64 n) true).run Tryz.prog w = .ok (.tuple #[.agg #[.slice none 0 0, .slice none 0 0], .bool false]) w :=
  look_none 93 3 122 Tryz.underlying93 Tryz.underlying3 (by kernel_rfl) hb n

/-- A block: its next page, how often it was erased, whether it is retired. -/
structure Bk where
  n : Int
  w : Int
  r : Bool
def Bk.cells (x : Bk) : List Value := [.int .i64 x.n, .int .i64 x.w, .bool x.r]
def bcs (l : List Bk) : List Value := l.flatMap Bk.cells
theorem bcs_len (l : List Bk) : (bcs l).length = l.length * 3 := by
  induction l with
  | nil => rfl
  | cons x t ih => simp only [bcs, List.flatMap_cons, List.length_append, List.length_cons] at *; rw [ih]; simp [Bk.cells]; omega
theorem bcs_get (l : List Bk) (i j : Nat) (hi : i < l.length) (hj : j < 3) : (bcs l)[i * 3 + j]? = (l[i]).cells[j]? := by
  induction l generalizing i with
  | nil => simp at hi
  | cons x t ih =>
    have hc : x.cells.length = 3 := rfl
    cases i with
    | zero =>
      simp only [bcs, List.flatMap_cons, Nat.zero_mul, Nat.zero_add, List.getElem_cons_zero]
      rw [List.getElem?_append_left (by omega)]
    | succ i =>
      simp only [bcs, List.flatMap_cons, List.getElem_cons_succ]
      rw [List.getElem?_append_right (by omega)]
      have := ih i (by simpa using hi)
      rw [← this]
      congr 1
      omega

/-- The device at block d: its blocks in gb, the map of its sectors at mp (es), its plan at pp. -/
structure NAt (w : World) (d gb mp pp : Nat) (G : Ge) (l : List Bk) (es : Array MapEntry) (ck : Nat) : Prop where
  st : At w d 95 #[.bool false, .int .i64 G.c, .int .i64 G.l, .int .i64 G.b, .int .i64 G.p, .int .i64 G.s, .pointer (some ⟨pp, 0, none⟩), .slice (some ⟨gb, 0, none⟩) l.length l.length, .map (some mp), .int .i64 0]
  row : At w gb 99 (bcs l).toArray
  mp : w.heap[mp]? = some (.map es ck)
  is : G.Is
  len : (l.length : Int) = G.u * G.b
section
variable {S : Nat → Prop} {w w' : World} {d gb mp pp : Nat} {G : Ge} {l : List Bk} {es : Array MapEntry} {ck : Nat}
theorem NAt.only (k : NAt w d gb mp pp G l es ck) (o : Only S w w') (h1 : ¬ S d) (h2 : ¬ S gb) (h3 : ¬ S mp) : NAt w' d gb mp pp G l es ck :=
  ⟨k.st.only o h1, k.row.only o h2, (o.block mp (Array.getElem?_eq_some_iff.1 k.mp).1 h3).trans k.mp, k.is, k.len⟩
theorem NAt.quiet (k : NAt w d gb mp pp G l es ck) (o : Only (fun _ => False) w w') : NAt w' d gb mp pp G l es ck := k.only o id id id
theorem NAt.lts (k : NAt w d gb mp pp G l es ck) : d < w.heap.size ∧ gb < w.heap.size ∧ mp < w.heap.size := ⟨k.st.lt, k.row.lt, (Array.getElem?_eq_some_iff.1 k.mp).1⟩
theorem NAt.cell (k : NAt w d gb mp pp G l es ck) (i j : Nat) (hi : i < l.length) (hj : j < 3) : w.cell? ⟨gb, i * 3 + j, none⟩ = (l[i]).cells[j]? := by
  rw [k.row.cell, ← bcs_get l i j hi hj]
  simp
end

set_option maxHeartbeats 2000000 in
theorem geometry_any (d gb mp pp : Nat) (G : Ge) (l : List Bk) (es : Array MapEntry) (ck : Nat) (w : World) (k : NAt w d gb mp pp G l es ck) :
    Calls Tryz.prog 51 #[.pointer (some ⟨d, 0, none⟩)] w fun e w' => e = .returned G.val ∧ Only (fun _ => False) w w' := by
  have k1 := (k.quiet ((Only.refl (fun _ => False) w).alloc (.cells #[.int .i64 0, .int .i64 0, .int .i64 0, .int .i64 0, .int .i64 0] 23))).st
  have c1 := k1.cell 1
  have c2 := k1.cell 2
  have c3 := k1.cell 3
  have c4 := k1.cell 4
  have c5 := k1.cell 5
  simp only [List.getElem?_toArray, List.getElem?_cons_zero, List.getElem?_cons_succ] at c1 c2 c3 c4 c5
  have c1' := k.st.cell 1
  have c2' := k.st.cell 2
  have c3' := k.st.cell 3
  have c4' := k.st.cell 4
  have c5' := k.st.cell 5
  simp only [List.getElem?_toArray, List.getElem?_cons_zero, List.getElem?_cons_succ] at c1' c2' c3' c4' c5'
  clear k k1
  unfold Ge.val
  obtain ⟨c, l, b, p, s⟩ := G
  simp only at c1 c2 c3 c4 c5 c1' c2' c3' c4' c5'
  go_enter Tryz.func51, Tryz.ntmps51
  go_wp2
  refine bodyPost_ret (v := .agg #[.int .i64 c, .int .i64 l, .int .i64 b, .int .i64 p, .int .i64 s]) (results_cell_row (ty := 23) rfl _ _ w.heap.size 23 #[.int .i64 c, .int .i64 l, .int .i64 b, .int .i64 p, .int .i64 s] (0, 0) _ rfl (At.new _ _ _) Tryz.underlying23 rfl (by kernel_rfl)) rfl ?_
  exact ⟨rfl, (Only.refl _ _).alloc _⟩

set_option maxHeartbeats 1000000 in
theorem wrong_any (d gb mp pp : Nat) (G : Ge) (l : List Bk) (es : Array MapEntry) (ck : Nat) (w : World) (k : NAt w d gb mp pp G l es ck) :
    Calls Tryz.prog 16 #[.pointer (some ⟨d, 0, none⟩)] w fun e w' => e = .returned (.int .i64 0) ∧ w' = w := by
  have c1 := k.st.cell 9
  simp only [List.getElem?_toArray, List.getElem?_cons_zero, List.getElem?_cons_succ] at c1
  clear k
  go_enter Tryz.func16, Tryz.ntmps16
  go_wp2
  go_ret
  exact ⟨rfl, rfl⟩
set_option maxHeartbeats 1000000 in
theorem off_any (d gb mp pp : Nat) (G : Ge) (l : List Bk) (es : Array MapEntry) (ck : Nat) (w : World) (k : NAt w d gb mp pp G l es ck) :
    Calls Tryz.prog 163 #[.pointer (some ⟨d, 0, none⟩)] w fun e w' => e = .returned (.bool false) ∧ w' = w := by
  have c1 := k.st.cell 0
  simp only [List.getElem?_toArray, List.getElem?_cons_zero, List.getElem?_cons_succ] at c1
  clear k
  go_enter Tryz.func163, Tryz.ntmps163
  go_wp2
  go_ret
  exact ⟨rfl, rfl⟩


set_option maxHeartbeats 4000000 in
theorem read_none (d gb mp pp : Nat) (G : Ge) (l : List Bk) (ck i : Nat) (hi : (i : Int) < G.al) (w : World) (k : NAt w d gb mp pp G l #[] ck) :
    Calls Tryz.prog 86 #[.pointer (some ⟨d, 0, none⟩), .int .i64 i] w fun e w' => e = .returned (.tuple #[.slice none 0 0, .slice none 0 0, .int .i64 6]) ∧ Only (fun _ => False) w w' := by
  have HA := Lib.hid (fun W => all_any G k.is W)
  have HL : Hid (∀ W, Only (fun _ => False) w W → (Instr.lookup 93 (.map (some mp)) (.int .i64 i) true).run Tryz.prog W = .ok (.tuple #[.agg #[.slice none 0 0, .slice none 0 0], .bool false]) W) := Lib.hid (fun W o => look_sector (k.quiet o).mp i)
  have HK := Lib.hid k
  have c0 := k.st.cell 0
  have c1 := k.st.cell 1
  have c2 := k.st.cell 2
  have c3 := k.st.cell 3
  have c4 := k.st.cell 4
  have c5 := k.st.cell 5
  simp only [List.getElem?_toArray, List.getElem?_cons_zero, List.getElem?_cons_succ] at c0 c1 c2 c3 c4 c5
  unfold Ge.val at HA
  clear k
  obtain ⟨al, hal⟩ : ∃ al, G.al = al := ⟨_, rfl⟩
  rw [hal] at HA hi
  have d1 : decide ((i : Int) < 0) = false := decide_eq_false (by omega)
  have d2 : decide (al ≤ (i : Int)) = false := decide_eq_false (by omega)
  clear hal
  go_enter Tryz.func86, Tryz.ntmps86
  go_wp2_with (fail)
  refine (HA.out _).mono ?_
  rintro e w1 ⟨rfl, hO⟩
  have HO := Lib.hid hO
  have y := ((HK.out.quiet hO).st).cell 8
  simp only [List.getElem?_toArray, List.getElem?_cons_zero, List.getElem?_cons_succ] at y
  have hlk := HL.out w1 hO
  clear hO c0 c1 c2 c3 c4 c5
  go_wp2
  go_ret3
  exact ⟨rfl, HO.out.alloc _⟩
end Go.Proofs.YtjobaplioidogaaGreat
