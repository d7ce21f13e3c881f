/- Top: how a call ends; what a sector has. -/
import Derived.Test.YtjobaplioidogaaGreatAB
namespace Go.Proofs.YtjobaplioidogaaGreat
open Go.RowKit

/-- A thread's cells have become these; elsewhere nothing has changed. -/
def ThrP (db tb : Nat) (cs : Array Value) (v : List Value) (w : World) (e : Ending) (w' : World) : Prop :=
  e = .returned (.tuple #[]) ∧ ∃ cs', At w' db 81 cs' ∧ Thr cs' tb v ∧ Far tb cs cs' ∧ Only (fun i => i = db) w w'

set_option maxRecDepth 100000 in
set_option maxHeartbeats 8000000 in
theorem end_any (db tb : Nat) (cs : Array Value) (a0 a1 a2 a3 a4 a5 a6 a9 a10 a11 a12 : Value) (dn z : Int) (A : Option Addr) (n c : Nat) (w : World) (h : At w db 81 cs) (hs : tb + 13 ≤ cs.size) (ht : Thr cs tb [a0, a1, a2, a3, a4, a5, a6, .int .i64 dn, .slice A n c, a9, a10, a11, a12]) :
    Calls Tryz.prog 32 #[.pointer (some ⟨db, tb, none⟩), .int .i64 z] w (ThrP db tb cs [a0, a1, a2, a3, .bool false, a5, a6, .int .i64 dn, .slice A n c, .bool true, .int .i64 z, .int .i64 dn, .slice A n c] w) := by
  have g4 := (h.cell (tb + 4)).trans (ht 4 (by omega))
  have g9 := (h.cell (tb + 9)).trans (ht 9 (by omega))
  simp only [List.getElem?_cons_zero, List.getElem?_cons_succ] at g4 g9
  have f4 := h.frozen (tb + 4)
  have h1 := h.set (tb + 4) (.bool false)
  have t1 := ht.set rfl hs 4 (by omega) (.bool false)
  have s1 : tb + 13 ≤ (cs.setIfInBounds (tb + 4) (.bool false)).size := by rw [Array.size_setIfInBounds]; exact hs
  have r1 := (Far.refl tb cs).set 4 (by omega) (.bool false)
  have k9 := (h1.cell (tb + 9)).trans (t1 9 (by omega))
  have f9 := h1.frozen (tb + 9)
  have h2 := h1.set (tb + 9) (.bool true)
  have t2 := t1.set rfl s1 9 (by omega) (.bool true)
  have s2 : tb + 13 ≤ ((cs.setIfInBounds (tb + 4) (.bool false)).setIfInBounds (tb + 9) (.bool true)).size := by rw [Array.size_setIfInBounds]; exact s1
  have r2 := r1.set 9 (by omega) (.bool true)
  have o2 := (((Only.refl (fun i => i = db) w).setCell (p := ⟨db, tb + 4, none⟩) (fun _ => rfl) (.bool false)).setCell (p := ⟨db, tb + 9, none⟩) (fun _ => rfl) (.bool true))
  simp only [List.set_cons_zero, List.set_cons_succ, List.getElem?_cons_zero, List.getElem?_cons_succ] at t1 t2 k9
  unfold ThrP
  have H2 := Lib.hid h2
  have T2 := Lib.hid t2
  have R2 := Lib.hid r2
  have S2 := Lib.hid s2
  have O2 := Lib.hid o2
  clear h ht h1 t1 r1 s1 h2 t2 r2 s2 o2 g9
  generalize (cs.setIfInBounds (tb + 4) (.bool false)).setIfInBounds (tb + 9) (.bool true) = cs2 at *
  go_enter Tryz.func32, Tryz.ntmps32
  go_upto_region 2 with (fail)
  clear g4 f4 k9 f9
  have c10 := (H2.out.cell (tb + 10)).trans (T2.out 10 (by omega))
  have c11 : ((w.setCell ⟨db, tb + 4, none⟩ (.bool false)).setCell ⟨db, tb + 9, none⟩ (.bool true)).cell? ⟨db, tb + 10 + 1, none⟩ = _ := (H2.out.cell (tb + 11)).trans (T2.out 11 (by omega))
  have c12 : ((w.setCell ⟨db, tb + 4, none⟩ (.bool false)).setCell ⟨db, tb + 9, none⟩ (.bool true)).cell? ⟨db, tb + 10 + 2, none⟩ = _ := (H2.out.cell (tb + 12)).trans (T2.out 12 (by omega))
  have c7 := (H2.out.cell (tb + 7)).trans (T2.out 7 (by omega))
  have c8 := (H2.out.cell (tb + 8)).trans (T2.out 8 (by omega))
  have f10 := H2.out.frozen (tb + 10)
  have f11 : ((w.setCell ⟨db, tb + 4, none⟩ (.bool false)).setCell ⟨db, tb + 9, none⟩ (.bool true)).frozen? ⟨db, tb + 10 + 1, none⟩ = false := H2.out.frozen (tb + 11)
  have f12 : ((w.setCell ⟨db, tb + 4, none⟩ (.bool false)).setCell ⟨db, tb + 9, none⟩ (.bool true)).frozen? ⟨db, tb + 10 + 2, none⟩ = false := H2.out.frozen (tb + 12)
  simp only [List.getElem?_cons_zero, List.getElem?_cons_succ] at c7 c8 c10 c11 c12
  have H3 := Lib.hid (((H2.out.set (tb + 10) (.int .i64 z)).set (tb + 11) (.int .i64 dn)).set (tb + 12) (.slice A n c))
  have t3 := ((T2.out.set rfl S2.out 10 (by omega) (.int .i64 z)).set rfl (by rw [Array.size_setIfInBounds]; exact S2.out) 11 (by omega) (.int .i64 dn)).set rfl (by rw [Array.size_setIfInBounds, Array.size_setIfInBounds]; exact S2.out) 12 (by omega) (.slice A n c)
  simp only [List.set_cons_zero, List.set_cons_succ] at t3
  have T3 := Lib.hid t3
  have R3 := Lib.hid (((R2.out.set 10 (by omega) (.int .i64 z)).set 11 (by omega) (.int .i64 dn)).set 12 (by omega) (.slice A n c))
  have O3 := Lib.hid (((O2.out.setCell (p := ⟨db, tb + 10, none⟩) (fun _ => rfl) (.int .i64 z)).setCell (p := ⟨db, tb + 11, none⟩) (fun _ => rfl) (.int .i64 dn)).setCell (p := ⟨db, tb + 12, none⟩) (fun _ => rfl) (.slice A n c))
  clear t3
  have HZ3 := Lib.hid H3.out.drew
  refine wp_region_held_drew (S := (fun W => W.cell? ⟨db, tb + 7, none⟩ = some (.int .i64 dn) ∧ W.cell? ⟨db, tb + 8, none⟩ = some (.slice A n c))) (by kernel_rfl) ?_ (fun hHeld => ?_)
  · exact ⟨c7, c8⟩
  refine wpAnyH_take (i := 0) (oi := { dst := some 10, op := Op.move (Operand.tmp 0), type := 83, pos := "disk.go:123", after := #[], guard := none }) (v := ?_) rfl (by kernel_rfl) (by kernel_rfl) (by kernel_rfl) (fun _ _ _ h => h) (Or.inl ⟨by rfl, ?_⟩) (by assumption) ?_
  rotate_left
  · (intro w hSw; (try dsimp only at hSw); (try obtain ⟨hSa, hSb⟩ := hSw); go_simp; try with_reducible rfl)
  try simp only [Act.put, List.setIfInBounds_toArray, List.set_cons_zero, List.set_cons_succ]
  refine wpAnyH_take (i := 1) (oi := { dst := some 11, op := Op.move (Operand.tmp 1), type := 41, pos := "disk.go:123", after := #[], guard := none }) (v := ?_) rfl (by kernel_rfl) (by kernel_rfl) (by kernel_rfl) (fun _ _ _ h => h) (Or.inl ⟨by rfl, ?_⟩) (by assumption) ?_
  rotate_left
  · (intro w hSw; (try dsimp only at hSw); (try obtain ⟨hSa, hSb⟩ := hSw); go_simp; try with_reducible rfl)
  try simp only [Act.put, List.setIfInBounds_toArray, List.set_cons_zero, List.set_cons_succ]
  refine wpAnyH_take (i := 2) (oi := { dst := some 12, op := Op.move (Operand.tmp 0), type := 83, pos := "disk.go:123", after := #[], guard := none }) (v := ?_) rfl (by kernel_rfl) (by kernel_rfl) (by kernel_rfl) (fun _ _ _ h => h) (Or.inl ⟨by rfl, ?_⟩) (by assumption) ?_
  rotate_left
  · (intro w hSw; (try dsimp only at hSw); (try obtain ⟨hSa, hSb⟩ := hSw); go_simp; try with_reducible rfl)
  try simp only [Act.put, List.setIfInBounds_toArray, List.set_cons_zero, List.set_cons_succ]
  refine wpAnyH_take (i := 6) (oi := { dst := some 16, op := Op.move (Operand.tmp 0), type := 83, pos := "disk.go:123", after := #[], guard := none }) (v := ?_) rfl (by kernel_rfl) (by kernel_rfl) (by kernel_rfl) (fun _ _ _ h => h) (Or.inl ⟨by rfl, ?_⟩) (by assumption) ?_
  rotate_left
  · (intro w hSw; (try dsimp only at hSw); (try obtain ⟨hSa, hSb⟩ := hSw); go_simp; try with_reducible rfl)
  try simp only [Act.put, List.setIfInBounds_toArray, List.set_cons_zero, List.set_cons_succ]
  refine wpAnyH_take (i := 3) (oi := { dst := some 13, op := Op.nilCheck (Operand.tmp 12), type := 0, pos := "disk.go:123", after := #[{ on := 2, ground := Ground.data }], guard := none }) (v := ?_) rfl (by kernel_rfl) (by kernel_rfl) (by kernel_rfl) (fun _ _ _ h => h) (Or.inl ⟨by rfl, ?_⟩) (by assumption) ?_
  rotate_left
  · (intro w hSw; (try dsimp only at hSw); (try obtain ⟨hSa, hSb⟩ := hSw); go_simp; try with_reducible rfl)
  try simp only [Act.put, List.setIfInBounds_toArray, List.set_cons_zero, List.set_cons_succ]
  refine wpAnyH_take (i := 7) (oi := { dst := some 17, op := Op.nilCheck (Operand.tmp 16), type := 0, pos := "disk.go:123", after := #[{ on := 6, ground := Ground.data }], guard := none }) (v := ?_) rfl (by kernel_rfl) (by kernel_rfl) (by kernel_rfl) (fun _ _ _ h => h) (Or.inl ⟨by rfl, ?_⟩) (by assumption) ?_
  rotate_left
  · (intro w hSw; (try dsimp only at hSw); (try obtain ⟨hSa, hSb⟩ := hSw); go_simp; try with_reducible rfl)
  try simp only [Act.put, List.setIfInBounds_toArray, List.set_cons_zero, List.set_cons_succ]
  refine wpAnyH_take (i := 4) (oi := { dst := some 14, op := Op.fieldAddr 74 (Operand.tmp 13) 4, type := 0, pos := "disk.go:123", after := #[{ on := 3, ground := Ground.data }], guard := none }) (v := ?_) rfl (by kernel_rfl) (by kernel_rfl) (by kernel_rfl) (fun _ _ _ h => h) (Or.inl ⟨by rfl, ?_⟩) (by assumption) ?_
  rotate_left
  · (intro w hSw; (try dsimp only at hSw); (try obtain ⟨hSa, hSb⟩ := hSw); go_simp; try with_reducible rfl)
  try simp only [Act.put, List.setIfInBounds_toArray, List.set_cons_zero, List.set_cons_succ]
  refine wpAnyH_take (i := 8) (oi := { dst := some 18, op := Op.fieldAddr 74 (Operand.tmp 17) 5, type := 0, pos := "disk.go:123", after := #[{ on := 7, ground := Ground.data }], guard := none }) (v := ?_) rfl (by kernel_rfl) (by kernel_rfl) (by kernel_rfl) (fun _ _ _ h => h) (Or.inl ⟨by rfl, ?_⟩) (by assumption) ?_
  rotate_left
  · (intro w hSw; (try dsimp only at hSw); (try obtain ⟨hSa, hSb⟩ := hSw); go_simp; try with_reducible rfl)
  try simp only [Act.put, List.setIfInBounds_toArray, List.set_cons_zero, List.set_cons_succ]
  refine wpAnyH_take (i := 5) (oi := { dst := some 15, op := Op.load 3 (Operand.tmp 14), type := 3, pos := "disk.go:123", after := #[{ on := 4, ground := Ground.data }], guard := none }) (v := ?_) rfl (by kernel_rfl) (by kernel_rfl) (by kernel_rfl) (fun _ _ _ h => h) (Or.inl ⟨by rfl, ?_⟩) (by assumption) ?_
  rotate_left
  · (intro w hSw; (try dsimp only at hSw); (try obtain ⟨hSa, hSb⟩ := hSw); go_simp; try with_reducible rfl)
  try simp only [Act.put, List.setIfInBounds_toArray, List.set_cons_zero, List.set_cons_succ]
  refine wpAnyH_take (i := 9) (oi := { dst := some 19, op := Op.load 27 (Operand.tmp 18), type := 27, pos := "disk.go:123", after := #[{ on := 8, ground := Ground.data }], guard := none }) (v := ?_) rfl (by kernel_rfl) (by kernel_rfl) (by kernel_rfl) (fun _ _ _ h => h) (Or.inl ⟨by rfl, ?_⟩) (by assumption) ?_
  rotate_left
  · (intro w hSw; (try dsimp only at hSw); (try obtain ⟨hSa, hSb⟩ := hSw); go_simp; try with_reducible rfl)
  try simp only [Act.put, List.setIfInBounds_toArray, List.set_cons_zero, List.set_cons_succ]
  refine wpAnyH_take (i := 10) (oi := { dst := some 20, op := Op.build 48 #[(0, Operand.tmp 11), (1, Operand.tmp 15), (2, Operand.tmp 19)], type := 48, pos := "disk.go:123", after := #[{ on := 1, ground := Ground.data }, { on := 5, ground := Ground.data }, { on := 9, ground := Ground.data }], guard := none }) (v := ?_) rfl (by kernel_rfl) (by kernel_rfl) (by kernel_rfl) (fun _ _ _ h => h) (Or.inl ⟨by rfl, ?_⟩) (by assumption) ?_
  rotate_left
  · (intro w hSw; (try dsimp only at hSw); (try obtain ⟨hSa, hSb⟩ := hSw); go_simp; try with_reducible rfl)
  try simp only [Act.put, List.setIfInBounds_toArray, List.set_cons_zero, List.set_cons_succ]
  refine wpAnyH_take (i := 11) (oi := { dst := some 21, op := Op.nilCheck (Operand.tmp 10), type := 0, pos := "disk.go:123", after := #[{ on := 0, ground := Ground.data }, { on := 0, ground := Ground.phase }, { on := 1, ground := Ground.phase }, { on := 2, ground := Ground.phase }, { on := 3, ground := Ground.phase }, { on := 4, ground := Ground.phase }, { on := 5, ground := Ground.phase }, { on := 6, ground := Ground.phase }, { on := 7, ground := Ground.phase }, { on := 8, ground := Ground.phase }, { on := 9, ground := Ground.phase }, { on := 10, ground := Ground.phase }], guard := none }) (v := ?_) rfl (by kernel_rfl) (by kernel_rfl) (by kernel_rfl) (fun _ _ _ h => h) (Or.inl ⟨by rfl, ?_⟩) (by assumption) ?_
  rotate_left
  · (intro w hSw; (try dsimp only at hSw); (try obtain ⟨hSa, hSb⟩ := hSw); go_simp; try with_reducible rfl)
  try simp only [Act.put, List.setIfInBounds_toArray, List.set_cons_zero, List.set_cons_succ]
  refine wpAnyH_take (i := 12) (oi := { dst := some 22, op := Op.fieldAddr 74 (Operand.tmp 21) 7, type := 0, pos := "disk.go:123", after := #[{ on := 11, ground := Ground.data }, { on := 0, ground := Ground.phase }, { on := 1, ground := Ground.phase }, { on := 2, ground := Ground.phase }, { on := 3, ground := Ground.phase }, { on := 4, ground := Ground.phase }, { on := 5, ground := Ground.phase }, { on := 6, ground := Ground.phase }, { on := 7, ground := Ground.phase }, { on := 8, ground := Ground.phase }, { on := 9, ground := Ground.phase }, { on := 10, ground := Ground.phase }], guard := none }) (v := ?_) rfl (by kernel_rfl) (by kernel_rfl) (by kernel_rfl) (fun _ _ _ h => h) (Or.inl ⟨by rfl, ?_⟩) (by assumption) ?_
  rotate_left
  · (intro w hSw; (try dsimp only at hSw); (try obtain ⟨hSa, hSb⟩ := hSw); go_simp; try with_reducible rfl)
  try simp only [Act.put, List.setIfInBounds_toArray, List.set_cons_zero, List.set_cons_succ]
  refine wpAnyH_ready (rs := [13]) (by kernel_rfl) (by simp) ?_
  refine AllReadyH.cons (o := { dst := none, op := Op.store 48 (Operand.tmp 22) (Operand.tmp 20), type := 0, pos := "disk.go:123", after := #[{ on := 12, ground := Ground.data }, { on := 10, ground := Ground.data }, { on := 0, ground := Ground.phase }, { on := 1, ground := Ground.phase }, { on := 2, ground := Ground.phase }, { on := 3, ground := Ground.phase }, { on := 4, ground := Ground.phase }, { on := 5, ground := Ground.phase }, { on := 6, ground := Ground.phase }, { on := 7, ground := Ground.phase }, { on := 8, ground := Ground.phase }, { on := 9, ground := Ground.phase }, { on := 10, ground := Ground.phase }], guard := none }) rfl (fun K hK => ?_) AllReadyH.nil
  go_simp
  try clear hO
  try simp only []
  refine hK.out _ _ ?_ (fun hHeld => ?_)
  · exact ⟨(HZ3.out.cell (tb + 7)).trans (T3.out 7 (by omega)), (HZ3.out.cell (tb + 8)).trans (T3.out 8 (by omega))⟩
  clear hK K
  try simp only [Act.put, List.setIfInBounds_toArray, List.set_cons_zero, List.set_cons_succ]
  refine wpAnyH_done (by kernel_rfl) ?_ _
  go_wp2
  refine bodyPost_end (results_none rfl _ _ _) rfl ?_
  exact ⟨rfl, _, HZ3.out, T3.out, R3.out, O3.out.drew⟩

end Go.Proofs.YtjobaplioidogaaGreat
