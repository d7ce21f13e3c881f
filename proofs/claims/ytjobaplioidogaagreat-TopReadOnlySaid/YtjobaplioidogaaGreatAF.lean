/- Top: a thread's step. -/
import Derived.Test.YtjobaplioidogaaGreatAE
namespace Go.Proofs.YtjobaplioidogaaGreat
open Go.RowKit

theorem look_step {W : World} {sb : Nat} {z : Int} {v : Value} {i : Nat} (hb : W.heap[sb]? = some (.map (stepE 5) 5)) (hf : Instr.findNow (.int .i64) (.int .i64 z) (stepE 5).toList 0 = some (some (i, v))) :
    (Instr.lookup 76 (.map (some sb)) (.int .i64 z) false).run Tryz.prog W = .ok v W := by
  have h1 := MapKept.run_findKey (P := Tryz.prog) (w := W) (kt := 3) Tryz.underlying3 hf
  simp [Instr.lookup, run_underlying Tryz.underlying76, MapKept.run_getObj_map hb, check_int Tryz.underlying3, h1, Result.andThen]

set_option maxRecDepth 100000 in
set_option maxHeartbeats 8000000 in
theorem ready2 (db mb kt kw vb lb off c gb rb sb lo : Nat) (st sw : Nat → Sh) (G : Ge) (s : Sg) (l : List Ln) (cs : Array Value) (hl : gOk l) (hn : 1 ≤ s.n ∧ s.n ≤ 4096) (hro : roB G s l = true) (tb : Nat) (a1 a2 a3 a6 a7 a8 a9 a10 a11 a12 : Value) (ht : Thr cs tb [.int .i64 2, a1, a2, a3, .bool true, .bool false, a6, a7, a8, a9, a10, a11, a12]) (w : World) (k : DAt w db G s l cs mb kt kw vb st sw lb off c gb rb sb lo) :
    Calls Tryz.prog 71 #[.pointer (some ⟨db, 0, none⟩), .pointer (some ⟨db, tb, none⟩)] w fun e w' => e = .returned (.bool true) ∧ Only (fun _ => False) w w' := by
  have c4 := (k.cell (tb + 4)).trans (ht 4 (by omega))
  have c0 := (k.cell (tb + 0)).trans (ht 0 (by omega))
  have c5 := (k.cell (tb + 5)).trans (ht 5 (by omega))
  rw [Nat.add_zero] at c0
  simp only [List.getElem?_cons_zero, List.getElem?_cons_succ] at c0 c4 c5
  have HR := Lib.hid (readOnly_any db mb kt kw vb lb off c gb rb sb lo st sw G s l cs hl hn _ (k.quiet (Only.refl (fun _ => False) w).drew))
  rw [hro] at HR
  clear k ht hl hn hro
  go_enter Tryz.func71, Tryz.ntmps71
  go_upto_region 8 with (fail)
  refine wp_region_held_drew (S := (fun _ => True)) (by kernel_rfl) ?_ (fun hHeld => ?_)
  · trivial
  refine wpAnyH_take (i := 0) (oi := { dst := some 20, op := Op.move (Operand.tmp 0), type := 34, pos := "disk.go:166", after := #[], guard := none }) (v := ?_) rfl (by kernel_rfl) (by kernel_rfl) (by kernel_rfl) (fun _ _ _ h => h) (Or.inl ⟨by rfl, ?_⟩) (by assumption) ?_
  rotate_left
  · (intro w hSw; (try dsimp only at hSw); (try obtain ⟨hSa, hSb⟩ := hSw); go_simp; try with_reducible rfl)
  try simp only [Act.put, List.setIfInBounds_toArray, List.set_cons_zero, List.set_cons_succ]
  refine wpAnyH_ready (rs := [1]) (by kernel_rfl) (by simp) ?_
  refine AllReadyH.cons (o := { dst := some 21, op := Op.call { callee := Callee.value (Operand.func 8), args := #[Operand.tmp 20], argTypes := #[34] }, type := 4, pos := "disk.go:166", after := #[{ on := 0, ground := Ground.data }], guard := none }) rfl (fun K hK => ?_) AllReadyH.nil
  go_simp
  (refine HR.out.mono ?_; rintro e w1 ⟨rfl, hO⟩; have HO := Lib.hid ((Only.refl (fun _ => False) w).drew.trans hO); clear hO; try simp only [])
  refine hK.out _ _ ?_ (fun hHeld => ?_)
  · trivial
  clear hK K
  try simp only [Act.put, List.setIfInBounds_toArray, List.set_cons_zero, List.set_cons_succ]
  refine wpAnyH_take (i := 2) (oi := { dst := some 22, op := Op.move (Operand.tmp 21), type := 4, pos := "disk.go:166", after := #[{ on := 1, ground := Ground.data }, { on := 1, ground := Ground.chain }], guard := none }) (v := ?_) rfl (by kernel_rfl) (by kernel_rfl) (by kernel_rfl) (fun _ _ _ h => h) (Or.inl ⟨by rfl, ?_⟩) (by assumption) ?_
  rotate_left
  · (intro w hSw; (try dsimp only at hSw); (try obtain ⟨hSa, hSb⟩ := hSw); go_simp; try with_reducible rfl)
  try simp only [Act.put, List.setIfInBounds_toArray, List.set_cons_zero, List.set_cons_succ]
  refine wpAnyH_take (i := 3) (oi := { dst := some 23, op := Op.move (Operand.tmp 0), type := 34, pos := "disk.go:166", after := #[{ on := 2, ground := Ground.guard }], guard := some (2, false) }) (v := undef) rfl (by kernel_rfl) (by kernel_rfl) (by kernel_rfl) (fun _ _ _ h => h) (Or.inr ⟨by rfl, rfl⟩) (by assumption) ?_
  try simp only [Act.put, List.setIfInBounds_toArray, List.set_cons_zero, List.set_cons_succ]
  refine wpAnyH_take (i := 4) (oi := { dst := some 24, op := Op.nilCheck (Operand.tmp 23), type := 0, pos := "disk.go:166", after := #[{ on := 3, ground := Ground.data }, { on := 2, ground := Ground.guard }], guard := some (2, false) }) (v := undef) rfl (by kernel_rfl) (by kernel_rfl) (by kernel_rfl) (fun _ _ _ h => h) (Or.inr ⟨by rfl, rfl⟩) (by assumption) ?_
  try simp only [Act.put, List.setIfInBounds_toArray, List.set_cons_zero, List.set_cons_succ]
  refine wpAnyH_take (i := 5) (oi := { dst := some 25, op := Op.fieldAddr 81 (Operand.tmp 24) 5, type := 0, pos := "disk.go:166", after := #[{ on := 4, ground := Ground.data }, { on := 2, ground := Ground.guard }], guard := some (2, false) }) (v := undef) rfl (by kernel_rfl) (by kernel_rfl) (by kernel_rfl) (fun _ _ _ h => h) (Or.inr ⟨by rfl, rfl⟩) (by assumption) ?_
  try simp only [Act.put, List.setIfInBounds_toArray, List.set_cons_zero, List.set_cons_succ]
  refine wpAnyH_take (i := 6) (oi := { dst := some 26, op := Op.load 71 (Operand.tmp 25), type := 71, pos := "disk.go:166", after := #[{ on := 5, ground := Ground.data }, { on := 2, ground := Ground.guard }], guard := some (2, false) }) (v := undef) rfl (by kernel_rfl) (by kernel_rfl) (by kernel_rfl) (fun _ _ _ h => h) (Or.inr ⟨by rfl, rfl⟩) (by assumption) ?_
  try simp only [Act.put, List.setIfInBounds_toArray, List.set_cons_zero, List.set_cons_succ]
  refine wpAnyH_take (i := 7) (oi := { dst := some 27, op := Op.call { callee := Callee.value (Operand.func 118), args := #[Operand.tmp 26], argTypes := #[71] }, type := 3, pos := "disk.go:166", after := #[{ on := 6, ground := Ground.data }, { on := 2, ground := Ground.chain }, { on := 2, ground := Ground.guard }], guard := some (2, false) }) (v := undef) rfl (by kernel_rfl) (by kernel_rfl) (by kernel_rfl) (fun _ _ _ h => h) (Or.inr ⟨by rfl, rfl⟩) (by assumption) ?_
  try simp only [Act.put, List.setIfInBounds_toArray, List.set_cons_zero, List.set_cons_succ]
  refine wpAnyH_take (i := 8) (oi := { dst := some 28, op := Op.move (Operand.tmp 0), type := 34, pos := "disk.go:166", after := #[{ on := 2, ground := Ground.guard }], guard := some (2, false) }) (v := undef) rfl (by kernel_rfl) (by kernel_rfl) (by kernel_rfl) (fun _ _ _ h => h) (Or.inr ⟨by rfl, rfl⟩) (by assumption) ?_
  try simp only [Act.put, List.setIfInBounds_toArray, List.set_cons_zero, List.set_cons_succ]
  refine wpAnyH_take (i := 9) (oi := { dst := some 29, op := Op.nilCheck (Operand.tmp 28), type := 0, pos := "disk.go:166", after := #[{ on := 8, ground := Ground.data }, { on := 2, ground := Ground.guard }], guard := some (2, false) }) (v := undef) rfl (by kernel_rfl) (by kernel_rfl) (by kernel_rfl) (fun _ _ _ h => h) (Or.inr ⟨by rfl, rfl⟩) (by assumption) ?_
  try simp only [Act.put, List.setIfInBounds_toArray, List.set_cons_zero, List.set_cons_succ]
  refine wpAnyH_take (i := 10) (oi := { dst := some 30, op := Op.fieldAddr 81 (Operand.tmp 29) 1, type := 0, pos := "disk.go:166", after := #[{ on := 9, ground := Ground.data }, { on := 2, ground := Ground.guard }], guard := some (2, false) }) (v := undef) rfl (by kernel_rfl) (by kernel_rfl) (by kernel_rfl) (fun _ _ _ h => h) (Or.inr ⟨by rfl, rfl⟩) (by assumption) ?_
  try simp only [Act.put, List.setIfInBounds_toArray, List.set_cons_zero, List.set_cons_succ]
  refine wpAnyH_take (i := 11) (oi := { dst := some 31, op := Op.fieldAddr 23 (Operand.tmp 30) 4, type := 0, pos := "disk.go:166", after := #[{ on := 10, ground := Ground.data }, { on := 2, ground := Ground.guard }], guard := some (2, false) }) (v := undef) rfl (by kernel_rfl) (by kernel_rfl) (by kernel_rfl) (fun _ _ _ h => h) (Or.inr ⟨by rfl, rfl⟩) (by assumption) ?_
  try simp only [Act.put, List.setIfInBounds_toArray, List.set_cons_zero, List.set_cons_succ]
  refine wpAnyH_take (i := 12) (oi := { dst := some 32, op := Op.load 3 (Operand.tmp 31), type := 3, pos := "disk.go:166", after := #[{ on := 11, ground := Ground.data }, { on := 2, ground := Ground.guard }], guard := some (2, false) }) (v := undef) rfl (by kernel_rfl) (by kernel_rfl) (by kernel_rfl) (fun _ _ _ h => h) (Or.inr ⟨by rfl, rfl⟩) (by assumption) ?_
  try simp only [Act.put, List.setIfInBounds_toArray, List.set_cons_zero, List.set_cons_succ]
  refine wpAnyH_take (i := 13) (oi := { dst := some 33, op := Op.binOp BinOp.gtr 3 (Operand.tmp 27) (Operand.tmp 32) 3, type := 4, pos := "disk.go:166", after := #[{ on := 7, ground := Ground.data }, { on := 12, ground := Ground.data }, { on := 2, ground := Ground.guard }], guard := some (2, false) }) (v := undef) rfl (by kernel_rfl) (by kernel_rfl) (by kernel_rfl) (fun _ _ _ h => h) (Or.inr ⟨by rfl, rfl⟩) (by assumption) ?_
  try simp only [Act.put, List.setIfInBounds_toArray, List.set_cons_zero, List.set_cons_succ]
  refine wpAnyH_take (i := 14) (oi := { dst := some 34, op := Op.move (Operand.tmp 33), type := 4, pos := "disk.go:166", after := #[{ on := 13, ground := Ground.data }, { on := 7, ground := Ground.chain }, { on := 2, ground := Ground.guard }], guard := some (2, false) }) (v := undef) rfl (by kernel_rfl) (by kernel_rfl) (by kernel_rfl) (fun _ _ _ h => h) (Or.inr ⟨by rfl, rfl⟩) (by assumption) ?_
  try simp only [Act.put, List.setIfInBounds_toArray, List.set_cons_zero, List.set_cons_succ]
  refine wpAnyH_take (i := 15) (oi := { dst := some 35, op := Op.move (Operand.tmp 0), type := 34, pos := "disk.go:166", after := #[{ on := 14, ground := Ground.guard }], guard := some (14, true) }) (v := undef) rfl (by kernel_rfl) (by kernel_rfl) (by kernel_rfl) (fun _ _ _ h => h) (Or.inr ⟨by rfl, rfl⟩) (by assumption) ?_
  try simp only [Act.put, List.setIfInBounds_toArray, List.set_cons_zero, List.set_cons_succ]
  refine wpAnyH_take (i := 16) (oi := { dst := some 36, op := Op.nilCheck (Operand.tmp 35), type := 0, pos := "disk.go:166", after := #[{ on := 15, ground := Ground.data }, { on := 14, ground := Ground.guard }], guard := some (14, true) }) (v := undef) rfl (by kernel_rfl) (by kernel_rfl) (by kernel_rfl) (fun _ _ _ h => h) (Or.inr ⟨by rfl, rfl⟩) (by assumption) ?_
  try simp only [Act.put, List.setIfInBounds_toArray, List.set_cons_zero, List.set_cons_succ]
  refine wpAnyH_take (i := 17) (oi := { dst := some 37, op := Op.fieldAddr 81 (Operand.tmp 36) 4, type := 0, pos := "disk.go:166", after := #[{ on := 16, ground := Ground.data }, { on := 14, ground := Ground.guard }], guard := some (14, true) }) (v := undef) rfl (by kernel_rfl) (by kernel_rfl) (by kernel_rfl) (fun _ _ _ h => h) (Or.inr ⟨by rfl, rfl⟩) (by assumption) ?_
  try simp only [Act.put, List.setIfInBounds_toArray, List.set_cons_zero, List.set_cons_succ]
  refine wpAnyH_take (i := 18) (oi := { dst := some 38, op := Op.load 63 (Operand.tmp 37), type := 63, pos := "disk.go:166", after := #[{ on := 17, ground := Ground.data }, { on := 14, ground := Ground.guard }], guard := some (14, true) }) (v := undef) rfl (by kernel_rfl) (by kernel_rfl) (by kernel_rfl) (fun _ _ _ h => h) (Or.inr ⟨by rfl, rfl⟩) (by assumption) ?_
  try simp only [Act.put, List.setIfInBounds_toArray, List.set_cons_zero, List.set_cons_succ]
  refine wpAnyH_take (i := 19) (oi := { dst := some 39, op := Op.call { callee := Callee.value (Operand.func 119), args := #[Operand.tmp 38, Operand.const (Value.int IntKind.i64 0)], argTypes := #[63, 3] }, type := 3, pos := "disk.go:166", after := #[{ on := 18, ground := Ground.data }, { on := 14, ground := Ground.chain }, { on := 14, ground := Ground.guard }], guard := some (14, true) }) (v := undef) rfl (by kernel_rfl) (by kernel_rfl) (by kernel_rfl) (fun _ _ _ h => h) (Or.inr ⟨by rfl, rfl⟩) (by assumption) ?_
  try simp only [Act.put, List.setIfInBounds_toArray, List.set_cons_zero, List.set_cons_succ]
  refine wpAnyH_take (i := 20) (oi := { dst := some 40, op := Op.binOp BinOp.geq 3 (Operand.tmp 39) (Operand.const (Value.int IntKind.i64 2)) 3, type := 4, pos := "disk.go:166", after := #[{ on := 19, ground := Ground.data }, { on := 14, ground := Ground.guard }], guard := some (14, true) }) (v := undef) rfl (by kernel_rfl) (by kernel_rfl) (by kernel_rfl) (fun _ _ _ h => h) (Or.inr ⟨by rfl, rfl⟩) (by assumption) ?_
  try simp only [Act.put, List.setIfInBounds_toArray, List.set_cons_zero, List.set_cons_succ]
  refine wpAnyH_take (i := 21) (oi := { dst := some 41, op := Op.pick (Operand.tmp 34) (Operand.tmp 40) (Operand.const (Value.bool false)), type := 4, pos := "disk.go:166", after := #[{ on := 14, ground := Ground.data }, { on := 20, ground := Ground.data }, { on := 2, ground := Ground.guard }], guard := some (2, false) }) (v := undef) rfl (by kernel_rfl) (by kernel_rfl) (by kernel_rfl) (fun _ _ _ h => h) (Or.inr ⟨by rfl, rfl⟩) (by assumption) ?_
  try simp only [Act.put, List.setIfInBounds_toArray, List.set_cons_zero, List.set_cons_succ]
  refine wpAnyH_take (i := 22) (oi := { dst := some 42, op := Op.pick (Operand.tmp 22) (Operand.const (Value.bool true)) (Operand.tmp 41), type := 4, pos := "disk.go:166", after := #[{ on := 2, ground := Ground.data }, { on := 21, ground := Ground.data }], guard := none }) (v := ?_) rfl (by kernel_rfl) (by kernel_rfl) (by kernel_rfl) (fun _ _ _ h => h) (Or.inl ⟨by rfl, ?_⟩) (by assumption) ?_
  rotate_left
  · (intro w hSw; (try dsimp only at hSw); (try obtain ⟨hSa, hSb⟩ := hSw); go_simp; try with_reducible rfl)
  try simp only [Act.put, List.setIfInBounds_toArray, List.set_cons_zero, List.set_cons_succ]
  refine wpAnyH_take (i := 23) (oi := { dst := some 4, op := Op.assign (Operand.tmp 42), type := 4, pos := "disk.go:166", after := #[{ on := 22, ground := Ground.data }, { on := 19, ground := Ground.chain }, { on := 0, ground := Ground.phase }, { on := 1, ground := Ground.phase }, { on := 2, ground := Ground.phase }, { on := 3, ground := Ground.phase }, { on := 4, ground := Ground.phase }, { on := 5, ground := Ground.phase }, { on := 6, ground := Ground.phase }, { on := 7, ground := Ground.phase }, { on := 8, ground := Ground.phase }, { on := 9, ground := Ground.phase }, { on := 10, ground := Ground.phase }, { on := 11, ground := Ground.phase }, { on := 12, ground := Ground.phase }, { on := 13, ground := Ground.phase }, { on := 14, ground := Ground.phase }, { on := 15, ground := Ground.phase }, { on := 16, ground := Ground.phase }, { on := 17, ground := Ground.phase }, { on := 18, ground := Ground.phase }, { on := 19, ground := Ground.phase }, { on := 20, ground := Ground.phase }, { on := 21, ground := Ground.phase }, { on := 22, ground := Ground.phase }], guard := none }) (v := ?_) rfl (by kernel_rfl) (by kernel_rfl) (by kernel_rfl) (fun _ _ _ h => h) (Or.inl ⟨by rfl, ?_⟩) (by assumption) ?_
  rotate_left
  · (intro w hSw; (try dsimp only at hSw); (try obtain ⟨hSa, hSb⟩ := hSw); go_simp; try with_reducible rfl)
  try simp only [Act.put, List.setIfInBounds_toArray, List.set_cons_zero, List.set_cons_succ]
  refine wpAnyH_done (by kernel_rfl) ?_ _
  go_wp2
  go_ret
  exact ⟨rfl, HO.out⟩

set_option maxRecDepth 100000 in
set_option maxHeartbeats 8000000 in
theorem may2 (db mb kt kw vb lb off c gb rb sb lo : Nat) (st sw : Nat → Sh) (G : Ge) (s : Sg) (l : List Ln) (cs : Array Value) (hl : gOk l) (hn : 1 ≤ s.n ∧ s.n ≤ 4096) (hro : roB G s l = true) (a1 a2 a3 a6 a7 a8 a9 a10 a11 a12 : Value) (ht : Thr cs 38 [.int .i64 2, a1, a2, a3, .bool true, .bool false, a6, a7, a8, a9, a10, a11, a12]) (w : World) (k : DAt w db G s l cs mb kt kw vb st sw lb off c gb rb sb lo) :
    Calls Tryz.prog 34 #[.pointer (some ⟨db, 0, none⟩), .int .i64 2] w fun e w' => e = .returned (.bool true) ∧ Only (fun _ => False) w w' := by
  have HA := Lib.hid (actors_any db mb kt kw vb lb off c gb rb sb lo st sw G s l cs w k)
  have HR := Lib.hid (ready2 db mb kt kw vb lb off c gb rb sb lo st sw G s l cs hl hn hro 38 a1 a2 a3 a6 a7 a8 a9 a10 a11 a12 ht w k)
  have c131 := (k.cell 131).trans k.ok.off
  have hc := k.map.is.c
  have d1 : decide (8 + G.c + 1 < 2) = false := decide_eq_false (by omega)
  clear k ht hl hn hro
  generalize G.c = gc at *
  go_enter Tryz.func34, Tryz.ntmps34
  go_wp2_with (fail)
  refine HA.out.mono ?_
  rintro e w1 ⟨rfl, rfl⟩
  go_wp2_with (fail)
  refine HR.out.mono ?_
  rintro e w2 ⟨rfl, hO⟩
  have HO := Lib.hid hO
  clear hO
  go_wp2
  go_ret
  exact ⟨rfl, HO.out⟩

set_option maxRecDepth 100000 in
set_option maxHeartbeats 8000000 in
theorem ready1 (db mb kt kw vb lb off c gb rb sb lo : Nat) (st sw : Nat → Sh) (G : Ge) (s : Sg) (l : List Ln) (cs : Array Value) (tb : Nat) (a1 a2 a3 a6 a7 a8 a9 a10 a11 a12 : Value) (ht : Thr cs tb [.int .i64 1, a1, a2, a3, .bool true, .bool false, a6, a7, a8, a9, a10, a11, a12]) (w : World) (k : DAt w db G s l cs mb kt kw vb st sw lb off c gb rb sb lo) :
    Calls Tryz.prog 71 #[.pointer (some ⟨db, 0, none⟩), .pointer (some ⟨db, tb, none⟩)] w fun e w' => e = .returned (.bool true) ∧ Only (fun _ => False) w w' := by
  have c4 := (k.cell (tb + 4)).trans (ht 4 (by omega))
  have c0 := (k.cell (tb + 0)).trans (ht 0 (by omega))
  have c5 := (k.cell (tb + 5)).trans (ht 5 (by omega))
  rw [Nat.add_zero] at c0
  simp only [List.getElem?_cons_zero, List.getElem?_cons_succ] at c0 c4 c5
  clear k ht
  go_enter Tryz.func71, Tryz.ntmps71
  go_wp2
  go_ret
  exact ⟨rfl, Only.refl _ _⟩

set_option maxRecDepth 100000 in
set_option maxHeartbeats 8000000 in
theorem may3 (db mb kt kw vb lb off c gb rb sb lo : Nat) (st sw : Nat → Sh) (G : Ge) (s : Sg) (l : List Ln) (cs : Array Value) (a1 a2 a3 a6 a7 a8 a9 a10 a11 a12 : Value) (ht : Thr cs 51 [.int .i64 1, a1, a2, a3, .bool true, .bool false, a6, a7, a8, a9, a10, a11, a12]) (w : World) (k : DAt w db G s l cs mb kt kw vb st sw lb off c gb rb sb lo) :
    Calls Tryz.prog 34 #[.pointer (some ⟨db, 0, none⟩), .int .i64 3] w fun e w' => e = .returned (.bool true) ∧ Only (fun _ => False) w w' := by
  have HA := Lib.hid (actors_any db mb kt kw vb lb off c gb rb sb lo st sw G s l cs w k)
  have HR := Lib.hid (ready1 db mb kt kw vb lb off c gb rb sb lo st sw G s l cs 51 a1 a2 a3 a6 a7 a8 a9 a10 a11 a12 ht w k)
  have c131 := (k.cell 131).trans k.ok.off
  have hc := k.map.is.c
  have d1 : decide (8 + G.c + 1 < 3) = false := decide_eq_false (by omega)
  clear k ht
  generalize G.c = gc at *
  go_enter Tryz.func34, Tryz.ntmps34
  go_wp2_with (fail)
  refine HA.out.mono ?_
  rintro e w1 ⟨rfl, rfl⟩
  go_wp2_with (fail)
  refine HR.out.mono ?_
  rintro e w2 ⟨rfl, hO⟩
  have HO := Lib.hid hO
  clear hO
  go_wp2
  go_ret
  exact ⟨rfl, HO.out⟩

set_option maxRecDepth 100000 in
set_option maxHeartbeats 8000000 in
theorem ready4 (db mb kt kw vb lb off c gb rb sb lo : Nat) (st sw : Nat → Sh) (G : Ge) (s : Sg) (l : List Ln) (cs : Array Value) (tb : Nat) (a1 a2 a3 a6 a7 a8 a9 a10 a11 a12 : Value) (ht : Thr cs tb [.int .i64 4, a1, a2, a3, .bool true, .bool false, a6, a7, a8, a9, a10, a11, a12]) (w : World) (k : DAt w db G s l cs mb kt kw vb st sw lb off c gb rb sb lo) :
    Calls Tryz.prog 71 #[.pointer (some ⟨db, 0, none⟩), .pointer (some ⟨db, tb, none⟩)] w fun e w' => e = .returned (.bool true) ∧ Only (fun _ => False) w w' := by
  have c4 := (k.cell (tb + 4)).trans (ht 4 (by omega))
  have c0 := (k.cell (tb + 0)).trans (ht 0 (by omega))
  have c5 := (k.cell (tb + 5)).trans (ht 5 (by omega))
  rw [Nat.add_zero] at c0
  simp only [List.getElem?_cons_zero, List.getElem?_cons_succ] at c0 c4 c5
  clear k ht
  go_enter Tryz.func71, Tryz.ntmps71
  go_wp2
  go_ret
  exact ⟨rfl, Only.refl _ _⟩

set_option maxRecDepth 100000 in
set_option maxHeartbeats 8000000 in
theorem may4 (db mb kt kw vb lb off c gb rb sb lo : Nat) (st sw : Nat → Sh) (G : Ge) (s : Sg) (l : List Ln) (cs : Array Value) (a1 a2 a3 a6 a7 a8 a9 a10 a11 a12 : Value) (ht : Thr cs 64 [.int .i64 4, a1, a2, a3, .bool true, .bool false, a6, a7, a8, a9, a10, a11, a12]) (w : World) (k : DAt w db G s l cs mb kt kw vb st sw lb off c gb rb sb lo) :
    Calls Tryz.prog 34 #[.pointer (some ⟨db, 0, none⟩), .int .i64 4] w fun e w' => e = .returned (.bool true) ∧ Only (fun _ => False) w w' := by
  have HA := Lib.hid (actors_any db mb kt kw vb lb off c gb rb sb lo st sw G s l cs w k)
  have HR := Lib.hid (ready4 db mb kt kw vb lb off c gb rb sb lo st sw G s l cs 64 a1 a2 a3 a6 a7 a8 a9 a10 a11 a12 ht w k)
  have c131 := (k.cell 131).trans k.ok.off
  have hc := k.map.is.c
  have d1 : decide (8 + G.c + 1 < 4) = false := decide_eq_false (by omega)
  clear k ht
  generalize G.c = gc at *
  go_enter Tryz.func34, Tryz.ntmps34
  go_wp2_with (fail)
  refine HA.out.mono ?_
  rintro e w1 ⟨rfl, rfl⟩
  go_wp2_with (fail)
  refine HR.out.mono ?_
  rintro e w2 ⟨rfl, hO⟩
  have HO := Lib.hid hO
  clear hO
  go_wp2
  go_ret
  exact ⟨rfl, HO.out⟩

end Go.Proofs.YtjobaplioidogaaGreat
