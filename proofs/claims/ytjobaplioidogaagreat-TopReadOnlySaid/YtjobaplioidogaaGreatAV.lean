/- Top: places of a small device; the parts of programming a page. -/
import Derived.Test.YtjobaplioidogaaGreatAS
namespace Go.Proofs.YtjobaplioidogaaGreat
open Go.RowKit

/-- The smallest device that is asked for. -/
def gq : Ge := ⟨1, 1, 2, 2, 1⟩
theorem gq_is : gq.Is := ⟨by decide, by decide, by decide, by decide, by decide⟩

set_option maxRecDepth 100000 in
set_option maxHeartbeats 8000000 in
theorem stripe_one (w : World) : Calls Tryz.prog 99 #[.agg #[.int .i64 1, .int .i64 1, .int .i64 2, .int .i64 2, .int .i64 1]] w fun e w' => e = .returned (.int .i64 1) ∧ Only (fun _ => False) w w' := by
  have HU : Hid (∀ W, Calls Tryz.prog 90 #[.agg #[.int .i64 1, .int .i64 1, .int .i64 2, .int .i64 2, .int .i64 1]] W fun e w' => e = .returned (.int .i64 1) ∧ Only (fun _ => False) W w') := Lib.hid (fun W => shUnits_any gq gq_is W)
  have HBs := Lib.hid (At.new w 173 #[.int .i64 1, .int .i64 1, .int .i64 2, .int .i64 2, .int .i64 1]).drew
  have HOs := Lib.hid ((Only.refl (fun _ => False) w).alloc (.cells #[.int .i64 1, .int .i64 1, .int .i64 2, .int .i64 2, .int .i64 1] 173)).drew
  go_enter Tryz.func99, Tryz.ntmps99
  go_upto_region 1 with (fail)
  refine wp_region_held_drew (S := (fun W => (W.cell? ⟨w.heap.size, 0, none⟩ = some (.int .i64 1) ∧ W.cell? ⟨w.heap.size, 1, none⟩ = some (.int .i64 1)) ∧ (W.cell? ⟨w.heap.size, 2, none⟩ = some (.int .i64 2) ∧ W.cell? ⟨w.heap.size, 3, none⟩ = some (.int .i64 2)) ∧ W.cell? ⟨w.heap.size, 4, none⟩ = some (.int .i64 1))) (by kernel_rfl) ?_ (fun hHeld => ?_)
  · exact ⟨⟨HBs.out.cell 0, HBs.out.cell 1⟩, ⟨HBs.out.cell 2, HBs.out.cell 3⟩, HBs.out.cell 4⟩
  refine wpAnyH_take (i := 0) (oi := { dst := some 3, op := Op.load 173 (Operand.tmp 1), type := 173, pos := "geom.go:12", after := #[], guard := none }) (v := ?_) rfl (by kernel_rfl) (by kernel_rfl) (by kernel_rfl) (fun _ _ _ h => h) (Or.inl ⟨by rfl, ?_⟩) (by assumption) ?_
  rotate_left
  · (intro w hSw; (try dsimp only at hSw); (try obtain ⟨hSa, hSb⟩ := hSw); go_simp; try with_reducible rfl)
  try simp only [Act.put, List.setIfInBounds_toArray, List.set_cons_zero, List.set_cons_succ]
  refine wpAnyH_take (i := 2) (oi := { dst := some 5, op := Op.fieldAddr 173 (Operand.tmp 1) 4, type := 0, pos := "geom.go:12", after := #[], guard := none }) (v := ?_) rfl (by kernel_rfl) (by kernel_rfl) (by kernel_rfl) (fun _ _ _ h => h) (Or.inl ⟨by rfl, ?_⟩) (by assumption) ?_
  rotate_left
  · (intro w hSw; (try dsimp only at hSw); (try obtain ⟨hSa, hSb⟩ := hSw); go_simp; try with_reducible rfl)
  try simp only [Act.put, List.setIfInBounds_toArray, List.set_cons_zero, List.set_cons_succ]
  refine wpAnyH_take (i := 3) (oi := { dst := some 6, op := Op.load 3 (Operand.tmp 5), type := 3, pos := "geom.go:12", after := #[{ on := 2, ground := Ground.data }], guard := none }) (v := ?_) rfl (by kernel_rfl) (by kernel_rfl) (by kernel_rfl) (fun _ _ _ h => h) (Or.inl ⟨by rfl, ?_⟩) (by assumption) ?_
  rotate_left
  · (intro w hSw; (try dsimp only at hSw); (try obtain ⟨hSa, hSb⟩ := hSw); go_simp; try with_reducible rfl)
  try simp only [Act.put, List.setIfInBounds_toArray, List.set_cons_zero, List.set_cons_succ]
  refine wpAnyH_ready (rs := [1]) (by kernel_rfl) (by simp) ?_
  refine AllReadyH.cons (o := { dst := some 4, op := Op.call { callee := Callee.value (Operand.func 90), args := #[Operand.tmp 3], argTypes := #[173] }, type := 3, pos := "geom.go:12", after := #[{ on := 0, ground := Ground.data }], guard := none }) rfl (fun K hK => ?_) AllReadyH.nil
  go_simp
  refine (HU.out _).mono ?_
  rintro e ww_1 ⟨rfl, hO⟩
  have HB_1 := Lib.hid (HBs.out.only hO id)
  have HO_1 := Lib.hid (HOs.out.trans hO)
  try clear hO
  try simp only []
  refine hK.out _ _ ?_ (fun hHeld => ?_)
  · exact ⟨⟨HB_1.out.cell 0, HB_1.out.cell 1⟩, ⟨HB_1.out.cell 2, HB_1.out.cell 3⟩, HB_1.out.cell 4⟩
  clear hK K
  try simp only [Act.put, List.setIfInBounds_toArray, List.set_cons_zero, List.set_cons_succ]
  refine wpAnyH_take (i := 4) (oi := { dst := some 7, op := Op.binOp BinOp.mul 3 (Operand.tmp 4) (Operand.tmp 6) 3, type := 3, pos := "geom.go:12", after := #[{ on := 1, ground := Ground.data }, { on := 3, ground := Ground.data }], guard := none }) (v := ?_) rfl (by kernel_rfl) (by kernel_rfl) (by kernel_rfl) (fun _ _ _ h => h) (Or.inl ⟨by rfl, ?_⟩) (by assumption) ?_
  rotate_left
  · (intro w hSw; (try dsimp only at hSw); (try obtain ⟨hSa, hSb⟩ := hSw); go_simp; try with_reducible rfl)
  try simp only [Act.put, List.setIfInBounds_toArray, List.set_cons_zero, List.set_cons_succ]
  refine wpAnyH_take (i := 5) (oi := { dst := some 2, op := Op.assign (Operand.tmp 7), type := 3, pos := "geom.go:12", after := #[{ on := 4, ground := Ground.data }, { on := 1, ground := Ground.chain }, { on := 0, ground := Ground.phase }, { on := 1, ground := Ground.phase }, { on := 2, ground := Ground.phase }, { on := 3, ground := Ground.phase }, { on := 4, ground := Ground.phase }], guard := none }) (v := ?_) rfl (by kernel_rfl) (by kernel_rfl) (by kernel_rfl) (fun _ _ _ h => h) (Or.inl ⟨by rfl, ?_⟩) (by assumption) ?_
  rotate_left
  · (intro w hSw; (try dsimp only at hSw); (try obtain ⟨hSa, hSb⟩ := hSw); go_simp; try with_reducible rfl)
  try simp only [Act.put, List.setIfInBounds_toArray, List.set_cons_zero, List.set_cons_succ]
  refine wpAnyH_done (by kernel_rfl) ?_ _
  go_wp2
  go_ret
  exact ⟨rfl, HO_1.out⟩

set_option maxRecDepth 100000 in
set_option maxHeartbeats 16000000 in
theorem of_zero (w : World) : Calls Tryz.prog 100 #[.agg #[.int .i64 1, .int .i64 1, .int .i64 2, .int .i64 2, .int .i64 1], .int .i64 0] w fun e w' => e = .returned (.tuple #[.agg #[.int .i64 0, .int .i64 0, .int .i64 0, .int .i64 0], .int .i64 0]) ∧ Only (fun _ => False) w w' := by
  have HRI : Hid (∀ W, Calls Tryz.prog 37 #[.agg #[.int .i64 1, .int .i64 1, .int .i64 2, .int .i64 2, .int .i64 1]] W fun e w' => e = .returned (.bool true) ∧ Only (fun _ => False) W w') := Lib.hid (fun W => right_any gq gq_is.wf W)
  have HAL : Hid (∀ W, Calls Tryz.prog 159 #[.agg #[.int .i64 1, .int .i64 1, .int .i64 2, .int .i64 2, .int .i64 1]] W fun e w' => e = .returned (.int .i64 4) ∧ Only (fun _ => False) W w') := Lib.hid (fun W => shAll_any gq gq_is W)
  have HAM : Hid (∀ W, Calls Tryz.prog 88 #[.int .i64 0, .int .i64 4] W fun e w' => e = .returned (.bool true) ∧ w' = W) := Lib.hid (fun W => among_any 0 4 W)
  have HLN : Hid (∀ W, Calls Tryz.prog 98 #[.agg #[.int .i64 1, .int .i64 1, .int .i64 2, .int .i64 2, .int .i64 1]] W fun e w' => e = .returned (.int .i64 2) ∧ Only (fun _ => False) W w') := Lib.hid (fun W => shLine_any gq gq_is W)
  have HUN : Hid (∀ W, Calls Tryz.prog 90 #[.agg #[.int .i64 1, .int .i64 1, .int .i64 2, .int .i64 2, .int .i64 1]] W fun e w' => e = .returned (.int .i64 1) ∧ Only (fun _ => False) W w') := Lib.hid (fun W => shUnits_any gq gq_is W)
  have HST := Lib.hid (fun W => stripe_one W)
  have hB := (At.new w 23 #[.int .i64 1, .int .i64 1, .int .i64 2, .int .i64 2, .int .i64 1]).alloc (.cells #[.int .i64 0, .int .i64 0, .int .i64 0, .int .i64 0] 120)
  have HT : Hid (At ((w.alloc (.cells #[.int .i64 1, .int .i64 1, .int .i64 2, .int .i64 2, .int .i64 1] 23)).alloc (.cells #[.int .i64 0, .int .i64 0, .int .i64 0, .int .i64 0] 120)) (w.heap.size + 1) 120 #[.int .i64 0, .int .i64 0, .int .i64 0, .int .i64 0]) := Lib.hid (At.new' (by simp) 120 _)
  have HB := Lib.hid hB
  have HO := Lib.hid (((Only.refl (fun _ => False) w).alloc (.cells #[.int .i64 1, .int .i64 1, .int .i64 2, .int .i64 2, .int .i64 1] 23)).alloc (.cells #[.int .i64 0, .int .i64 0, .int .i64 0, .int .i64 0] 120))
  have b0 := hB.cell 0
  have b1 := hB.cell 1
  have b2 := hB.cell 2
  have b3 := hB.cell 3
  have b4 := hB.cell 4
  simp only [List.getElem?_toArray, List.getElem?_cons_zero, List.getElem?_cons_succ] at b0 b1 b2 b3 b4
  clear hB
  go_enter Tryz.func100, Tryz.ntmps100
  go_wp2_with (fail)
  refine (HRI.out _).mono ?_
  rintro e w1 ⟨rfl, hO⟩
  have hB := HB.out.only hO id
  clear b0 b1 b2 b3 b4
  have b0 := hB.cell 0
  have b1 := hB.cell 1
  have b2 := hB.cell 2
  have b3 := hB.cell 3
  have b4 := hB.cell 4
  simp only [List.getElem?_toArray, List.getElem?_cons_zero, List.getElem?_cons_succ] at b0 b1 b2 b3 b4
  have HNE := Lib.hid (show w.heap.size + 1 < w1.heap.size from Nat.lt_of_lt_of_le HT.out.lt hO.size)
  have oa := hO.alloc (.cells #[.int .i64 1, .int .i64 1, .int .i64 2, .int .i64 2, .int .i64 1] 173)
  have HO1 := Lib.hid (HO.out.trans oa)
  have HT1 := Lib.hid (HT.out.only oa id)
  have hS := At.new w1 173 #[.int .i64 1, .int .i64 1, .int .i64 2, .int .i64 2, .int .i64 1]
  have HS1 := Lib.hid hS
  have c0 := hS.cell 0
  have c1 := hS.cell 1
  have c2 := hS.cell 2
  have c3 := hS.cell 3
  have c4 := hS.cell 4
  simp only [List.getElem?_toArray, List.getElem?_cons_zero, List.getElem?_cons_succ] at c0 c1 c2 c3 c4
  clear hB hO oa hS
  go_wp2_with (fail)
  clear b0 b1 b2 b3 b4
  refine (HAL.out _).mono ?_
  rintro e w2 ⟨rfl, hO⟩
  have hS := HS1.out.only hO id
  have HS2 := Lib.hid hS
  have HO2 := Lib.hid (HO1.out.trans hO)
  have HT2 := Lib.hid (HT1.out.only hO id)
  clear c0 c1 c2 c3 c4
  have c0 := hS.cell 0
  have c1 := hS.cell 1
  have c2 := hS.cell 2
  have c3 := hS.cell 3
  have c4 := hS.cell 4
  simp only [List.getElem?_toArray, List.getElem?_cons_zero, List.getElem?_cons_succ] at c0 c1 c2 c3 c4
  clear hS hO
  go_wp2_with (fail)
  refine (HAM.out _).mono ?_
  rintro e w3 ⟨rfl, rfl⟩
  go_wp2_with (fail)
  refine (HLN.out _).mono ?_
  rintro e w4 ⟨rfl, hO⟩
  have HSs := Lib.hid (HS2.out.only hO id).drew
  have HOs := Lib.hid (HO2.out.trans hO).drew
  have HTs := Lib.hid (HT2.out.only hO id).drew
  clear c0 c1 c2 c3 c4 hO
  go_upto_region 7 with (fail)
  refine wp_region_held_drew (S := (fun W => (W.cell? ⟨w1.heap.size, 0, none⟩ = some (.int .i64 1) ∧ W.cell? ⟨w1.heap.size, 1, none⟩ = some (.int .i64 1)) ∧ (W.cell? ⟨w1.heap.size, 2, none⟩ = some (.int .i64 2) ∧ W.cell? ⟨w1.heap.size, 3, none⟩ = some (.int .i64 2)) ∧ W.cell? ⟨w1.heap.size, 4, none⟩ = some (.int .i64 1))) (by kernel_rfl) ?_ (fun hHeld => ?_)
  · exact ⟨⟨HSs.out.cell 0, HSs.out.cell 1⟩, ⟨HSs.out.cell 2, HSs.out.cell 3⟩, HSs.out.cell 4⟩
  refine wpAnyH_take (i := 0) (oi := { dst := some 23, op := Op.move (Operand.tmp 7), type := 3, pos := "geom.go:48", after := #[], guard := none }) (v := ?_) rfl (by kernel_rfl) (by kernel_rfl) (by kernel_rfl) (fun _ _ _ h => h) (Or.inl ⟨by rfl, ?_⟩) (by assumption) ?_
  rotate_left
  · (intro w hSw; (try dsimp only at hSw); (try obtain ⟨hSa, hSb⟩ := hSw); go_simp; try with_reducible rfl)
  try simp only [Act.put, List.setIfInBounds_toArray, List.set_cons_zero, List.set_cons_succ]
  refine wpAnyH_take (i := 1) (oi := { dst := some 24, op := Op.fieldAddr 173 (Operand.tmp 6) 4, type := 0, pos := "geom.go:48", after := #[], guard := none }) (v := ?_) rfl (by kernel_rfl) (by kernel_rfl) (by kernel_rfl) (fun _ _ _ h => h) (Or.inl ⟨by rfl, ?_⟩) (by assumption) ?_
  rotate_left
  · (intro w hSw; (try dsimp only at hSw); (try obtain ⟨hSa, hSb⟩ := hSw); go_simp; try with_reducible rfl)
  try simp only [Act.put, List.setIfInBounds_toArray, List.set_cons_zero, List.set_cons_succ]
  refine wpAnyH_take (i := 4) (oi := { dst := some 27, op := Op.load 173 (Operand.tmp 6), type := 173, pos := "geom.go:48", after := #[], guard := none }) (v := ?_) rfl (by kernel_rfl) (by kernel_rfl) (by kernel_rfl) (fun _ _ _ h => h) (Or.inl ⟨by rfl, ?_⟩) (by assumption) ?_
  rotate_left
  · (intro w hSw; (try dsimp only at hSw); (try obtain ⟨hSa, hSb⟩ := hSw); go_simp; try with_reducible rfl)
  try simp only [Act.put, List.setIfInBounds_toArray, List.set_cons_zero, List.set_cons_succ]
  refine wpAnyH_take (i := 7) (oi := { dst := some 30, op := Op.move (Operand.tmp 1), type := 3, pos := "geom.go:48", after := #[], guard := none }) (v := ?_) rfl (by kernel_rfl) (by kernel_rfl) (by kernel_rfl) (fun _ _ _ h => h) (Or.inl ⟨by rfl, ?_⟩) (by assumption) ?_
  rotate_left
  · (intro w hSw; (try dsimp only at hSw); (try obtain ⟨hSa, hSb⟩ := hSw); go_simp; try with_reducible rfl)
  try simp only [Act.put, List.setIfInBounds_toArray, List.set_cons_zero, List.set_cons_succ]
  refine wpAnyH_take (i := 8) (oi := { dst := some 31, op := Op.load 173 (Operand.tmp 6), type := 173, pos := "geom.go:48", after := #[], guard := none }) (v := ?_) rfl (by kernel_rfl) (by kernel_rfl) (by kernel_rfl) (fun _ _ _ h => h) (Or.inl ⟨by rfl, ?_⟩) (by assumption) ?_
  rotate_left
  · (intro w hSw; (try dsimp only at hSw); (try obtain ⟨hSa, hSb⟩ := hSw); go_simp; try with_reducible rfl)
  try simp only [Act.put, List.setIfInBounds_toArray, List.set_cons_zero, List.set_cons_succ]
  refine wpAnyH_take (i := 11) (oi := { dst := some 34, op := Op.move (Operand.tmp 7), type := 3, pos := "geom.go:48", after := #[], guard := none }) (v := ?_) rfl (by kernel_rfl) (by kernel_rfl) (by kernel_rfl) (fun _ _ _ h => h) (Or.inl ⟨by rfl, ?_⟩) (by assumption) ?_
  rotate_left
  · (intro w hSw; (try dsimp only at hSw); (try obtain ⟨hSa, hSb⟩ := hSw); go_simp; try with_reducible rfl)
  try simp only [Act.put, List.setIfInBounds_toArray, List.set_cons_zero, List.set_cons_succ]
  refine wpAnyH_take (i := 12) (oi := { dst := some 35, op := Op.load 173 (Operand.tmp 6), type := 173, pos := "geom.go:48", after := #[], guard := none }) (v := ?_) rfl (by kernel_rfl) (by kernel_rfl) (by kernel_rfl) (fun _ _ _ h => h) (Or.inl ⟨by rfl, ?_⟩) (by assumption) ?_
  rotate_left
  · (intro w hSw; (try dsimp only at hSw); (try obtain ⟨hSa, hSb⟩ := hSw); go_simp; try with_reducible rfl)
  try simp only [Act.put, List.setIfInBounds_toArray, List.set_cons_zero, List.set_cons_succ]
  refine wpAnyH_take (i := 15) (oi := { dst := some 38, op := Op.move (Operand.tmp 7), type := 3, pos := "geom.go:48", after := #[], guard := none }) (v := ?_) rfl (by kernel_rfl) (by kernel_rfl) (by kernel_rfl) (fun _ _ _ h => h) (Or.inl ⟨by rfl, ?_⟩) (by assumption) ?_
  rotate_left
  · (intro w hSw; (try dsimp only at hSw); (try obtain ⟨hSa, hSb⟩ := hSw); go_simp; try with_reducible rfl)
  try simp only [Act.put, List.setIfInBounds_toArray, List.set_cons_zero, List.set_cons_succ]
  refine wpAnyH_take (i := 16) (oi := { dst := some 39, op := Op.fieldAddr 173 (Operand.tmp 6) 4, type := 0, pos := "geom.go:48", after := #[], guard := none }) (v := ?_) rfl (by kernel_rfl) (by kernel_rfl) (by kernel_rfl) (fun _ _ _ h => h) (Or.inl ⟨by rfl, ?_⟩) (by assumption) ?_
  rotate_left
  · (intro w hSw; (try dsimp only at hSw); (try obtain ⟨hSa, hSb⟩ := hSw); go_simp; try with_reducible rfl)
  try simp only [Act.put, List.setIfInBounds_toArray, List.set_cons_zero, List.set_cons_succ]
  refine wpAnyH_take (i := 2) (oi := { dst := some 25, op := Op.load 3 (Operand.tmp 24), type := 3, pos := "geom.go:48", after := #[{ on := 1, ground := Ground.data }], guard := none }) (v := ?_) rfl (by kernel_rfl) (by kernel_rfl) (by kernel_rfl) (fun _ _ _ h => h) (Or.inl ⟨by rfl, ?_⟩) (by assumption) ?_
  rotate_left
  · (intro w hSw; (try dsimp only at hSw); (try obtain ⟨hSa, hSb⟩ := hSw); go_simp; try with_reducible rfl)
  try simp only [Act.put, List.setIfInBounds_toArray, List.set_cons_zero, List.set_cons_succ]
  refine wpAnyH_take (i := 17) (oi := { dst := some 40, op := Op.load 3 (Operand.tmp 39), type := 3, pos := "geom.go:48", after := #[{ on := 16, ground := Ground.data }], guard := none }) (v := ?_) rfl (by kernel_rfl) (by kernel_rfl) (by kernel_rfl) (fun _ _ _ h => h) (Or.inl ⟨by rfl, ?_⟩) (by assumption) ?_
  rotate_left
  · (intro w hSw; (try dsimp only at hSw); (try obtain ⟨hSa, hSb⟩ := hSw); go_simp; try with_reducible rfl)
  try simp only [Act.put, List.setIfInBounds_toArray, List.set_cons_zero, List.set_cons_succ]
  refine wpAnyH_take (i := 3) (oi := { dst := some 26, op := Op.binOp BinOp.quo 3 (Operand.tmp 23) (Operand.tmp 25) 3, type := 3, pos := "geom.go:48", after := #[{ on := 0, ground := Ground.data }, { on := 2, ground := Ground.data }], guard := none }) (v := ?_) rfl (by kernel_rfl) (by kernel_rfl) (by kernel_rfl) (fun _ _ _ h => h) (Or.inl ⟨by rfl, ?_⟩) (by assumption) ?_
  rotate_left
  · (intro w hSw; (try dsimp only at hSw); (try obtain ⟨hSa, hSb⟩ := hSw); go_simp; try with_reducible rfl)
  try simp only [Act.put, List.setIfInBounds_toArray, List.set_cons_zero, List.set_cons_succ]
  refine wpAnyH_take (i := 18) (oi := { dst := some 41, op := Op.binOp BinOp.rem 3 (Operand.tmp 38) (Operand.tmp 40) 3, type := 3, pos := "geom.go:48", after := #[{ on := 15, ground := Ground.data }, { on := 17, ground := Ground.data }], guard := none }) (v := ?_) rfl (by kernel_rfl) (by kernel_rfl) (by kernel_rfl) (fun _ _ _ h => h) (Or.inl ⟨by rfl, ?_⟩) (by assumption) ?_
  rotate_left
  · (intro w hSw; (try dsimp only at hSw); (try obtain ⟨hSa, hSb⟩ := hSw); go_simp; try with_reducible rfl)
  try simp only [Act.put, List.setIfInBounds_toArray, List.set_cons_zero, List.set_cons_succ]
  refine wpAnyH_ready (rs := [5]) (by kernel_rfl) (by simp) ?_
  refine AllReadyH.cons (o := { dst := some 28, op := Op.call { callee := Callee.value (Operand.func 90), args := #[Operand.tmp 27], argTypes := #[173] }, type := 3, pos := "geom.go:49", after := #[{ on := 4, ground := Ground.data }], guard := none }) rfl (fun K hK => ?_) AllReadyH.nil
  go_simp
  refine (HUN.out _).mono ?_
  rintro e ww_1 ⟨rfl, hO⟩
  have HS_1 := Lib.hid (HSs.out.only hO id)
  have HO_1 := Lib.hid (HOs.out.trans hO)
  have HT_1 := Lib.hid (HTs.out.only hO id)
  try clear hO
  try simp only []
  refine hK.out _ _ ?_ (fun hHeld => ?_)
  · exact ⟨⟨HS_1.out.cell 0, HS_1.out.cell 1⟩, ⟨HS_1.out.cell 2, HS_1.out.cell 3⟩, HS_1.out.cell 4⟩
  clear hK K
  try simp only [Act.put, List.setIfInBounds_toArray, List.set_cons_zero, List.set_cons_succ]
  refine wpAnyH_take (i := 6) (oi := { dst := some 29, op := Op.binOp BinOp.rem 3 (Operand.tmp 26) (Operand.tmp 28) 3, type := 3, pos := "geom.go:48", after := #[{ on := 3, ground := Ground.data }, { on := 5, ground := Ground.data }], guard := none }) (v := ?_) rfl (by kernel_rfl) (by kernel_rfl) (by kernel_rfl) (fun _ _ _ h => h) (Or.inl ⟨by rfl, ?_⟩) (by assumption) ?_
  rotate_left
  · (intro w hSw; (try dsimp only at hSw); (try obtain ⟨hSa, hSb⟩ := hSw); go_simp; try with_reducible rfl)
  try simp only [Act.put, List.setIfInBounds_toArray, List.set_cons_zero, List.set_cons_succ]
  refine wpAnyH_ready (rs := [9]) (by kernel_rfl) (by simp) ?_
  refine AllReadyH.cons (o := { dst := some 32, op := Op.call { callee := Callee.value (Operand.func 98), args := #[Operand.tmp 31], argTypes := #[173] }, type := 3, pos := "geom.go:50", after := #[{ on := 8, ground := Ground.data }, { on := 5, ground := Ground.chain }], guard := none }) rfl (fun K hK => ?_) AllReadyH.nil
  go_simp
  refine (HLN.out _).mono ?_
  rintro e ww_2 ⟨rfl, hO⟩
  have HS_2 := Lib.hid (HS_1.out.only hO id)
  have HO_2 := Lib.hid (HO_1.out.trans hO)
  have HT_2 := Lib.hid (HT_1.out.only hO id)
  try clear hO
  try simp only []
  refine hK.out _ _ ?_ (fun hHeld => ?_)
  · exact ⟨⟨HS_2.out.cell 0, HS_2.out.cell 1⟩, ⟨HS_2.out.cell 2, HS_2.out.cell 3⟩, HS_2.out.cell 4⟩
  clear hK K
  try simp only [Act.put, List.setIfInBounds_toArray, List.set_cons_zero, List.set_cons_succ]
  refine wpAnyH_take (i := 10) (oi := { dst := some 33, op := Op.binOp BinOp.quo 3 (Operand.tmp 30) (Operand.tmp 32) 3, type := 3, pos := "geom.go:48", after := #[{ on := 7, ground := Ground.data }, { on := 9, ground := Ground.data }], guard := none }) (v := ?_) rfl (by kernel_rfl) (by kernel_rfl) (by kernel_rfl) (fun _ _ _ h => h) (Or.inl ⟨by rfl, ?_⟩) (by assumption) ?_
  rotate_left
  · (intro w hSw; (try dsimp only at hSw); (try obtain ⟨hSa, hSb⟩ := hSw); go_simp; try with_reducible rfl)
  try simp only [Act.put, List.setIfInBounds_toArray, List.set_cons_zero, List.set_cons_succ]
  refine wpAnyH_ready (rs := [13]) (by kernel_rfl) (by simp) ?_
  refine AllReadyH.cons (o := { dst := some 36, op := Op.call { callee := Callee.value (Operand.func 99), args := #[Operand.tmp 35], argTypes := #[173] }, type := 3, pos := "geom.go:51", after := #[{ on := 12, ground := Ground.data }, { on := 9, ground := Ground.chain }], guard := none }) rfl (fun K hK => ?_) AllReadyH.nil
  go_simp
  refine (HST.out _).mono ?_
  rintro e ww_3 ⟨rfl, hO⟩
  have HS_3 := Lib.hid (HS_2.out.only hO id)
  have HO_3 := Lib.hid (HO_2.out.trans hO)
  have HT_3 := Lib.hid (HT_2.out.only hO id)
  try clear hO
  try simp only []
  refine hK.out _ _ ?_ (fun hHeld => ?_)
  · exact ⟨⟨HS_3.out.cell 0, HS_3.out.cell 1⟩, ⟨HS_3.out.cell 2, HS_3.out.cell 3⟩, HS_3.out.cell 4⟩
  clear hK K
  try simp only [Act.put, List.setIfInBounds_toArray, List.set_cons_zero, List.set_cons_succ]
  refine wpAnyH_take (i := 14) (oi := { dst := some 37, op := Op.binOp BinOp.quo 3 (Operand.tmp 34) (Operand.tmp 36) 3, type := 3, pos := "geom.go:48", after := #[{ on := 11, ground := Ground.data }, { on := 13, ground := Ground.data }], guard := none }) (v := ?_) rfl (by kernel_rfl) (by kernel_rfl) (by kernel_rfl) (fun _ _ _ h => h) (Or.inl ⟨by rfl, ?_⟩) (by assumption) ?_
  rotate_left
  · (intro w hSw; (try dsimp only at hSw); (try obtain ⟨hSa, hSb⟩ := hSw); go_simp; try with_reducible rfl)
  try simp only [Act.put, List.setIfInBounds_toArray, List.set_cons_zero, List.set_cons_succ]
  refine wpAnyH_take (i := 19) (oi := { dst := some 42, op := Op.build 120 #[(0, Operand.tmp 29), (1, Operand.tmp 33), (2, Operand.tmp 37), (3, Operand.tmp 41)], type := 120, pos := "geom.go:48", after := #[{ on := 6, ground := Ground.data }, { on := 10, ground := Ground.data }, { on := 14, ground := Ground.data }, { on := 18, ground := Ground.data }], guard := none }) (v := ?_) rfl (by kernel_rfl) (by kernel_rfl) (by kernel_rfl) (fun _ _ _ h => h) (Or.inl ⟨by rfl, ?_⟩) (by assumption) ?_
  rotate_left
  · (intro w hSw; (try dsimp only at hSw); (try obtain ⟨hSa, hSb⟩ := hSw); go_simp; try with_reducible rfl)
  try simp only [Act.put, List.setIfInBounds_toArray, List.set_cons_zero, List.set_cons_succ]
  refine wpAnyH_ready (rs := [20]) (by kernel_rfl) (by simp) ?_
  refine AllReadyH.cons (o := { dst := none, op := Op.store 120 (Operand.tmp 4) (Operand.tmp 42), type := 0, pos := "geom.go:48", after := #[{ on := 19, ground := Ground.data }, { on := 13, ground := Ground.chain }, { on := 0, ground := Ground.phase }, { on := 1, ground := Ground.phase }, { on := 2, ground := Ground.phase }, { on := 3, ground := Ground.phase }, { on := 4, ground := Ground.phase }, { on := 5, ground := Ground.phase }, { on := 6, ground := Ground.phase }, { on := 7, ground := Ground.phase }, { on := 8, ground := Ground.phase }, { on := 9, ground := Ground.phase }, { on := 10, ground := Ground.phase }, { on := 11, ground := Ground.phase }, { on := 12, ground := Ground.phase }, { on := 13, ground := Ground.phase }, { on := 14, ground := Ground.phase }, { on := 15, ground := Ground.phase }, { on := 16, ground := Ground.phase }, { on := 17, ground := Ground.phase }, { on := 18, ground := Ground.phase }, { on := 19, ground := Ground.phase }], guard := none }) rfl (fun K hK => ?_) AllReadyH.nil
  have d0 := HT_3.out.cell 0
  have d1 := HT_3.out.cell 1
  have d2 := HT_3.out.cell 2
  have d3 := HT_3.out.cell 3
  have f0 := HT_3.out.frozen 0
  have f1 := HT_3.out.frozen 1
  have f2 := HT_3.out.frozen 2
  have f3 := HT_3.out.frozen 3
  simp only [List.getElem?_toArray, List.getElem?_cons_zero, List.getElem?_cons_succ] at d0 d1 d2 d3
  go_simp
  clear d0 d1 d2 d3 f0 f1 f2 f3
  have hT := (((HT_3.out.set 0 (.int .i64 0)).set 1 (.int .i64 0)).set 2 (.int .i64 0)).set 3 (.int .i64 0)
  simp only [List.setIfInBounds_toArray, List.set_cons_zero, List.set_cons_succ] at hT
  have HT_4 := Lib.hid hT
  have ho := ((((Only.refl (fun i => i = w.heap.size + 1) ww_3).setCell (p := ⟨w.heap.size + 1, 0, none⟩) (fun _ => rfl) (.int .i64 0)).setCell (p := ⟨w.heap.size + 1, 1, none⟩) (fun _ => rfl) (.int .i64 0)).setCell (p := ⟨w.heap.size + 1, 2, none⟩) (fun _ => rfl) (.int .i64 0)).setCell (p := ⟨w.heap.size + 1, 3, none⟩) (fun _ => rfl) (.int .i64 0)
  have HS_4 := Lib.hid (HS_3.out.only ho (by have h1 := HS1.out.lt; have h2 := HT.out.lt; have h3 := HNE.out; omega))
  have HO_4 := Lib.hid (HO_3.out.trans' ho (S := fun _ => False) (fun i hi e => by omega))
  clear hT ho
  try clear hO
  try simp only []
  refine hK.out _ _ ?_ (fun hHeld => ?_)
  · exact ⟨⟨HS_4.out.cell 0, HS_4.out.cell 1⟩, ⟨HS_4.out.cell 2, HS_4.out.cell 3⟩, HS_4.out.cell 4⟩
  clear hK K
  try simp only [Act.put, List.setIfInBounds_toArray, List.set_cons_zero, List.set_cons_succ]
  refine wpAnyH_take (i := 21) (oi := { dst := some 5, op := Op.assign (Operand.const (Value.int IntKind.i64 0)), type := 41, pos := "geom.go:48", after := #[{ on := 20, ground := Ground.chain }, { on := 0, ground := Ground.phase }, { on := 1, ground := Ground.phase }, { on := 2, ground := Ground.phase }, { on := 3, ground := Ground.phase }, { on := 4, ground := Ground.phase }, { on := 5, ground := Ground.phase }, { on := 6, ground := Ground.phase }, { on := 7, ground := Ground.phase }, { on := 8, ground := Ground.phase }, { on := 9, ground := Ground.phase }, { on := 10, ground := Ground.phase }, { on := 11, ground := Ground.phase }, { on := 12, ground := Ground.phase }, { on := 13, ground := Ground.phase }, { on := 14, ground := Ground.phase }, { on := 15, ground := Ground.phase }, { on := 16, ground := Ground.phase }, { on := 17, ground := Ground.phase }, { on := 18, ground := Ground.phase }, { on := 19, ground := Ground.phase }, { on := 20, ground := Ground.phase }], guard := none }) (v := ?_) rfl (by kernel_rfl) (by kernel_rfl) (by kernel_rfl) (fun _ _ _ h => h) (Or.inl ⟨by rfl, ?_⟩) (by assumption) ?_
  rotate_left
  · (intro w hSw; (try dsimp only at hSw); (try obtain ⟨hSa, hSb⟩ := hSw); go_simp; try with_reducible rfl)
  try simp only [Act.put, List.setIfInBounds_toArray, List.set_cons_zero, List.set_cons_succ]
  refine wpAnyH_done (by kernel_rfl) ?_ _
  go_wp2
  refine bodyPost_ret (v := .tuple #[.agg #[.int .i64 0, .int .i64 0, .int .i64 0, .int .i64 0], .int .i64 0]) (results_row_tmp (p := 4) (u := 5) (ty := 120) rfl _ _ (w.heap.size + 1) 120 #[.int .i64 0, .int .i64 0, .int .i64 0, .int .i64 0] (0, 0) _ rfl HT_4.out Tryz.underlying120 rfl (by kernel_rfl)) rfl ?_
  exact ⟨rfl, HO_4.out⟩
end Go.Proofs.YtjobaplioidogaaGreat

namespace Go.Proofs.YtjobaplioidogaaGreat
open Go.RowKit

set_option maxRecDepth 100000 in
set_option maxHeartbeats 16000000 in
theorem number_zero (w : World) : Calls Tryz.prog 48 #[.agg #[.int .i64 1, .int .i64 1, .int .i64 2, .int .i64 2, .int .i64 1], .agg #[.int .i64 0, .int .i64 0, .int .i64 0, .int .i64 0]] w fun e w' => e = .returned (.tuple #[.int .i64 0, .int .i64 0]) ∧ Only (fun _ => False) w w' := by
  have HRI : Hid (∀ W, Calls Tryz.prog 37 #[.agg #[.int .i64 1, .int .i64 1, .int .i64 2, .int .i64 2, .int .i64 1]] W fun e w' => e = .returned (.bool true) ∧ Only (fun _ => False) W w') := Lib.hid (fun W => right_any gq gq_is.wf W)
  have HA1 : Hid (∀ W, Calls Tryz.prog 88 #[.int .i64 0, .int .i64 1] W fun e w' => e = .returned (.bool true) ∧ w' = W) := Lib.hid (fun W => among_any 0 1 W)
  have HA2 : Hid (∀ W, Calls Tryz.prog 88 #[.int .i64 0, .int .i64 2] W fun e w' => e = .returned (.bool true) ∧ w' = W) := Lib.hid (fun W => among_any 0 2 W)
  have HLN : Hid (∀ W, Calls Tryz.prog 98 #[.agg #[.int .i64 1, .int .i64 1, .int .i64 2, .int .i64 2, .int .i64 1]] W fun e w' => e = .returned (.int .i64 2) ∧ Only (fun _ => False) W w') := Lib.hid (fun W => shLine_any gq gq_is W)
  have HUN : Hid (∀ W, Calls Tryz.prog 90 #[.agg #[.int .i64 1, .int .i64 1, .int .i64 2, .int .i64 2, .int .i64 1]] W fun e w' => e = .returned (.int .i64 1) ∧ Only (fun _ => False) W w') := Lib.hid (fun W => shUnits_any gq gq_is W)
  have HST := Lib.hid (fun W => stripe_one W)
  have HOF := Lib.hid (fun W => of_zero W)
  have hB := (At.new w 23 #[.int .i64 1, .int .i64 1, .int .i64 2, .int .i64 2, .int .i64 1]).alloc (.cells #[.int .i64 0, .int .i64 0, .int .i64 0, .int .i64 0] 120)
  have HP : Hid (At ((w.alloc (.cells #[.int .i64 1, .int .i64 1, .int .i64 2, .int .i64 2, .int .i64 1] 23)).alloc (.cells #[.int .i64 0, .int .i64 0, .int .i64 0, .int .i64 0] 120)) (w.heap.size + 1) 120 #[.int .i64 0, .int .i64 0, .int .i64 0, .int .i64 0]) := Lib.hid (At.new' (by simp) 120 _)
  have HB := Lib.hid hB
  have HO := Lib.hid (((Only.refl (fun _ => False) w).alloc (.cells #[.int .i64 1, .int .i64 1, .int .i64 2, .int .i64 2, .int .i64 1] 23)).alloc (.cells #[.int .i64 0, .int .i64 0, .int .i64 0, .int .i64 0] 120))
  have b0 := hB.cell 0
  have b1 := hB.cell 1
  have b2 := hB.cell 2
  have b3 := hB.cell 3
  have b4 := hB.cell 4
  simp only [List.getElem?_toArray, List.getElem?_cons_zero, List.getElem?_cons_succ] at b0 b1 b2 b3 b4
  clear hB
  go_enter Tryz.func48, Tryz.ntmps48
  go_wp2_with (fail)
  refine (HRI.out _).mono ?_
  rintro e w1 ⟨rfl, hO⟩
  have hB := HB.out.only hO id
  clear b0 b1 b2 b3 b4
  have b0 := hB.cell 0
  have b1 := hB.cell 1
  have b2 := hB.cell 2
  have b3 := hB.cell 3
  have b4 := hB.cell 4
  simp only [List.getElem?_toArray, List.getElem?_cons_zero, List.getElem?_cons_succ] at b0 b1 b2 b3 b4
  have oa := hO.alloc (.cells #[.int .i64 1, .int .i64 1, .int .i64 2, .int .i64 2, .int .i64 1] 173)
  have HO1 := Lib.hid (HO.out.trans oa)
  have HP1 := Lib.hid (HP.out.only oa id)
  have HB1 := Lib.hid (HB.out.only oa id)
  have HS1 := Lib.hid (At.new w1 173 #[.int .i64 1, .int .i64 1, .int .i64 2, .int .i64 2, .int .i64 1])
  clear hB hO oa
  go_upto_region 4 with (fail)
  clear b0 b1 b2 b3 b4
  have HSs := Lib.hid HS1.out.drew
  have HPs := Lib.hid HP1.out.drew
  have HBs := Lib.hid HB1.out.drew
  have HOs := Lib.hid HO1.out.drew
  refine wp_region_held_drew (S := (fun W => ((W.cell? ⟨w1.heap.size, 0, none⟩ = some (.int .i64 1) ∧ W.cell? ⟨w1.heap.size, 1, none⟩ = some (.int .i64 1)) ∧ (W.cell? ⟨w1.heap.size, 2, none⟩ = some (.int .i64 2) ∧ W.cell? ⟨w1.heap.size, 3, none⟩ = some (.int .i64 2)) ∧ W.cell? ⟨w1.heap.size, 4, none⟩ = some (.int .i64 1)) ∧ ((W.cell? ⟨w.heap.size + 1, 0, none⟩ = some (.int .i64 0) ∧ W.cell? ⟨w.heap.size + 1, 1, none⟩ = some (.int .i64 0)) ∧ (W.cell? ⟨w.heap.size + 1, 2, none⟩ = some (.int .i64 0) ∧ W.cell? ⟨w.heap.size + 1, 3, none⟩ = some (.int .i64 0))))) (by kernel_rfl) ?_ (fun hHeld => ?_)
  · exact ⟨⟨⟨HSs.out.cell 0, HSs.out.cell 1⟩, ⟨HSs.out.cell 2, HSs.out.cell 3⟩, HSs.out.cell 4⟩, ⟨HPs.out.cell 0, HPs.out.cell 1⟩, ⟨HPs.out.cell 2, HPs.out.cell 3⟩⟩
  refine wpAnyH_take (i := 0) (oi := { dst := some 14, op := Op.fieldAddr 120 (Operand.tmp 3) 0, type := 0, pos := "geom.go:62", after := #[], guard := none }) (v := ?_) rfl (by kernel_rfl) (by kernel_rfl) (by kernel_rfl) (fun _ _ _ h => h) (Or.inl ⟨by rfl, ?_⟩) (by assumption) ?_
  rotate_left
  · (intro w hSw; (try dsimp only at hSw); (try obtain ⟨hSa, hSb⟩ := hSw); go_simp; try with_reducible rfl)
  try simp only [Act.put, List.setIfInBounds_toArray, List.set_cons_zero, List.set_cons_succ]
  refine wpAnyH_take (i := 2) (oi := { dst := some 16, op := Op.load 173 (Operand.tmp 6), type := 173, pos := "geom.go:62", after := #[], guard := none }) (v := ?_) rfl (by kernel_rfl) (by kernel_rfl) (by kernel_rfl) (fun _ _ _ h => h) (Or.inl ⟨by rfl, ?_⟩) (by assumption) ?_
  rotate_left
  · (intro w hSw; (try dsimp only at hSw); (try obtain ⟨hSa, hSb⟩ := hSw); go_simp; try with_reducible rfl)
  try simp only [Act.put, List.setIfInBounds_toArray, List.set_cons_zero, List.set_cons_succ]
  refine wpAnyH_take (i := 1) (oi := { dst := some 15, op := Op.load 3 (Operand.tmp 14), type := 3, pos := "geom.go:62", after := #[{ on := 0, ground := Ground.data }], guard := none }) (v := ?_) rfl (by kernel_rfl) (by kernel_rfl) (by kernel_rfl) (fun _ _ _ h => h) (Or.inl ⟨by rfl, ?_⟩) (by assumption) ?_
  rotate_left
  · (intro w hSw; (try dsimp only at hSw); (try obtain ⟨hSa, hSb⟩ := hSw); go_simp; try with_reducible rfl)
  try simp only [Act.put, List.setIfInBounds_toArray, List.set_cons_zero, List.set_cons_succ]
  refine wpAnyH_ready (rs := [3]) (by kernel_rfl) (by simp) ?_
  refine AllReadyH.cons (o := { dst := some 17, op := Op.call { callee := Callee.value (Operand.func 90), args := #[Operand.tmp 16], argTypes := #[173] }, type := 3, pos := "geom.go:62", after := #[{ on := 2, ground := Ground.data }], guard := none }) rfl (fun K hK => ?_) AllReadyH.nil
  go_simp
  refine (HUN.out _).mono ?_
  rintro e ww_1 ⟨rfl, hO⟩
  have HB_1 := Lib.hid (HBs.out.only hO id)
  have HO_1 := Lib.hid (HOs.out.trans hO)
  have HS_1 := Lib.hid (HSs.out.only hO id)
  have HP_1 := Lib.hid (HPs.out.only hO id)
  try clear hO
  try simp only []
  refine hK.out _ _ ?_ (fun hHeld => ?_)
  · exact ⟨⟨⟨HS_1.out.cell 0, HS_1.out.cell 1⟩, ⟨HS_1.out.cell 2, HS_1.out.cell 3⟩, HS_1.out.cell 4⟩, ⟨HP_1.out.cell 0, HP_1.out.cell 1⟩, ⟨HP_1.out.cell 2, HP_1.out.cell 3⟩⟩
  clear hK K
  try simp only [Act.put, List.setIfInBounds_toArray, List.set_cons_zero, List.set_cons_succ]
  refine wpAnyH_ready (rs := [4]) (by kernel_rfl) (by simp) ?_
  refine AllReadyH.cons (o := { dst := some 18, op := Op.call { callee := Callee.value (Operand.func 88), args := #[Operand.tmp 15, Operand.tmp 17], argTypes := #[3, 3] }, type := 4, pos := "geom.go:62", after := #[{ on := 1, ground := Ground.data }, { on := 3, ground := Ground.data }, { on := 3, ground := Ground.chain }], guard := none }) rfl (fun K hK => ?_) AllReadyH.nil
  go_simp
  refine (HA1.out _).mono ?_
  rintro e ww_2 ⟨rfl, rfl⟩
  have hO := Only.refl (fun _ => False) ww_2
  have HB_2 := Lib.hid (HB_1.out.only hO id)
  have HO_2 := Lib.hid (HO_1.out.trans hO)
  have HS_2 := Lib.hid (HS_1.out.only hO id)
  have HP_2 := Lib.hid (HP_1.out.only hO id)
  try clear hO
  try simp only []
  refine hK.out _ _ ?_ (fun hHeld => ?_)
  · exact ⟨⟨⟨HS_2.out.cell 0, HS_2.out.cell 1⟩, ⟨HS_2.out.cell 2, HS_2.out.cell 3⟩, HS_2.out.cell 4⟩, ⟨HP_2.out.cell 0, HP_2.out.cell 1⟩, ⟨HP_2.out.cell 2, HP_2.out.cell 3⟩⟩
  clear hK K
  try simp only [Act.put, List.setIfInBounds_toArray, List.set_cons_zero, List.set_cons_succ]
  refine wpAnyH_take (i := 5) (oi := { dst := some 19, op := Op.unOp UnOp.not 4 (Operand.tmp 18), type := 4, pos := "geom.go:62", after := #[{ on := 4, ground := Ground.data }], guard := none }) (v := ?_) rfl (by kernel_rfl) (by kernel_rfl) (by kernel_rfl) (fun _ _ _ h => h) (Or.inl ⟨by rfl, ?_⟩) (by assumption) ?_
  rotate_left
  · (intro w hSw; (try dsimp only at hSw); (try obtain ⟨hSa, hSb⟩ := hSw); go_simp; try with_reducible rfl)
  try simp only [Act.put, List.setIfInBounds_toArray, List.set_cons_zero, List.set_cons_succ]
  refine wpAnyH_take (i := 6) (oi := { dst := some 20, op := Op.move (Operand.tmp 19), type := 4, pos := "geom.go:62", after := #[{ on := 5, ground := Ground.data }, { on := 4, ground := Ground.chain }], guard := none }) (v := ?_) rfl (by kernel_rfl) (by kernel_rfl) (by kernel_rfl) (fun _ _ _ h => h) (Or.inl ⟨by rfl, ?_⟩) (by assumption) ?_
  rotate_left
  · (intro w hSw; (try dsimp only at hSw); (try obtain ⟨hSa, hSb⟩ := hSw); go_simp; try with_reducible rfl)
  try simp only [Act.put, List.setIfInBounds_toArray, List.set_cons_zero, List.set_cons_succ]
  refine wpAnyH_take (i := 7) (oi := { dst := some 21, op := Op.fieldAddr 120 (Operand.tmp 3) 1, type := 0, pos := "geom.go:62", after := #[{ on := 6, ground := Ground.guard }], guard := some (6, false) }) (v := ?_) rfl (by kernel_rfl) (by kernel_rfl) (by kernel_rfl) (fun _ _ _ h => h) (Or.inl ⟨by rfl, ?_⟩) (by assumption) ?_
  rotate_left
  · (intro w hSw; (try dsimp only at hSw); (try obtain ⟨hSa, hSb⟩ := hSw); go_simp; try with_reducible rfl)
  try simp only [Act.put, List.setIfInBounds_toArray, List.set_cons_zero, List.set_cons_succ]
  refine wpAnyH_take (i := 9) (oi := { dst := some 23, op := Op.fieldAddr 173 (Operand.tmp 6) 2, type := 0, pos := "geom.go:62", after := #[{ on := 6, ground := Ground.guard }], guard := some (6, false) }) (v := ?_) rfl (by kernel_rfl) (by kernel_rfl) (by kernel_rfl) (fun _ _ _ h => h) (Or.inl ⟨by rfl, ?_⟩) (by assumption) ?_
  rotate_left
  · (intro w hSw; (try dsimp only at hSw); (try obtain ⟨hSa, hSb⟩ := hSw); go_simp; try with_reducible rfl)
  try simp only [Act.put, List.setIfInBounds_toArray, List.set_cons_zero, List.set_cons_succ]
  refine wpAnyH_take (i := 8) (oi := { dst := some 22, op := Op.load 3 (Operand.tmp 21), type := 3, pos := "geom.go:62", after := #[{ on := 7, ground := Ground.data }, { on := 6, ground := Ground.guard }], guard := some (6, false) }) (v := ?_) rfl (by kernel_rfl) (by kernel_rfl) (by kernel_rfl) (fun _ _ _ h => h) (Or.inl ⟨by rfl, ?_⟩) (by assumption) ?_
  rotate_left
  · (intro w hSw; (try dsimp only at hSw); (try obtain ⟨hSa, hSb⟩ := hSw); go_simp; try with_reducible rfl)
  try simp only [Act.put, List.setIfInBounds_toArray, List.set_cons_zero, List.set_cons_succ]
  refine wpAnyH_take (i := 10) (oi := { dst := some 24, op := Op.load 3 (Operand.tmp 23), type := 3, pos := "geom.go:62", after := #[{ on := 9, ground := Ground.data }, { on := 6, ground := Ground.guard }], guard := some (6, false) }) (v := ?_) rfl (by kernel_rfl) (by kernel_rfl) (by kernel_rfl) (fun _ _ _ h => h) (Or.inl ⟨by rfl, ?_⟩) (by assumption) ?_
  rotate_left
  · (intro w hSw; (try dsimp only at hSw); (try obtain ⟨hSa, hSb⟩ := hSw); go_simp; try with_reducible rfl)
  try simp only [Act.put, List.setIfInBounds_toArray, List.set_cons_zero, List.set_cons_succ]
  refine wpAnyH_ready (rs := [11]) (by kernel_rfl) (by simp) ?_
  refine AllReadyH.cons (o := { dst := some 25, op := Op.call { callee := Callee.value (Operand.func 88), args := #[Operand.tmp 22, Operand.tmp 24], argTypes := #[3, 3] }, type := 4, pos := "geom.go:62", after := #[{ on := 8, ground := Ground.data }, { on := 10, ground := Ground.data }, { on := 6, ground := Ground.chain }, { on := 6, ground := Ground.guard }], guard := some (6, false) }) rfl (fun K hK => ?_) AllReadyH.nil
  go_simp
  refine (HA2.out _).mono ?_
  rintro e ww_3 ⟨rfl, rfl⟩
  have hO := Only.refl (fun _ => False) ww_3
  have HB_3 := Lib.hid (HB_2.out.only hO id)
  have HO_3 := Lib.hid (HO_2.out.trans hO)
  have HS_3 := Lib.hid (HS_2.out.only hO id)
  have HP_3 := Lib.hid (HP_2.out.only hO id)
  try clear hO
  try simp only []
  refine hK.out _ _ ?_ (fun hHeld => ?_)
  · exact ⟨⟨⟨HS_3.out.cell 0, HS_3.out.cell 1⟩, ⟨HS_3.out.cell 2, HS_3.out.cell 3⟩, HS_3.out.cell 4⟩, ⟨HP_3.out.cell 0, HP_3.out.cell 1⟩, ⟨HP_3.out.cell 2, HP_3.out.cell 3⟩⟩
  clear hK K
  try simp only [Act.put, List.setIfInBounds_toArray, List.set_cons_zero, List.set_cons_succ]
  refine wpAnyH_take (i := 12) (oi := { dst := some 26, op := Op.unOp UnOp.not 4 (Operand.tmp 25), type := 4, pos := "geom.go:62", after := #[{ on := 11, ground := Ground.data }, { on := 6, ground := Ground.guard }], guard := some (6, false) }) (v := ?_) rfl (by kernel_rfl) (by kernel_rfl) (by kernel_rfl) (fun _ _ _ h => h) (Or.inl ⟨by rfl, ?_⟩) (by assumption) ?_
  rotate_left
  · (intro w hSw; (try dsimp only at hSw); (try obtain ⟨hSa, hSb⟩ := hSw); go_simp; try with_reducible rfl)
  try simp only [Act.put, List.setIfInBounds_toArray, List.set_cons_zero, List.set_cons_succ]
  refine wpAnyH_take (i := 13) (oi := { dst := some 27, op := Op.pick (Operand.tmp 20) (Operand.const (Value.bool true)) (Operand.tmp 26), type := 4, pos := "geom.go:62", after := #[{ on := 6, ground := Ground.data }, { on := 12, ground := Ground.data }], guard := none }) (v := ?_) rfl (by kernel_rfl) (by kernel_rfl) (by kernel_rfl) (fun _ _ _ h => h) (Or.inl ⟨by rfl, ?_⟩) (by assumption) ?_
  rotate_left
  · (intro w hSw; (try dsimp only at hSw); (try obtain ⟨hSa, hSb⟩ := hSw); go_simp; try with_reducible rfl)
  try simp only [Act.put, List.setIfInBounds_toArray, List.set_cons_zero, List.set_cons_succ]
  refine wpAnyH_take (i := 14) (oi := { dst := some 28, op := Op.move (Operand.tmp 27), type := 4, pos := "geom.go:62", after := #[{ on := 13, ground := Ground.data }, { on := 11, ground := Ground.chain }], guard := none }) (v := ?_) rfl (by kernel_rfl) (by kernel_rfl) (by kernel_rfl) (fun _ _ _ h => h) (Or.inl ⟨by rfl, ?_⟩) (by assumption) ?_
  rotate_left
  · (intro w hSw; (try dsimp only at hSw); (try obtain ⟨hSa, hSb⟩ := hSw); go_simp; try with_reducible rfl)
  try simp only [Act.put, List.setIfInBounds_toArray, List.set_cons_zero, List.set_cons_succ]
  refine wpAnyH_take (i := 15) (oi := { dst := some 29, op := Op.fieldAddr 120 (Operand.tmp 3) 2, type := 0, pos := "geom.go:62", after := #[{ on := 14, ground := Ground.guard }], guard := some (14, false) }) (v := ?_) rfl (by kernel_rfl) (by kernel_rfl) (by kernel_rfl) (fun _ _ _ h => h) (Or.inl ⟨by rfl, ?_⟩) (by assumption) ?_
  rotate_left
  · (intro w hSw; (try dsimp only at hSw); (try obtain ⟨hSa, hSb⟩ := hSw); go_simp; try with_reducible rfl)
  try simp only [Act.put, List.setIfInBounds_toArray, List.set_cons_zero, List.set_cons_succ]
  refine wpAnyH_take (i := 17) (oi := { dst := some 31, op := Op.fieldAddr 173 (Operand.tmp 6) 3, type := 0, pos := "geom.go:62", after := #[{ on := 14, ground := Ground.guard }], guard := some (14, false) }) (v := ?_) rfl (by kernel_rfl) (by kernel_rfl) (by kernel_rfl) (fun _ _ _ h => h) (Or.inl ⟨by rfl, ?_⟩) (by assumption) ?_
  rotate_left
  · (intro w hSw; (try dsimp only at hSw); (try obtain ⟨hSa, hSb⟩ := hSw); go_simp; try with_reducible rfl)
  try simp only [Act.put, List.setIfInBounds_toArray, List.set_cons_zero, List.set_cons_succ]
  refine wpAnyH_take (i := 16) (oi := { dst := some 30, op := Op.load 3 (Operand.tmp 29), type := 3, pos := "geom.go:62", after := #[{ on := 15, ground := Ground.data }, { on := 14, ground := Ground.guard }], guard := some (14, false) }) (v := ?_) rfl (by kernel_rfl) (by kernel_rfl) (by kernel_rfl) (fun _ _ _ h => h) (Or.inl ⟨by rfl, ?_⟩) (by assumption) ?_
  rotate_left
  · (intro w hSw; (try dsimp only at hSw); (try obtain ⟨hSa, hSb⟩ := hSw); go_simp; try with_reducible rfl)
  try simp only [Act.put, List.setIfInBounds_toArray, List.set_cons_zero, List.set_cons_succ]
  refine wpAnyH_take (i := 18) (oi := { dst := some 32, op := Op.load 3 (Operand.tmp 31), type := 3, pos := "geom.go:62", after := #[{ on := 17, ground := Ground.data }, { on := 14, ground := Ground.guard }], guard := some (14, false) }) (v := ?_) rfl (by kernel_rfl) (by kernel_rfl) (by kernel_rfl) (fun _ _ _ h => h) (Or.inl ⟨by rfl, ?_⟩) (by assumption) ?_
  rotate_left
  · (intro w hSw; (try dsimp only at hSw); (try obtain ⟨hSa, hSb⟩ := hSw); go_simp; try with_reducible rfl)
  try simp only [Act.put, List.setIfInBounds_toArray, List.set_cons_zero, List.set_cons_succ]
  refine wpAnyH_ready (rs := [19]) (by kernel_rfl) (by simp) ?_
  refine AllReadyH.cons (o := { dst := some 33, op := Op.call { callee := Callee.value (Operand.func 88), args := #[Operand.tmp 30, Operand.tmp 32], argTypes := #[3, 3] }, type := 4, pos := "geom.go:62", after := #[{ on := 16, ground := Ground.data }, { on := 18, ground := Ground.data }, { on := 14, ground := Ground.chain }, { on := 14, ground := Ground.guard }], guard := some (14, false) }) rfl (fun K hK => ?_) AllReadyH.nil
  go_simp
  refine (HA2.out _).mono ?_
  rintro e ww_4 ⟨rfl, rfl⟩
  have hO := Only.refl (fun _ => False) ww_4
  have HB_4 := Lib.hid (HB_3.out.only hO id)
  have HO_4 := Lib.hid (HO_3.out.trans hO)
  have HS_4 := Lib.hid (HS_3.out.only hO id)
  have HP_4 := Lib.hid (HP_3.out.only hO id)
  try clear hO
  try simp only []
  refine hK.out _ _ ?_ (fun hHeld => ?_)
  · exact ⟨⟨⟨HS_4.out.cell 0, HS_4.out.cell 1⟩, ⟨HS_4.out.cell 2, HS_4.out.cell 3⟩, HS_4.out.cell 4⟩, ⟨HP_4.out.cell 0, HP_4.out.cell 1⟩, ⟨HP_4.out.cell 2, HP_4.out.cell 3⟩⟩
  clear hK K
  try simp only [Act.put, List.setIfInBounds_toArray, List.set_cons_zero, List.set_cons_succ]
  refine wpAnyH_take (i := 20) (oi := { dst := some 34, op := Op.unOp UnOp.not 4 (Operand.tmp 33), type := 4, pos := "geom.go:62", after := #[{ on := 19, ground := Ground.data }, { on := 14, ground := Ground.guard }], guard := some (14, false) }) (v := ?_) rfl (by kernel_rfl) (by kernel_rfl) (by kernel_rfl) (fun _ _ _ h => h) (Or.inl ⟨by rfl, ?_⟩) (by assumption) ?_
  rotate_left
  · (intro w hSw; (try dsimp only at hSw); (try obtain ⟨hSa, hSb⟩ := hSw); go_simp; try with_reducible rfl)
  try simp only [Act.put, List.setIfInBounds_toArray, List.set_cons_zero, List.set_cons_succ]
  refine wpAnyH_take (i := 21) (oi := { dst := some 35, op := Op.pick (Operand.tmp 28) (Operand.const (Value.bool true)) (Operand.tmp 34), type := 4, pos := "geom.go:62", after := #[{ on := 14, ground := Ground.data }, { on := 20, ground := Ground.data }], guard := none }) (v := ?_) rfl (by kernel_rfl) (by kernel_rfl) (by kernel_rfl) (fun _ _ _ h => h) (Or.inl ⟨by rfl, ?_⟩) (by assumption) ?_
  rotate_left
  · (intro w hSw; (try dsimp only at hSw); (try obtain ⟨hSa, hSb⟩ := hSw); go_simp; try with_reducible rfl)
  try simp only [Act.put, List.setIfInBounds_toArray, List.set_cons_zero, List.set_cons_succ]
  refine wpAnyH_take (i := 22) (oi := { dst := some 36, op := Op.move (Operand.tmp 35), type := 4, pos := "geom.go:62", after := #[{ on := 21, ground := Ground.data }, { on := 19, ground := Ground.chain }], guard := none }) (v := ?_) rfl (by kernel_rfl) (by kernel_rfl) (by kernel_rfl) (fun _ _ _ h => h) (Or.inl ⟨by rfl, ?_⟩) (by assumption) ?_
  rotate_left
  · (intro w hSw; (try dsimp only at hSw); (try obtain ⟨hSa, hSb⟩ := hSw); go_simp; try with_reducible rfl)
  try simp only [Act.put, List.setIfInBounds_toArray, List.set_cons_zero, List.set_cons_succ]
  refine wpAnyH_take (i := 23) (oi := { dst := some 37, op := Op.fieldAddr 120 (Operand.tmp 3) 3, type := 0, pos := "geom.go:62", after := #[{ on := 22, ground := Ground.guard }], guard := some (22, false) }) (v := ?_) rfl (by kernel_rfl) (by kernel_rfl) (by kernel_rfl) (fun _ _ _ h => h) (Or.inl ⟨by rfl, ?_⟩) (by assumption) ?_
  rotate_left
  · (intro w hSw; (try dsimp only at hSw); (try obtain ⟨hSa, hSb⟩ := hSw); go_simp; try with_reducible rfl)
  try simp only [Act.put, List.setIfInBounds_toArray, List.set_cons_zero, List.set_cons_succ]
  refine wpAnyH_take (i := 25) (oi := { dst := some 39, op := Op.fieldAddr 173 (Operand.tmp 6) 4, type := 0, pos := "geom.go:62", after := #[{ on := 22, ground := Ground.guard }], guard := some (22, false) }) (v := ?_) rfl (by kernel_rfl) (by kernel_rfl) (by kernel_rfl) (fun _ _ _ h => h) (Or.inl ⟨by rfl, ?_⟩) (by assumption) ?_
  rotate_left
  · (intro w hSw; (try dsimp only at hSw); (try obtain ⟨hSa, hSb⟩ := hSw); go_simp; try with_reducible rfl)
  try simp only [Act.put, List.setIfInBounds_toArray, List.set_cons_zero, List.set_cons_succ]
  refine wpAnyH_take (i := 24) (oi := { dst := some 38, op := Op.load 3 (Operand.tmp 37), type := 3, pos := "geom.go:62", after := #[{ on := 23, ground := Ground.data }, { on := 22, ground := Ground.guard }], guard := some (22, false) }) (v := ?_) rfl (by kernel_rfl) (by kernel_rfl) (by kernel_rfl) (fun _ _ _ h => h) (Or.inl ⟨by rfl, ?_⟩) (by assumption) ?_
  rotate_left
  · (intro w hSw; (try dsimp only at hSw); (try obtain ⟨hSa, hSb⟩ := hSw); go_simp; try with_reducible rfl)
  try simp only [Act.put, List.setIfInBounds_toArray, List.set_cons_zero, List.set_cons_succ]
  refine wpAnyH_take (i := 26) (oi := { dst := some 40, op := Op.load 3 (Operand.tmp 39), type := 3, pos := "geom.go:62", after := #[{ on := 25, ground := Ground.data }, { on := 22, ground := Ground.guard }], guard := some (22, false) }) (v := ?_) rfl (by kernel_rfl) (by kernel_rfl) (by kernel_rfl) (fun _ _ _ h => h) (Or.inl ⟨by rfl, ?_⟩) (by assumption) ?_
  rotate_left
  · (intro w hSw; (try dsimp only at hSw); (try obtain ⟨hSa, hSb⟩ := hSw); go_simp; try with_reducible rfl)
  try simp only [Act.put, List.setIfInBounds_toArray, List.set_cons_zero, List.set_cons_succ]
  refine wpAnyH_ready (rs := [27]) (by kernel_rfl) (by simp) ?_
  refine AllReadyH.cons (o := { dst := some 41, op := Op.call { callee := Callee.value (Operand.func 88), args := #[Operand.tmp 38, Operand.tmp 40], argTypes := #[3, 3] }, type := 4, pos := "geom.go:62", after := #[{ on := 24, ground := Ground.data }, { on := 26, ground := Ground.data }, { on := 22, ground := Ground.chain }, { on := 22, ground := Ground.guard }], guard := some (22, false) }) rfl (fun K hK => ?_) AllReadyH.nil
  go_simp
  refine (HA1.out _).mono ?_
  rintro e ww_5 ⟨rfl, rfl⟩
  have hO := Only.refl (fun _ => False) ww_5
  have HB_5 := Lib.hid (HB_4.out.only hO id)
  have HO_5 := Lib.hid (HO_4.out.trans hO)
  have HS_5 := Lib.hid (HS_4.out.only hO id)
  have HP_5 := Lib.hid (HP_4.out.only hO id)
  try clear hO
  try simp only []
  refine hK.out _ _ ?_ (fun hHeld => ?_)
  · exact ⟨⟨⟨HS_5.out.cell 0, HS_5.out.cell 1⟩, ⟨HS_5.out.cell 2, HS_5.out.cell 3⟩, HS_5.out.cell 4⟩, ⟨HP_5.out.cell 0, HP_5.out.cell 1⟩, ⟨HP_5.out.cell 2, HP_5.out.cell 3⟩⟩
  clear hK K
  try simp only [Act.put, List.setIfInBounds_toArray, List.set_cons_zero, List.set_cons_succ]
  refine wpAnyH_take (i := 28) (oi := { dst := some 42, op := Op.unOp UnOp.not 4 (Operand.tmp 41), type := 4, pos := "geom.go:62", after := #[{ on := 27, ground := Ground.data }, { on := 22, ground := Ground.guard }], guard := some (22, false) }) (v := ?_) rfl (by kernel_rfl) (by kernel_rfl) (by kernel_rfl) (fun _ _ _ h => h) (Or.inl ⟨by rfl, ?_⟩) (by assumption) ?_
  rotate_left
  · (intro w hSw; (try dsimp only at hSw); (try obtain ⟨hSa, hSb⟩ := hSw); go_simp; try with_reducible rfl)
  try simp only [Act.put, List.setIfInBounds_toArray, List.set_cons_zero, List.set_cons_succ]
  refine wpAnyH_take (i := 29) (oi := { dst := some 43, op := Op.pick (Operand.tmp 36) (Operand.const (Value.bool true)) (Operand.tmp 42), type := 4, pos := "geom.go:62", after := #[{ on := 22, ground := Ground.data }, { on := 28, ground := Ground.data }], guard := none }) (v := ?_) rfl (by kernel_rfl) (by kernel_rfl) (by kernel_rfl) (fun _ _ _ h => h) (Or.inl ⟨by rfl, ?_⟩) (by assumption) ?_
  rotate_left
  · (intro w hSw; (try dsimp only at hSw); (try obtain ⟨hSa, hSb⟩ := hSw); go_simp; try with_reducible rfl)
  try simp only [Act.put, List.setIfInBounds_toArray, List.set_cons_zero, List.set_cons_succ]
  refine wpAnyH_done (by kernel_rfl) ?_ _
  go_upto_region 6 with (fail)
  clear HSs HPs HBs HOs
  have HSs := Lib.hid HS_5.out.drew
  have HPs := Lib.hid HP_5.out.drew
  have HBs := Lib.hid HB_5.out.drew
  have HOs := Lib.hid HO_5.out.drew
  refine wp_region_held_drew (S := (fun W => ((W.cell? ⟨w1.heap.size, 0, none⟩ = some (.int .i64 1) ∧ W.cell? ⟨w1.heap.size, 1, none⟩ = some (.int .i64 1)) ∧ (W.cell? ⟨w1.heap.size, 2, none⟩ = some (.int .i64 2) ∧ W.cell? ⟨w1.heap.size, 3, none⟩ = some (.int .i64 2)) ∧ W.cell? ⟨w1.heap.size, 4, none⟩ = some (.int .i64 1)) ∧ ((W.cell? ⟨w.heap.size + 1, 0, none⟩ = some (.int .i64 0) ∧ W.cell? ⟨w.heap.size + 1, 1, none⟩ = some (.int .i64 0)) ∧ (W.cell? ⟨w.heap.size + 1, 2, none⟩ = some (.int .i64 0) ∧ W.cell? ⟨w.heap.size + 1, 3, none⟩ = some (.int .i64 0))))) (by kernel_rfl) ?_ (fun hHeld => ?_)
  · exact ⟨⟨⟨HSs.out.cell 0, HSs.out.cell 1⟩, ⟨HSs.out.cell 2, HSs.out.cell 3⟩, HSs.out.cell 4⟩, ⟨HPs.out.cell 0, HPs.out.cell 1⟩, ⟨HPs.out.cell 2, HPs.out.cell 3⟩⟩
  refine wpAnyH_take (i := 0) (oi := { dst := some 44, op := Op.fieldAddr 120 (Operand.tmp 3) 1, type := 0, pos := "geom.go:65", after := #[], guard := none }) (v := ?_) rfl (by kernel_rfl) (by kernel_rfl) (by kernel_rfl) (fun _ _ _ h => h) (Or.inl ⟨by rfl, ?_⟩) (by assumption) ?_
  rotate_left
  · (intro w hSw; (try dsimp only at hSw); (try obtain ⟨hSa, hSb⟩ := hSw); go_simp; try with_reducible rfl)
  try simp only [Act.put, List.setIfInBounds_toArray, List.set_cons_zero, List.set_cons_succ]
  refine wpAnyH_take (i := 2) (oi := { dst := some 46, op := Op.load 173 (Operand.tmp 6), type := 173, pos := "geom.go:65", after := #[], guard := none }) (v := ?_) rfl (by kernel_rfl) (by kernel_rfl) (by kernel_rfl) (fun _ _ _ h => h) (Or.inl ⟨by rfl, ?_⟩) (by assumption) ?_
  rotate_left
  · (intro w hSw; (try dsimp only at hSw); (try obtain ⟨hSa, hSb⟩ := hSw); go_simp; try with_reducible rfl)
  try simp only [Act.put, List.setIfInBounds_toArray, List.set_cons_zero, List.set_cons_succ]
  refine wpAnyH_take (i := 5) (oi := { dst := some 49, op := Op.fieldAddr 120 (Operand.tmp 3) 2, type := 0, pos := "geom.go:65", after := #[], guard := none }) (v := ?_) rfl (by kernel_rfl) (by kernel_rfl) (by kernel_rfl) (fun _ _ _ h => h) (Or.inl ⟨by rfl, ?_⟩) (by assumption) ?_
  rotate_left
  · (intro w hSw; (try dsimp only at hSw); (try obtain ⟨hSa, hSb⟩ := hSw); go_simp; try with_reducible rfl)
  try simp only [Act.put, List.setIfInBounds_toArray, List.set_cons_zero, List.set_cons_succ]
  refine wpAnyH_take (i := 7) (oi := { dst := some 51, op := Op.load 173 (Operand.tmp 6), type := 173, pos := "geom.go:65", after := #[], guard := none }) (v := ?_) rfl (by kernel_rfl) (by kernel_rfl) (by kernel_rfl) (fun _ _ _ h => h) (Or.inl ⟨by rfl, ?_⟩) (by assumption) ?_
  rotate_left
  · (intro w hSw; (try dsimp only at hSw); (try obtain ⟨hSa, hSb⟩ := hSw); go_simp; try with_reducible rfl)
  try simp only [Act.put, List.setIfInBounds_toArray, List.set_cons_zero, List.set_cons_succ]
  refine wpAnyH_take (i := 11) (oi := { dst := some 55, op := Op.fieldAddr 120 (Operand.tmp 3) 0, type := 0, pos := "geom.go:65", after := #[], guard := none }) (v := ?_) rfl (by kernel_rfl) (by kernel_rfl) (by kernel_rfl) (fun _ _ _ h => h) (Or.inl ⟨by rfl, ?_⟩) (by assumption) ?_
  rotate_left
  · (intro w hSw; (try dsimp only at hSw); (try obtain ⟨hSa, hSb⟩ := hSw); go_simp; try with_reducible rfl)
  try simp only [Act.put, List.setIfInBounds_toArray, List.set_cons_zero, List.set_cons_succ]
  refine wpAnyH_take (i := 13) (oi := { dst := some 57, op := Op.fieldAddr 173 (Operand.tmp 6) 4, type := 0, pos := "geom.go:65", after := #[], guard := none }) (v := ?_) rfl (by kernel_rfl) (by kernel_rfl) (by kernel_rfl) (fun _ _ _ h => h) (Or.inl ⟨by rfl, ?_⟩) (by assumption) ?_
  rotate_left
  · (intro w hSw; (try dsimp only at hSw); (try obtain ⟨hSa, hSb⟩ := hSw); go_simp; try with_reducible rfl)
  try simp only [Act.put, List.setIfInBounds_toArray, List.set_cons_zero, List.set_cons_succ]
  refine wpAnyH_take (i := 17) (oi := { dst := some 61, op := Op.fieldAddr 120 (Operand.tmp 3) 3, type := 0, pos := "geom.go:65", after := #[], guard := none }) (v := ?_) rfl (by kernel_rfl) (by kernel_rfl) (by kernel_rfl) (fun _ _ _ h => h) (Or.inl ⟨by rfl, ?_⟩) (by assumption) ?_
  rotate_left
  · (intro w hSw; (try dsimp only at hSw); (try obtain ⟨hSa, hSb⟩ := hSw); go_simp; try with_reducible rfl)
  try simp only [Act.put, List.setIfInBounds_toArray, List.set_cons_zero, List.set_cons_succ]
  refine wpAnyH_take (i := 1) (oi := { dst := some 45, op := Op.load 3 (Operand.tmp 44), type := 3, pos := "geom.go:65", after := #[{ on := 0, ground := Ground.data }], guard := none }) (v := ?_) rfl (by kernel_rfl) (by kernel_rfl) (by kernel_rfl) (fun _ _ _ h => h) (Or.inl ⟨by rfl, ?_⟩) (by assumption) ?_
  rotate_left
  · (intro w hSw; (try dsimp only at hSw); (try obtain ⟨hSa, hSb⟩ := hSw); go_simp; try with_reducible rfl)
  try simp only [Act.put, List.setIfInBounds_toArray, List.set_cons_zero, List.set_cons_succ]
  refine wpAnyH_take (i := 6) (oi := { dst := some 50, op := Op.load 3 (Operand.tmp 49), type := 3, pos := "geom.go:65", after := #[{ on := 5, ground := Ground.data }], guard := none }) (v := ?_) rfl (by kernel_rfl) (by kernel_rfl) (by kernel_rfl) (fun _ _ _ h => h) (Or.inl ⟨by rfl, ?_⟩) (by assumption) ?_
  rotate_left
  · (intro w hSw; (try dsimp only at hSw); (try obtain ⟨hSa, hSb⟩ := hSw); go_simp; try with_reducible rfl)
  try simp only [Act.put, List.setIfInBounds_toArray, List.set_cons_zero, List.set_cons_succ]
  refine wpAnyH_take (i := 12) (oi := { dst := some 56, op := Op.load 3 (Operand.tmp 55), type := 3, pos := "geom.go:65", after := #[{ on := 11, ground := Ground.data }], guard := none }) (v := ?_) rfl (by kernel_rfl) (by kernel_rfl) (by kernel_rfl) (fun _ _ _ h => h) (Or.inl ⟨by rfl, ?_⟩) (by assumption) ?_
  rotate_left
  · (intro w hSw; (try dsimp only at hSw); (try obtain ⟨hSa, hSb⟩ := hSw); go_simp; try with_reducible rfl)
  try simp only [Act.put, List.setIfInBounds_toArray, List.set_cons_zero, List.set_cons_succ]
  refine wpAnyH_take (i := 14) (oi := { dst := some 58, op := Op.load 3 (Operand.tmp 57), type := 3, pos := "geom.go:65", after := #[{ on := 13, ground := Ground.data }], guard := none }) (v := ?_) rfl (by kernel_rfl) (by kernel_rfl) (by kernel_rfl) (fun _ _ _ h => h) (Or.inl ⟨by rfl, ?_⟩) (by assumption) ?_
  rotate_left
  · (intro w hSw; (try dsimp only at hSw); (try obtain ⟨hSa, hSb⟩ := hSw); go_simp; try with_reducible rfl)
  try simp only [Act.put, List.setIfInBounds_toArray, List.set_cons_zero, List.set_cons_succ]
  refine wpAnyH_take (i := 18) (oi := { dst := some 62, op := Op.load 3 (Operand.tmp 61), type := 3, pos := "geom.go:65", after := #[{ on := 17, ground := Ground.data }], guard := none }) (v := ?_) rfl (by kernel_rfl) (by kernel_rfl) (by kernel_rfl) (fun _ _ _ h => h) (Or.inl ⟨by rfl, ?_⟩) (by assumption) ?_
  rotate_left
  · (intro w hSw; (try dsimp only at hSw); (try obtain ⟨hSa, hSb⟩ := hSw); go_simp; try with_reducible rfl)
  try simp only [Act.put, List.setIfInBounds_toArray, List.set_cons_zero, List.set_cons_succ]
  refine wpAnyH_take (i := 15) (oi := { dst := some 59, op := Op.binOp BinOp.mul 3 (Operand.tmp 56) (Operand.tmp 58) 3, type := 3, pos := "geom.go:65", after := #[{ on := 12, ground := Ground.data }, { on := 14, ground := Ground.data }], guard := none }) (v := ?_) rfl (by kernel_rfl) (by kernel_rfl) (by kernel_rfl) (fun _ _ _ h => h) (Or.inl ⟨by rfl, ?_⟩) (by assumption) ?_
  rotate_left
  · (intro w hSw; (try dsimp only at hSw); (try obtain ⟨hSa, hSb⟩ := hSw); go_simp; try with_reducible rfl)
  try simp only [Act.put, List.setIfInBounds_toArray, List.set_cons_zero, List.set_cons_succ]
  refine wpAnyH_ready (rs := [3]) (by kernel_rfl) (by simp) ?_
  refine AllReadyH.cons (o := { dst := some 47, op := Op.call { callee := Callee.value (Operand.func 98), args := #[Operand.tmp 46], argTypes := #[173] }, type := 3, pos := "geom.go:65", after := #[{ on := 2, ground := Ground.data }], guard := none }) rfl (fun K hK => ?_) AllReadyH.nil
  go_simp
  refine (HLN.out _).mono ?_
  rintro e ww_1 ⟨rfl, hO⟩
  have HB_1 := Lib.hid (HBs.out.only hO id)
  have HO_1 := Lib.hid (HOs.out.trans hO)
  have HS_1 := Lib.hid (HSs.out.only hO id)
  have HP_1 := Lib.hid (HPs.out.only hO id)
  try clear hO
  try simp only []
  refine hK.out _ _ ?_ (fun hHeld => ?_)
  · exact ⟨⟨⟨HS_1.out.cell 0, HS_1.out.cell 1⟩, ⟨HS_1.out.cell 2, HS_1.out.cell 3⟩, HS_1.out.cell 4⟩, ⟨HP_1.out.cell 0, HP_1.out.cell 1⟩, ⟨HP_1.out.cell 2, HP_1.out.cell 3⟩⟩
  clear hK K
  try simp only [Act.put, List.setIfInBounds_toArray, List.set_cons_zero, List.set_cons_succ]
  refine wpAnyH_take (i := 4) (oi := { dst := some 48, op := Op.binOp BinOp.mul 3 (Operand.tmp 45) (Operand.tmp 47) 3, type := 3, pos := "geom.go:65", after := #[{ on := 1, ground := Ground.data }, { on := 3, ground := Ground.data }], guard := none }) (v := ?_) rfl (by kernel_rfl) (by kernel_rfl) (by kernel_rfl) (fun _ _ _ h => h) (Or.inl ⟨by rfl, ?_⟩) (by assumption) ?_
  rotate_left
  · (intro w hSw; (try dsimp only at hSw); (try obtain ⟨hSa, hSb⟩ := hSw); go_simp; try with_reducible rfl)
  try simp only [Act.put, List.setIfInBounds_toArray, List.set_cons_zero, List.set_cons_succ]
  refine wpAnyH_ready (rs := [8]) (by kernel_rfl) (by simp) ?_
  refine AllReadyH.cons (o := { dst := some 52, op := Op.call { callee := Callee.value (Operand.func 99), args := #[Operand.tmp 51], argTypes := #[173] }, type := 3, pos := "geom.go:65", after := #[{ on := 7, ground := Ground.data }, { on := 3, ground := Ground.chain }], guard := none }) rfl (fun K hK => ?_) AllReadyH.nil
  go_simp
  refine (HST.out _).mono ?_
  rintro e ww_2 ⟨rfl, hO⟩
  have HB_2 := Lib.hid (HB_1.out.only hO id)
  have HO_2 := Lib.hid (HO_1.out.trans hO)
  have HS_2 := Lib.hid (HS_1.out.only hO id)
  have HP_2 := Lib.hid (HP_1.out.only hO id)
  try clear hO
  try simp only []
  refine hK.out _ _ ?_ (fun hHeld => ?_)
  · exact ⟨⟨⟨HS_2.out.cell 0, HS_2.out.cell 1⟩, ⟨HS_2.out.cell 2, HS_2.out.cell 3⟩, HS_2.out.cell 4⟩, ⟨HP_2.out.cell 0, HP_2.out.cell 1⟩, ⟨HP_2.out.cell 2, HP_2.out.cell 3⟩⟩
  clear hK K
  try simp only [Act.put, List.setIfInBounds_toArray, List.set_cons_zero, List.set_cons_succ]
  refine wpAnyH_take (i := 9) (oi := { dst := some 53, op := Op.binOp BinOp.mul 3 (Operand.tmp 50) (Operand.tmp 52) 3, type := 3, pos := "geom.go:65", after := #[{ on := 6, ground := Ground.data }, { on := 8, ground := Ground.data }], guard := none }) (v := ?_) rfl (by kernel_rfl) (by kernel_rfl) (by kernel_rfl) (fun _ _ _ h => h) (Or.inl ⟨by rfl, ?_⟩) (by assumption) ?_
  rotate_left
  · (intro w hSw; (try dsimp only at hSw); (try obtain ⟨hSa, hSb⟩ := hSw); go_simp; try with_reducible rfl)
  try simp only [Act.put, List.setIfInBounds_toArray, List.set_cons_zero, List.set_cons_succ]
  refine wpAnyH_take (i := 10) (oi := { dst := some 54, op := Op.binOp BinOp.add 3 (Operand.tmp 48) (Operand.tmp 53) 3, type := 3, pos := "geom.go:65", after := #[{ on := 4, ground := Ground.data }, { on := 9, ground := Ground.data }], guard := none }) (v := ?_) rfl (by kernel_rfl) (by kernel_rfl) (by kernel_rfl) (fun _ _ _ h => h) (Or.inl ⟨by rfl, ?_⟩) (by assumption) ?_
  rotate_left
  · (intro w hSw; (try dsimp only at hSw); (try obtain ⟨hSa, hSb⟩ := hSw); go_simp; try with_reducible rfl)
  try simp only [Act.put, List.setIfInBounds_toArray, List.set_cons_zero, List.set_cons_succ]
  refine wpAnyH_take (i := 16) (oi := { dst := some 60, op := Op.binOp BinOp.add 3 (Operand.tmp 54) (Operand.tmp 59) 3, type := 3, pos := "geom.go:65", after := #[{ on := 10, ground := Ground.data }, { on := 15, ground := Ground.data }], guard := none }) (v := ?_) rfl (by kernel_rfl) (by kernel_rfl) (by kernel_rfl) (fun _ _ _ h => h) (Or.inl ⟨by rfl, ?_⟩) (by assumption) ?_
  rotate_left
  · (intro w hSw; (try dsimp only at hSw); (try obtain ⟨hSa, hSb⟩ := hSw); go_simp; try with_reducible rfl)
  try simp only [Act.put, List.setIfInBounds_toArray, List.set_cons_zero, List.set_cons_succ]
  refine wpAnyH_take (i := 19) (oi := { dst := some 63, op := Op.binOp BinOp.add 3 (Operand.tmp 60) (Operand.tmp 62) 3, type := 3, pos := "geom.go:65", after := #[{ on := 16, ground := Ground.data }, { on := 18, ground := Ground.data }], guard := none }) (v := ?_) rfl (by kernel_rfl) (by kernel_rfl) (by kernel_rfl) (fun _ _ _ h => h) (Or.inl ⟨by rfl, ?_⟩) (by assumption) ?_
  rotate_left
  · (intro w hSw; (try dsimp only at hSw); (try obtain ⟨hSa, hSb⟩ := hSw); go_simp; try with_reducible rfl)
  try simp only [Act.put, List.setIfInBounds_toArray, List.set_cons_zero, List.set_cons_succ]
  refine wpAnyH_take (i := 20) (oi := { dst := some 7, op := Op.assign (Operand.tmp 63), type := 3, pos := "geom.go:65", after := #[{ on := 19, ground := Ground.data }, { on := 8, ground := Ground.chain }, { on := 0, ground := Ground.phase }, { on := 1, ground := Ground.phase }, { on := 2, ground := Ground.phase }, { on := 3, ground := Ground.phase }, { on := 4, ground := Ground.phase }, { on := 5, ground := Ground.phase }, { on := 6, ground := Ground.phase }, { on := 7, ground := Ground.phase }, { on := 8, ground := Ground.phase }, { on := 9, ground := Ground.phase }, { on := 10, ground := Ground.phase }, { on := 11, ground := Ground.phase }, { on := 12, ground := Ground.phase }, { on := 13, ground := Ground.phase }, { on := 14, ground := Ground.phase }, { on := 15, ground := Ground.phase }, { on := 16, ground := Ground.phase }, { on := 17, ground := Ground.phase }, { on := 18, ground := Ground.phase }, { on := 19, ground := Ground.phase }], guard := none }) (v := ?_) rfl (by kernel_rfl) (by kernel_rfl) (by kernel_rfl) (fun _ _ _ h => h) (Or.inl ⟨by rfl, ?_⟩) (by assumption) ?_
  rotate_left
  · (intro w hSw; (try dsimp only at hSw); (try obtain ⟨hSa, hSb⟩ := hSw); go_simp; try with_reducible rfl)
  try simp only [Act.put, List.setIfInBounds_toArray, List.set_cons_zero, List.set_cons_succ]
  refine wpAnyH_done (by kernel_rfl) ?_ _
  obtain ⟨W6, hW6⟩ : ∃ W', W' = ww_2 := ⟨_, rfl⟩
  have b0 := HB_2.out.cell 0
  have b1 := HB_2.out.cell 1
  have b2 := HB_2.out.cell 2
  have b3 := HB_2.out.cell 3
  have b4 := HB_2.out.cell 4
  simp only [List.getElem?_toArray, List.getElem?_cons_zero, List.getElem?_cons_succ] at b0 b1 b2 b3 b4
  go_wp2_with (fail)
  refine (HOF.out _).mono ?_
  rintro e w7 ⟨rfl, hO⟩
  have oa := hO.alloc (.cells #[.int .i64 0, .int .i64 0, .int .i64 0, .int .i64 0] 120)
  have HO7 := Lib.hid (HO_2.out.trans oa)
  have hP := HP_2.out.only oa id
  have hN := At.new w7 120 #[.int .i64 0, .int .i64 0, .int .i64 0, .int .i64 0]
  clear hO oa b0 b1 b2 b3 b4
  have p0 := hP.cell 0
  have p1 := hP.cell 1
  have p2 := hP.cell 2
  have p3 := hP.cell 3
  simp only [List.getElem?_toArray, List.getElem?_cons_zero, List.getElem?_cons_succ] at p0 p1 p2 p3
  have q0 := hN.cell 0
  have q1 := hN.cell 1
  have q2 := hN.cell 2
  have q3 := hN.cell 3
  simp only [List.getElem?_toArray, List.getElem?_cons_zero, List.getElem?_cons_succ] at q0 q1 q2 q3
  clear hP hN
  go_wp2
  refine bodyPost_ret (results_tmp2 rfl _ _ _) rfl ?_
  exact ⟨rfl, HO7.out⟩
end Go.Proofs.YtjobaplioidogaaGreat

namespace Go.Proofs.YtjobaplioidogaaGreat
open Go.RowKit

set_option maxRecDepth 100000 in
set_option maxHeartbeats 8000000 in
theorem sized_one (A B : Option Addr) (c c' g n : Nat) (w : World) (hr : Rd w g A [.slice B n c']) :
    Calls Tryz.prog 45 #[.slice A 1 c, .int .i64 1, .int .i64 n] w fun e w' => e = .returned (.bool true) ∧ w' = w := by
  obtain ⟨o, rfl, _, hc⟩ := hr.at (by simp)
  have c0 := hc 0 _ rfl
  rw [Nat.add_zero] at c0
  clear hc hr
  go_enter Tryz.func45, Tryz.ntmps45
  go_wp2_with (fail)
  go_loopw [8, 11] (fun v8 v11 wr => (v11 = .int .i64 0 ∨ v11 = .int .i64 1) ∧ w = wr) (fun _ v11 _ => (1 - intOf v11).toNat)
  case atStart => exact ⟨.inl rfl, rfl⟩
  case round =>
    obtain ⟨rfl | rfl, rfl⟩ := hrel
    · go_wp2
      go_roundw
      case rel => exact ⟨.inr (by simp), trivial⟩
      case measure => simp [intOf]
    · go_wp2
      go_ret
      exact ⟨rfl, rfl⟩

set_option maxRecDepth 100000 in
set_option maxHeartbeats 4000000 in
theorem next_fresh (pp : Nat) (A : Option Addr) (c : Nat) (w : World) (h : At w pp 171 #[.slice A 0 c, .int .i64 0]) :
    Calls Tryz.prog 47 #[.pointer (some ⟨pp, 0, none⟩), .int .i64 1] w fun e w' => e = .returned (.tuple #[.int .i64 0, .int .i64 0]) ∧ Only (fun i => i = pp) w w' := by
  have c1 := h.cell 1
  have f1 := h.frozen 1
  have h2 := h.set 1 (.int .i64 1)
  have d0 := h2.cell 0
  simp only [List.setIfInBounds_toArray, List.set_cons_zero, List.set_cons_succ, List.getElem?_toArray, List.getElem?_cons_zero, List.getElem?_cons_succ] at c1 d0
  clear h h2
  go_enter Tryz.func47, Tryz.ntmps47
  go_wp2
  refine bodyPost_ret (results_tmp2 rfl _ _ _) rfl ?_
  exact ⟨rfl, (Only.refl (fun i => i = pp) _).setCell (p := ⟨pp, 1, none⟩) (fun _ => rfl) _⟩

set_option maxRecDepth 100000 in
set_option maxHeartbeats 4000000 in
theorem end_good (p : Value) (f : Int) (w : World) : Calls Tryz.prog 49 #[p, .int .i64 0, .int .i64 f] w fun e w' => e = .returned (.int .i64 0) ∧ w' = w := by
  go_enter Tryz.func49, Tryz.ntmps49
  go_wp2
  go_ret
  exact ⟨rfl, rfl⟩
end Go.Proofs.YtjobaplioidogaaGreat
