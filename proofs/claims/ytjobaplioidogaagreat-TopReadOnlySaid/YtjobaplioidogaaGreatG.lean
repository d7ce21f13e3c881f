/- Top: the disk's Right; fits. -/
import Derived.Test.YtjobaplioidogaaGreatF
namespace Go.Proofs.YtjobaplioidogaaGreat
open Go.RowKit

theorem dOk_all {g : Ge} {s : Sg} (h : dOk g s = true) : g.Is ∧ 1 ≤ s.n ∧ s.n ≤ 4096 ∧ 4 * g.s ≤ s.r ∧ s.r ≤ 256 ∧ s.r ≤ g.fl ∧ 2 * s.n ≤ (g.b - 5) * (g.fl - 2 * g.s) := by
  simp only [dOk, Bool.and_eq_true, Bool.not_eq_true', decide_eq_false_iff_not, decide_eq_true_eq] at h
  obtain ⟨⟨⟨⟨⟨⟨h0, h1⟩, h2⟩, h3⟩, h4⟩, h5⟩, h6⟩ := h
  exact ⟨Ge.is_of h0, by omega, by omega, by omega, by omega, by omega, h6⟩

set_option maxRecDepth 100000 in
set_option maxHeartbeats 8000000 in
theorem disk_ok (g : Ge) (s : Sg) (h : dOk g s = true) (w : World) : Calls Tryz.prog 63 #[g.val, s.val] w fun e w' => e = .returned (.bool true) ∧ Only (fun _ => False) w w' := by
  obtain ⟨hI, h1, h2, h3, h4, h5, h6⟩ := dOk_all h
  have HR := Lib.hid (fun W => right_any g hI.wf W)
  rw [hI.ok] at HR
  have HF := Lib.hid (fun W => full_any g hI W)
  have hflb := hI.fl
  have hbb := hI.b
  have hss := hI.s
  have hX := mul_abs (x := g.b - 5) (y := g.fl - 2 * g.s) (m := 60) (n := 1030) (by omega) (by omega)
  unfold Ge.val Sg.val at *
  obtain ⟨n, r⟩ := s
  have ob1 := (Only.refl (fun _ => False) w).alloc (.cells #[.int .i64 g.c, .int .i64 g.l, .int .i64 g.b, .int .i64 g.p, .int .i64 g.s] 23)
  have HO0 := Lib.hid (ob1.alloc (.cells #[.int .i64 n, .int .i64 r] 25))
  have HB := Lib.hid ((At.new w 23 #[.int .i64 g.c, .int .i64 g.l, .int .i64 g.b, .int .i64 g.p, .int .i64 g.s]).alloc (.cells #[.int .i64 n, .int .i64 r] 25))
  have HC : Hid (At ((w.alloc (.cells #[.int .i64 g.c, .int .i64 g.l, .int .i64 g.b, .int .i64 g.p, .int .i64 g.s] 23)).alloc (.cells #[.int .i64 n, .int .i64 r] 25)) (w.heap.size + 1) 25 #[.int .i64 n, .int .i64 r]) := Lib.hid (by have := At.new (w.alloc (.cells #[.int .i64 g.c, .int .i64 g.l, .int .i64 g.b, .int .i64 g.p, .int .i64 g.s] 23)) 25 #[.int .i64 n, .int .i64 r]; simpa using this)
  obtain ⟨fl, hfl⟩ : ∃ fl, g.fl = fl := ⟨_, rfl⟩
  rw [hfl] at HF hflb h5 h6 hX
  obtain ⟨c, l, b, p, s⟩ := g
  simp only at HR HF HB HC HO0 hbb hss h1 h2 h3 h4 h5 h6 hX
  clear h hI hfl ob1
  have d0 : decide (n < 1) = false := decide_eq_false (by omega)
  have d1 : decide (4096 < n) = false := decide_eq_false (by omega)
  have d2 : decide (4 * s ≤ r) = true := decide_eq_true h3
  have d3 : decide (r ≤ if fl < 256 then fl else 256) = true := decide_eq_true (by split <;> omega)
  have d4 : decide (2 * n ≤ (b - 5) * (fl - 2 * s)) = true := decide_eq_true h6
  have e4 : IntKind.i64.wrap (4 * s) = 4 * s := IntWalk.i64_in _ (by omega)
  have e4' : wrap64 (4 * s) = 4 * s := by rw [← IntWalk.i64_left]; exact e4
  have e5 : IntKind.i64.wrap (2 * n) = 2 * n := IntWalk.i64_in _ (by omega)
  have e5' : wrap64 (2 * n) = 2 * n := by rw [← IntWalk.i64_left]; exact e5
  have e6 : IntKind.i64.wrap (b - 5) = b - 5 := IntWalk.i64_in _ (by omega)
  have e6' : wrap64 (b - 5) = b - 5 := by rw [← IntWalk.i64_left]; exact e6
  have e7 : IntKind.i64.wrap (2 * s) = 2 * s := IntWalk.i64_in _ (by omega)
  have e7' : wrap64 (2 * s) = 2 * s := by rw [← IntWalk.i64_left]; exact e7
  have e8 : IntKind.i64.wrap (fl - 2 * s) = fl - 2 * s := IntWalk.i64_in _ (by omega)
  have e8' : wrap64 (fl - 2 * s) = fl - 2 * s := by rw [← IntWalk.i64_left]; exact e8
  have e9 : IntKind.i64.wrap ((b - 5) * (fl - 2 * s)) = (b - 5) * (fl - 2 * s) := IntWalk.i64_in _ (by omega)
  have e9' : wrap64 ((b - 5) * (fl - 2 * s)) = (b - 5) * (fl - 2 * s) := by rw [← IntWalk.i64_left]; exact e9
  go_enter Tryz.func63, Tryz.ntmps63
  go_wp2_with (fail)
  refine (HR.out _).mono ?_
  rintro e w1 ⟨rfl, hO⟩
  have HO2 := Lib.hid (HO0.out.trans hO)
  have HB2 := Lib.hid (HB.out.only hO id)
  have HC2 := Lib.hid (HC.out.only hO id)
  have hcc := HC2.out
  have y0 := hcc.cell 0
  simp only [List.getElem?_toArray, List.getElem?_cons_zero] at y0
  clear hO hcc
  go_wp2_with (fail)
  refine wp_region_held_drew (S := (fun W => ((W.cell? ⟨w.heap.size, 0, none⟩ = some (.int .i64 c) ∧ W.cell? ⟨w.heap.size, 1, none⟩ = some (.int .i64 l)) ∧ (W.cell? ⟨w.heap.size, 2, none⟩ = some (.int .i64 b) ∧ W.cell? ⟨w.heap.size, 3, none⟩ = some (.int .i64 p)) ∧ W.cell? ⟨w.heap.size, 4, none⟩ = some (.int .i64 s)) ∧ (W.cell? ⟨w.heap.size + 1, 0, none⟩ = some (.int .i64 n) ∧ W.cell? ⟨w.heap.size + 1, 1, none⟩ = some (.int .i64 r)))) (by kernel_rfl) ?_ (fun hHeld => ?_)
  · exact ⟨⟨⟨HB2.out.cell 0, HB2.out.cell 1⟩, ⟨HB2.out.cell 2, HB2.out.cell 3⟩, HB2.out.cell 4⟩, ⟨HC2.out.cell 0, HC2.out.cell 1⟩⟩
  refine wpAnyH_take (i := 0) (oi := { dst := some 18, op := Op.fieldAddr 25 (Operand.tmp 3) 1, type := 0, pos := "disk.go:56", after := #[], guard := none }) (v := ?_) rfl (by kernel_rfl) (by kernel_rfl) (by kernel_rfl) (fun _ _ _ h => h) (Or.inl ⟨by rfl, ?_⟩) (by assumption) ?_
  rotate_left
  · (intro w hSw; (try dsimp only at hSw); (try obtain ⟨hSa, hSb⟩ := hSw); go_simp; try with_reducible rfl)
  try simp only [Act.put, List.setIfInBounds_toArray, List.set_cons_zero, List.set_cons_succ]
  refine wpAnyH_take (i := 1) (oi := { dst := some 19, op := Op.load 3 (Operand.tmp 18), type := 3, pos := "disk.go:56", after := #[{ on := 0, ground := Ground.data }], guard := none }) (v := ?_) rfl (by kernel_rfl) (by kernel_rfl) (by kernel_rfl) (fun _ _ _ h => h) (Or.inl ⟨by rfl, ?_⟩) (by assumption) ?_
  rotate_left
  · (intro w hSw; (try dsimp only at hSw); (try obtain ⟨hSa, hSb⟩ := hSw); go_simp; try with_reducible rfl)
  try simp only [Act.put, List.setIfInBounds_toArray, List.set_cons_zero, List.set_cons_succ]
  refine wpAnyH_take (i := 2) (oi := { dst := some 20, op := Op.fieldAddr 23 (Operand.tmp 2) 4, type := 0, pos := "disk.go:56", after := #[], guard := none }) (v := ?_) rfl (by kernel_rfl) (by kernel_rfl) (by kernel_rfl) (fun _ _ _ h => h) (Or.inl ⟨by rfl, ?_⟩) (by assumption) ?_
  rotate_left
  · (intro w hSw; (try dsimp only at hSw); (try obtain ⟨hSa, hSb⟩ := hSw); go_simp; try with_reducible rfl)
  try simp only [Act.put, List.setIfInBounds_toArray, List.set_cons_zero, List.set_cons_succ]
  refine wpAnyH_take (i := 3) (oi := { dst := some 21, op := Op.load 3 (Operand.tmp 20), type := 3, pos := "disk.go:56", after := #[{ on := 2, ground := Ground.data }], guard := none }) (v := ?_) rfl (by kernel_rfl) (by kernel_rfl) (by kernel_rfl) (fun _ _ _ h => h) (Or.inl ⟨by rfl, ?_⟩) (by assumption) ?_
  rotate_left
  · (intro w hSw; (try dsimp only at hSw); (try obtain ⟨hSa, hSb⟩ := hSw); go_simp; try with_reducible rfl)
  try simp only [Act.put, List.setIfInBounds_toArray, List.set_cons_zero, List.set_cons_succ]
  refine wpAnyH_take (i := 4) (oi := { dst := some 22, op := Op.binOp BinOp.mul 3 (Operand.const (Value.int IntKind.i64 4)) (Operand.tmp 21) 3, type := 3, pos := "disk.go:56", after := #[{ on := 3, ground := Ground.data }], guard := none }) (v := ?_) rfl (by kernel_rfl) (by kernel_rfl) (by kernel_rfl) (fun _ _ _ h => h) (Or.inl ⟨by rfl, ?_⟩) (by assumption) ?_
  rotate_left
  · (intro w hSw; (try dsimp only at hSw); (try obtain ⟨hSa, hSb⟩ := hSw); go_simp; try with_reducible rfl)
  try simp only [Act.put, List.setIfInBounds_toArray, List.set_cons_zero, List.set_cons_succ]
  refine wpAnyH_take (i := 5) (oi := { dst := some 23, op := Op.binOp BinOp.geq 3 (Operand.tmp 19) (Operand.tmp 22) 3, type := 4, pos := "disk.go:56", after := #[{ on := 1, ground := Ground.data }, { on := 4, ground := Ground.data }], guard := none }) (v := ?_) rfl (by kernel_rfl) (by kernel_rfl) (by kernel_rfl) (fun _ _ _ h => h) (Or.inl ⟨by rfl, ?_⟩) (by assumption) ?_
  rotate_left
  · (intro w hSw; (try dsimp only at hSw); (try obtain ⟨hSa, hSb⟩ := hSw); go_simp; try with_reducible rfl)
  try simp only [Act.put, List.setIfInBounds_toArray, List.set_cons_zero, List.set_cons_succ]
  refine wpAnyH_take (i := 6) (oi := { dst := some 24, op := Op.move (Operand.tmp 23), type := 4, pos := "disk.go:56", after := #[{ on := 5, ground := Ground.data }], guard := none }) (v := ?_) rfl (by kernel_rfl) (by kernel_rfl) (by kernel_rfl) (fun _ _ _ h => h) (Or.inl ⟨by rfl, ?_⟩) (by assumption) ?_
  rotate_left
  · (intro w hSw; (try dsimp only at hSw); (try obtain ⟨hSa, hSb⟩ := hSw); go_simp; try with_reducible rfl)
  try simp only [Act.put, List.setIfInBounds_toArray, List.set_cons_zero, List.set_cons_succ]
  refine wpAnyH_take (i := 7) (oi := { dst := some 25, op := Op.fieldAddr 25 (Operand.tmp 3) 1, type := 0, pos := "disk.go:56", after := #[{ on := 6, ground := Ground.guard }], guard := some (6, true) }) (v := ?_) rfl (by kernel_rfl) (by kernel_rfl) (by kernel_rfl) (fun _ _ _ h => h) (Or.inl ⟨by rfl, ?_⟩) (by assumption) ?_
  rotate_left
  · (intro w hSw; (try dsimp only at hSw); (try obtain ⟨hSa, hSb⟩ := hSw); go_simp; try with_reducible rfl)
  try simp only [Act.put, List.setIfInBounds_toArray, List.set_cons_zero, List.set_cons_succ]
  refine wpAnyH_take (i := 8) (oi := { dst := some 26, op := Op.load 3 (Operand.tmp 25), type := 3, pos := "disk.go:56", after := #[{ on := 7, ground := Ground.data }, { on := 6, ground := Ground.guard }], guard := some (6, true) }) (v := ?_) rfl (by kernel_rfl) (by kernel_rfl) (by kernel_rfl) (fun _ _ _ h => h) (Or.inl ⟨by rfl, ?_⟩) (by assumption) ?_
  rotate_left
  · (intro w hSw; (try dsimp only at hSw); (try obtain ⟨hSa, hSb⟩ := hSw); go_simp; try with_reducible rfl)
  try simp only [Act.put, List.setIfInBounds_toArray, List.set_cons_zero, List.set_cons_succ]
  refine wpAnyH_take (i := 9) (oi := { dst := some 27, op := Op.load 23 (Operand.tmp 2), type := 23, pos := "disk.go:56", after := #[{ on := 6, ground := Ground.guard }], guard := some (6, true) }) (v := ?_) rfl (by kernel_rfl) (by kernel_rfl) (by kernel_rfl) (fun _ _ _ h => h) (Or.inl ⟨by rfl, ?_⟩) (by assumption) ?_
  rotate_left
  · (intro w hSw; (try dsimp only at hSw); (try obtain ⟨hSa, hSb⟩ := hSw); go_simp; try with_reducible rfl)
  try simp only [Act.put, List.setIfInBounds_toArray, List.set_cons_zero, List.set_cons_succ]
  refine wpAnyH_ready (rs := [10]) (by kernel_rfl) (by simp) ?_
  refine AllReadyH.cons (o := { dst := some 28, op := Op.call { callee := Callee.value (Operand.func 28), args := #[Operand.tmp 27], argTypes := #[23] }, type := 3, pos := "disk.go:56", after := #[{ on := 9, ground := Ground.data }, { on := 6, ground := Ground.chain }, { on := 6, ground := Ground.guard }], guard := some (6, true) }) rfl (fun K hK => ?_) AllReadyH.nil
  go_simp
  (refine (HF.out _).mono ?_; rintro e w3 ⟨rfl, hO2⟩; have hOd := (Only.refl (fun _ => False) _).drew.trans hO2; have HO3 := Lib.hid (HO2.out.trans hOd); have HB3 := Lib.hid (HB2.out.only hOd id); have HC3 := Lib.hid (HC2.out.only hOd id); clear hO2 hOd; try simp only [])
  refine hK.out _ _ ?_ (fun hHeld => ?_)
  · exact ⟨⟨⟨HB3.out.cell 0, HB3.out.cell 1⟩, ⟨HB3.out.cell 2, HB3.out.cell 3⟩, HB3.out.cell 4⟩, ⟨HC3.out.cell 0, HC3.out.cell 1⟩⟩
  clear hK K
  try simp only [Act.put, List.setIfInBounds_toArray, List.set_cons_zero, List.set_cons_succ]
  refine wpAnyH_take (i := 11) (oi := { dst := some 29, op := Op.call { callee := Callee.builtin Builtin.min, args := #[Operand.const (Value.int IntKind.i64 256), Operand.tmp 28], argTypes := #[3, 3] }, type := 3, pos := "disk.go:56", after := #[{ on := 10, ground := Ground.data }, { on := 6, ground := Ground.guard }], guard := some (6, true) }) (v := ?_) rfl (by kernel_rfl) (by kernel_rfl) (by kernel_rfl) (fun _ _ _ h => h) (Or.inl ⟨by rfl, ?_⟩) (by assumption) ?_
  rotate_left
  · (intro w hSw; (try dsimp only at hSw); (try obtain ⟨hSa, hSb⟩ := hSw); go_simp; try with_reducible rfl)
  try simp only [Act.put, List.setIfInBounds_toArray, List.set_cons_zero, List.set_cons_succ]
  refine wpAnyH_take (i := 12) (oi := { dst := some 30, op := Op.binOp BinOp.leq 3 (Operand.tmp 26) (Operand.tmp 29) 3, type := 4, pos := "disk.go:56", after := #[{ on := 8, ground := Ground.data }, { on := 11, ground := Ground.data }, { on := 6, ground := Ground.guard }], guard := some (6, true) }) (v := ?_) rfl (by kernel_rfl) (by kernel_rfl) (by kernel_rfl) (fun _ _ _ h => h) (Or.inl ⟨by rfl, ?_⟩) (by assumption) ?_
  rotate_left
  · (intro w hSw; (try dsimp only at hSw); (try obtain ⟨hSa, hSb⟩ := hSw); go_simp; try with_reducible rfl)
  try simp only [Act.put, List.setIfInBounds_toArray, List.set_cons_zero, List.set_cons_succ]
  refine wpAnyH_take (i := 13) (oi := { dst := some 31, op := Op.pick (Operand.tmp 24) (Operand.tmp 30) (Operand.const (Value.bool false)), type := 4, pos := "disk.go:56", after := #[{ on := 6, ground := Ground.data }, { on := 12, ground := Ground.data }], guard := none }) (v := ?_) rfl (by kernel_rfl) (by kernel_rfl) (by kernel_rfl) (fun _ _ _ h => h) (Or.inl ⟨by rfl, ?_⟩) (by assumption) ?_
  rotate_left
  · (intro w hSw; (try dsimp only at hSw); (try obtain ⟨hSa, hSb⟩ := hSw); go_simp; try with_reducible rfl)
  try simp only [Act.put, List.setIfInBounds_toArray, List.set_cons_zero, List.set_cons_succ]
  refine wpAnyH_take (i := 14) (oi := { dst := some 32, op := Op.move (Operand.tmp 31), type := 4, pos := "disk.go:56", after := #[{ on := 13, ground := Ground.data }, { on := 10, ground := Ground.chain }], guard := none }) (v := ?_) rfl (by kernel_rfl) (by kernel_rfl) (by kernel_rfl) (fun _ _ _ h => h) (Or.inl ⟨by rfl, ?_⟩) (by assumption) ?_
  rotate_left
  · (intro w hSw; (try dsimp only at hSw); (try obtain ⟨hSa, hSb⟩ := hSw); go_simp; try with_reducible rfl)
  try simp only [Act.put, List.setIfInBounds_toArray, List.set_cons_zero, List.set_cons_succ]
  refine wpAnyH_take (i := 15) (oi := { dst := some 33, op := Op.fieldAddr 25 (Operand.tmp 3) 0, type := 0, pos := "disk.go:56", after := #[{ on := 14, ground := Ground.guard }], guard := some (14, true) }) (v := ?_) rfl (by kernel_rfl) (by kernel_rfl) (by kernel_rfl) (fun _ _ _ h => h) (Or.inl ⟨by rfl, ?_⟩) (by assumption) ?_
  rotate_left
  · (intro w hSw; (try dsimp only at hSw); (try obtain ⟨hSa, hSb⟩ := hSw); go_simp; try with_reducible rfl)
  try simp only [Act.put, List.setIfInBounds_toArray, List.set_cons_zero, List.set_cons_succ]
  refine wpAnyH_take (i := 16) (oi := { dst := some 34, op := Op.load 3 (Operand.tmp 33), type := 3, pos := "disk.go:56", after := #[{ on := 15, ground := Ground.data }, { on := 14, ground := Ground.guard }], guard := some (14, true) }) (v := ?_) rfl (by kernel_rfl) (by kernel_rfl) (by kernel_rfl) (fun _ _ _ h => h) (Or.inl ⟨by rfl, ?_⟩) (by assumption) ?_
  rotate_left
  · (intro w hSw; (try dsimp only at hSw); (try obtain ⟨hSa, hSb⟩ := hSw); go_simp; try with_reducible rfl)
  try simp only [Act.put, List.setIfInBounds_toArray, List.set_cons_zero, List.set_cons_succ]
  refine wpAnyH_take (i := 17) (oi := { dst := some 35, op := Op.binOp BinOp.mul 3 (Operand.const (Value.int IntKind.i64 2)) (Operand.tmp 34) 3, type := 3, pos := "disk.go:56", after := #[{ on := 16, ground := Ground.data }, { on := 14, ground := Ground.guard }], guard := some (14, true) }) (v := ?_) rfl (by kernel_rfl) (by kernel_rfl) (by kernel_rfl) (fun _ _ _ h => h) (Or.inl ⟨by rfl, ?_⟩) (by assumption) ?_
  rotate_left
  · (intro w hSw; (try dsimp only at hSw); (try obtain ⟨hSa, hSb⟩ := hSw); go_simp; try with_reducible rfl)
  try simp only [Act.put, List.setIfInBounds_toArray, List.set_cons_zero, List.set_cons_succ]
  refine wpAnyH_take (i := 18) (oi := { dst := some 36, op := Op.fieldAddr 23 (Operand.tmp 2) 2, type := 0, pos := "disk.go:56", after := #[{ on := 14, ground := Ground.guard }], guard := some (14, true) }) (v := ?_) rfl (by kernel_rfl) (by kernel_rfl) (by kernel_rfl) (fun _ _ _ h => h) (Or.inl ⟨by rfl, ?_⟩) (by assumption) ?_
  rotate_left
  · (intro w hSw; (try dsimp only at hSw); (try obtain ⟨hSa, hSb⟩ := hSw); go_simp; try with_reducible rfl)
  try simp only [Act.put, List.setIfInBounds_toArray, List.set_cons_zero, List.set_cons_succ]
  refine wpAnyH_take (i := 19) (oi := { dst := some 37, op := Op.load 3 (Operand.tmp 36), type := 3, pos := "disk.go:56", after := #[{ on := 18, ground := Ground.data }, { on := 14, ground := Ground.guard }], guard := some (14, true) }) (v := ?_) rfl (by kernel_rfl) (by kernel_rfl) (by kernel_rfl) (fun _ _ _ h => h) (Or.inl ⟨by rfl, ?_⟩) (by assumption) ?_
  rotate_left
  · (intro w hSw; (try dsimp only at hSw); (try obtain ⟨hSa, hSb⟩ := hSw); go_simp; try with_reducible rfl)
  try simp only [Act.put, List.setIfInBounds_toArray, List.set_cons_zero, List.set_cons_succ]
  refine wpAnyH_take (i := 20) (oi := { dst := some 38, op := Op.binOp BinOp.sub 3 (Operand.tmp 37) (Operand.const (Value.int IntKind.i64 5)) 3, type := 3, pos := "disk.go:56", after := #[{ on := 19, ground := Ground.data }, { on := 14, ground := Ground.guard }], guard := some (14, true) }) (v := ?_) rfl (by kernel_rfl) (by kernel_rfl) (by kernel_rfl) (fun _ _ _ h => h) (Or.inl ⟨by rfl, ?_⟩) (by assumption) ?_
  rotate_left
  · (intro w hSw; (try dsimp only at hSw); (try obtain ⟨hSa, hSb⟩ := hSw); go_simp; try with_reducible rfl)
  try simp only [Act.put, List.setIfInBounds_toArray, List.set_cons_zero, List.set_cons_succ]
  refine wpAnyH_take (i := 21) (oi := { dst := some 39, op := Op.load 23 (Operand.tmp 2), type := 23, pos := "disk.go:56", after := #[{ on := 14, ground := Ground.guard }], guard := some (14, true) }) (v := ?_) rfl (by kernel_rfl) (by kernel_rfl) (by kernel_rfl) (fun _ _ _ h => h) (Or.inl ⟨by rfl, ?_⟩) (by assumption) ?_
  rotate_left
  · (intro w hSw; (try dsimp only at hSw); (try obtain ⟨hSa, hSb⟩ := hSw); go_simp; try with_reducible rfl)
  try simp only [Act.put, List.setIfInBounds_toArray, List.set_cons_zero, List.set_cons_succ]
  refine wpAnyH_take (i := 23) (oi := { dst := some 41, op := Op.fieldAddr 23 (Operand.tmp 2) 4, type := 0, pos := "disk.go:56", after := #[{ on := 14, ground := Ground.guard }], guard := some (14, true) }) (v := ?_) rfl (by kernel_rfl) (by kernel_rfl) (by kernel_rfl) (fun _ _ _ h => h) (Or.inl ⟨by rfl, ?_⟩) (by assumption) ?_
  rotate_left
  · (intro w hSw; (try dsimp only at hSw); (try obtain ⟨hSa, hSb⟩ := hSw); go_simp; try with_reducible rfl)
  try simp only [Act.put, List.setIfInBounds_toArray, List.set_cons_zero, List.set_cons_succ]
  refine wpAnyH_take (i := 24) (oi := { dst := some 42, op := Op.load 3 (Operand.tmp 41), type := 3, pos := "disk.go:56", after := #[{ on := 23, ground := Ground.data }, { on := 14, ground := Ground.guard }], guard := some (14, true) }) (v := ?_) rfl (by kernel_rfl) (by kernel_rfl) (by kernel_rfl) (fun _ _ _ h => h) (Or.inl ⟨by rfl, ?_⟩) (by assumption) ?_
  rotate_left
  · (intro w hSw; (try dsimp only at hSw); (try obtain ⟨hSa, hSb⟩ := hSw); go_simp; try with_reducible rfl)
  try simp only [Act.put, List.setIfInBounds_toArray, List.set_cons_zero, List.set_cons_succ]
  refine wpAnyH_take (i := 25) (oi := { dst := some 43, op := Op.binOp BinOp.mul 3 (Operand.const (Value.int IntKind.i64 2)) (Operand.tmp 42) 3, type := 3, pos := "disk.go:56", after := #[{ on := 24, ground := Ground.data }, { on := 14, ground := Ground.guard }], guard := some (14, true) }) (v := ?_) rfl (by kernel_rfl) (by kernel_rfl) (by kernel_rfl) (fun _ _ _ h => h) (Or.inl ⟨by rfl, ?_⟩) (by assumption) ?_
  rotate_left
  · (intro w hSw; (try dsimp only at hSw); (try obtain ⟨hSa, hSb⟩ := hSw); go_simp; try with_reducible rfl)
  try simp only [Act.put, List.setIfInBounds_toArray, List.set_cons_zero, List.set_cons_succ]
  refine wpAnyH_ready (rs := [22]) (by kernel_rfl) (by simp) ?_
  refine AllReadyH.cons (o := { dst := some 40, op := Op.call { callee := Callee.value (Operand.func 28), args := #[Operand.tmp 39], argTypes := #[23] }, type := 3, pos := "disk.go:56", after := #[{ on := 21, ground := Ground.data }, { on := 14, ground := Ground.chain }, { on := 14, ground := Ground.guard }], guard := some (14, true) }) rfl (fun K hK => ?_) AllReadyH.nil
  go_simp
  (refine (HF.out _).mono ?_; rintro e w4 ⟨rfl, hO2⟩; have HO3 := Lib.hid (HO3.out.trans hO2); have HB3 := Lib.hid (HB3.out.only hO2 id); have HC3 := Lib.hid (HC3.out.only hO2 id); clear hO2; try simp only [])
  refine hK.out _ _ ?_ (fun hHeld => ?_)
  · exact ⟨⟨⟨HB3.out.cell 0, HB3.out.cell 1⟩, ⟨HB3.out.cell 2, HB3.out.cell 3⟩, HB3.out.cell 4⟩, ⟨HC3.out.cell 0, HC3.out.cell 1⟩⟩
  clear hK K
  try simp only [Act.put, List.setIfInBounds_toArray, List.set_cons_zero, List.set_cons_succ]
  refine wpAnyH_take (i := 26) (oi := { dst := some 44, op := Op.binOp BinOp.sub 3 (Operand.tmp 40) (Operand.tmp 43) 3, type := 3, pos := "disk.go:56", after := #[{ on := 22, ground := Ground.data }, { on := 25, ground := Ground.data }, { on := 14, ground := Ground.guard }], guard := some (14, true) }) (v := ?_) rfl (by kernel_rfl) (by kernel_rfl) (by kernel_rfl) (fun _ _ _ h => h) (Or.inl ⟨by rfl, ?_⟩) (by assumption) ?_
  rotate_left
  · (intro w hSw; (try dsimp only at hSw); (try obtain ⟨hSa, hSb⟩ := hSw); go_simp; try with_reducible rfl)
  try simp only [Act.put, List.setIfInBounds_toArray, List.set_cons_zero, List.set_cons_succ]
  refine wpAnyH_take (i := 27) (oi := { dst := some 45, op := Op.binOp BinOp.mul 3 (Operand.tmp 38) (Operand.tmp 44) 3, type := 3, pos := "disk.go:56", after := #[{ on := 20, ground := Ground.data }, { on := 26, ground := Ground.data }, { on := 14, ground := Ground.guard }], guard := some (14, true) }) (v := ?_) rfl (by kernel_rfl) (by kernel_rfl) (by kernel_rfl) (fun _ _ _ h => h) (Or.inl ⟨by rfl, ?_⟩) (by assumption) ?_
  rotate_left
  · (intro w hSw; (try dsimp only at hSw); (try obtain ⟨hSa, hSb⟩ := hSw); go_simp; try with_reducible rfl)
  try simp only [Act.put, List.setIfInBounds_toArray, List.set_cons_zero, List.set_cons_succ]
  refine wpAnyH_take (i := 28) (oi := { dst := some 46, op := Op.binOp BinOp.leq 3 (Operand.tmp 35) (Operand.tmp 45) 3, type := 4, pos := "disk.go:56", after := #[{ on := 17, ground := Ground.data }, { on := 27, ground := Ground.data }, { on := 14, ground := Ground.guard }], guard := some (14, true) }) (v := ?_) rfl (by kernel_rfl) (by kernel_rfl) (by kernel_rfl) (fun _ _ _ h => h) (Or.inl ⟨by rfl, ?_⟩) (by assumption) ?_
  rotate_left
  · (intro w hSw; (try dsimp only at hSw); (try obtain ⟨hSa, hSb⟩ := hSw); go_simp; try with_reducible rfl)
  try simp only [Act.put, List.setIfInBounds_toArray, List.set_cons_zero, List.set_cons_succ]
  refine wpAnyH_take (i := 29) (oi := { dst := some 47, op := Op.pick (Operand.tmp 32) (Operand.tmp 46) (Operand.const (Value.bool false)), type := 4, pos := "disk.go:56", after := #[{ on := 14, ground := Ground.data }, { on := 28, ground := Ground.data }], guard := none }) (v := ?_) rfl (by kernel_rfl) (by kernel_rfl) (by kernel_rfl) (fun _ _ _ h => h) (Or.inl ⟨by rfl, ?_⟩) (by assumption) ?_
  rotate_left
  · (intro w hSw; (try dsimp only at hSw); (try obtain ⟨hSa, hSb⟩ := hSw); go_simp; try with_reducible rfl)
  try simp only [Act.put, List.setIfInBounds_toArray, List.set_cons_zero, List.set_cons_succ]
  refine wpAnyH_take (i := 30) (oi := { dst := some 4, op := Op.assign (Operand.tmp 47), type := 4, pos := "disk.go:56", after := #[{ on := 29, ground := Ground.data }, { on := 22, ground := Ground.chain }, { on := 0, ground := Ground.phase }, { on := 1, ground := Ground.phase }, { on := 2, ground := Ground.phase }, { on := 3, ground := Ground.phase }, { on := 4, ground := Ground.phase }, { on := 5, ground := Ground.phase }, { on := 6, ground := Ground.phase }, { on := 7, ground := Ground.phase }, { on := 8, ground := Ground.phase }, { on := 9, ground := Ground.phase }, { on := 10, ground := Ground.phase }, { on := 11, ground := Ground.phase }, { on := 12, ground := Ground.phase }, { on := 13, ground := Ground.phase }, { on := 14, ground := Ground.phase }, { on := 15, ground := Ground.phase }, { on := 16, ground := Ground.phase }, { on := 17, ground := Ground.phase }, { on := 18, ground := Ground.phase }, { on := 19, ground := Ground.phase }, { on := 20, ground := Ground.phase }, { on := 21, ground := Ground.phase }, { on := 22, ground := Ground.phase }, { on := 23, ground := Ground.phase }, { on := 24, ground := Ground.phase }, { on := 25, ground := Ground.phase }, { on := 26, ground := Ground.phase }, { on := 27, ground := Ground.phase }, { on := 28, ground := Ground.phase }, { on := 29, ground := Ground.phase }], guard := none }) (v := ?_) rfl (by kernel_rfl) (by kernel_rfl) (by kernel_rfl) (fun _ _ _ h => h) (Or.inl ⟨by rfl, ?_⟩) (by assumption) ?_
  rotate_left
  · (intro w hSw; (try dsimp only at hSw); (try obtain ⟨hSa, hSb⟩ := hSw); go_simp; try with_reducible rfl)
  try simp only [Act.put, List.setIfInBounds_toArray, List.set_cons_zero, List.set_cons_succ]
  refine wpAnyH_done (by kernel_rfl) ?_ _
  go_wp2
  all_goals go_ret
  all_goals exact ⟨rfl, HO3.out⟩

/-- A setup: geometry, setting, the bad blocks, the plan. -/
def fitI (g : Ge) (s : Sg) (nb np : Nat) : Bool := dOk g s && decide (g.al ≤ 800) && decide (nb ≤ 100) && decide (np ≤ 300)
def setV (g : Ge) (s : Sg) (Ab : Option Addr) (nb cb : Nat) (Ap : Option Addr) (np cp : Nat) : Array Value := #[.int .i64 g.c, .int .i64 g.l, .int .i64 g.b, .int .i64 g.p, .int .i64 g.s, .int .i64 s.n, .int .i64 s.r, .slice Ab nb cb, .slice Ap np cp]

set_option maxRecDepth 100000 in
set_option maxHeartbeats 8000000 in
theorem fits_any (g : Ge) (s : Sg) (Ab : Option Addr) (nb cb : Nat) (Ap : Option Addr) (np cp : Nat) (w : World) : Calls Tryz.prog 5 #[.agg (setV g s Ab nb cb Ap np cp)] w fun e w' => e = .returned (.bool (fitI g s nb np)) ∧ Only (fun _ => False) w w' := by
  have HD := Lib.hid (fun W => refDisk_any g s W)
  have HA := Lib.hid (fun (h : dOk g s = true) W => refAll_any g (dOk_all h).1 W)
  have hv : fitI g s nb np = (dOk g s && decide (g.al ≤ 800) && decide (nb ≤ 100) && decide (np ≤ 300)) := rfl
  have HV := Lib.hid hv
  obtain ⟨V, hV⟩ : ∃ V, fitI g s nb np = V := ⟨_, rfl⟩
  rw [hV] at HV ⊢
  have HB := Lib.hid (At.new w 29 (setV g s Ab nb cb Ap np cp))
  have HO0 := Lib.hid ((Only.refl (fun _ => False) w).alloc (.cells (setV g s Ab nb cb Ap np cp) 29))
  unfold setV Ge.val Sg.val at *
  obtain ⟨ok, hok⟩ : ∃ ok, dOk g s = ok := ⟨_, rfl⟩
  rw [hok] at HD HA HV
  obtain ⟨al, hal⟩ : ∃ al, g.al = al := ⟨_, rfl⟩
  rw [hal] at HA HV
  clear hv hV hok hal
  obtain ⟨c, l, b, p, s'⟩ := g
  obtain ⟨n, r⟩ := s
  simp only at HD HA HB HO0
  go_enter Tryz.func5, Tryz.ntmps5
  go_wp2_with (fail)
  refine (HD.out _).mono ?_
  rintro e w1 ⟨rfl, hO⟩
  have HO2 := Lib.hid (HO0.out.trans hO)
  have hB2 := HB.out.only hO id
  have y0 := hB2.cell 0
  have y1 := hB2.cell 1
  have y2 := hB2.cell 2
  have y3 := hB2.cell 3
  have y4 := hB2.cell 4
  simp only [List.getElem?_toArray, List.getElem?_cons_zero, List.getElem?_cons_succ] at y0 y1 y2 y3 y4
  have HB2 := Lib.hid hB2
  clear hO hB2 HB HO0 HD
  cases ok
  · clear HA
    go_wp2
    go_ret
    exact ⟨ret_b (by rw [HV.out]; simp), HO2.out⟩
  have HA' := Lib.hid (HA.out rfl)
  clear HA
  go_wp2_with (fail)
  refine (HA'.out _).mono ?_
  rintro e w2 ⟨rfl, hO⟩
  have HO3 := Lib.hid (HO2.out.trans hO)
  have hB2 := HB2.out.only hO id
  have y7 := hB2.cell 7
  have y8 := hB2.cell 8
  simp only [List.getElem?_toArray, List.getElem?_cons_zero, List.getElem?_cons_succ] at y7 y8
  clear hO hB2 y0 y1 y2 y3 y4
  by_cases h0 : al ≤ 800
  · have d0 : decide (al ≤ 800) = true := by simp [h0]
    by_cases h1 : (nb : Int) ≤ 100
    · have d1 : decide ((nb : Int) ≤ 100) = true := by simp [h1]
      have d1' : nb ≤ 100 := by omega
      by_cases h2 : (np : Int) ≤ 300
      · have d2 : decide ((np : Int) ≤ 300) = true := by simp [h2]
        have d2' : np ≤ 300 := by omega
        go_wp2
        go_ret
        exact ⟨ret_b (by rw [HV.out]; simp [h0, d1', d2']), HO3.out⟩
      · have d2 : decide ((np : Int) ≤ 300) = false := by simp; omega
        have d2' : ¬ np ≤ 300 := by omega
        go_wp2
        go_ret
        exact ⟨ret_b (by rw [HV.out]; simp [h0, d1', d2']), HO3.out⟩
    · have d1 : decide ((nb : Int) ≤ 100) = false := by simp; omega
      have d1' : ¬ nb ≤ 100 := by omega
      go_wp2
      go_ret
      exact ⟨ret_b (by rw [HV.out]; simp [h0, d1']), HO3.out⟩
  · have d0 : decide (al ≤ 800) = false := by simp; omega
    go_wp2
    go_ret
    exact ⟨ret_b (by rw [HV.out, d0]; simp), HO3.out⟩
end Go.Proofs.YtjobaplioidogaaGreat
