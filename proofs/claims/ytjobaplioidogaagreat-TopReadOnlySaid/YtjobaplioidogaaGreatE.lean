/- Top: geometries: how many sectors a line, a device has. -/
import Derived.Test.YtjobaplioidogaaGreatC
import Derived.WalkKit
namespace Go.Proofs.YtjobaplioidogaaGreat
open Go.RowKit

def Ge.up (g : Ge) : Int := g.u * g.p
def Ge.ln (g : Ge) : Int := g.u * g.p * g.s
def Ge.al (g : Ge) : Int := g.ln * g.b
theorem mul_bd {a b m n : Int} (ha : 1 ≤ a ∧ a ≤ m) (hb : 1 ≤ b ∧ b ≤ n) : 1 ≤ a * b ∧ a * b ≤ m * n := by
  refine ⟨?_, Int.mul_le_mul ha.2 hb.2 (by omega) (by omega)⟩
  have := Int.mul_pos (show 0 < a by omega) (show 0 < b by omega)
  omega
theorem Ge.Is.up {g : Ge} (h : g.Is) : 1 ≤ g.up ∧ g.up ≤ 256 := mul_bd (m := 8) (n := 32) h.u h.p
theorem Ge.Is.ln {g : Ge} (h : g.Is) : 1 ≤ g.ln ∧ g.ln ≤ 1024 := mul_bd (m := 256) (n := 4) h.up h.s
theorem Ge.Is.al {g : Ge} (h : g.Is) : 1 ≤ g.al ∧ g.al ≤ 65536 := mul_bd (m := 1024) (n := 64) h.ln h.b

set_option maxHeartbeats 2000000 in
theorem shLine_any (g : Ge) (h : g.Is) (w : World) : Calls Tryz.prog 98 #[g.val] w fun e w' => e = .returned (.int .i64 g.ln) ∧ Only (fun _ => False) w w' := by
  have HU := Lib.hid (shUnits_any g h)
  have hup := h.up
  have hln := h.ln
  have hv : g.ln = g.u * g.p * g.s := rfl
  unfold Ge.up at hup
  unfold Ge.ln at hln
  unfold Ge.val at *
  obtain ⟨c, l, b, p, s⟩ := g
  simp only at hup hln hv HU
  have HV := Lib.hid hv
  generalize Ge.ln _ = V at *
  generalize Ge.u _ = u at *
  have e1 : IntKind.i64.wrap (u * p) = u * p := IntWalk.i64_in _ (by omega)
  have e1' : wrap64 (u * p) = u * p := by rw [← IntWalk.i64_left]; exact e1
  have e2 : IntKind.i64.wrap (u * p * s) = u * p * s := IntWalk.i64_in _ (by omega)
  have e2' : wrap64 (u * p * s) = u * p * s := by rw [← IntWalk.i64_left]; exact e2
  clear hv
  have HB := Lib.hid (At.new w 173 #[.int .i64 c, .int .i64 l, .int .i64 b, .int .i64 p, .int .i64 s])
  have HO0 := Lib.hid ((Only.refl (fun _ => False) w).alloc (.cells #[.int .i64 c, .int .i64 l, .int .i64 b, .int .i64 p, .int .i64 s] 173))
  clear h
  go_enter Tryz.func98, Tryz.ntmps98
  go_wp2_with (fail)
  refine wp_region_held_drew (S := (fun W => (W.cell? ⟨w.heap.size, 0, none⟩ = some (.int .i64 c) ∧ W.cell? ⟨w.heap.size, 1, none⟩ = some (.int .i64 l)) ∧ (W.cell? ⟨w.heap.size, 2, none⟩ = some (.int .i64 b) ∧ W.cell? ⟨w.heap.size, 3, none⟩ = some (.int .i64 p)) ∧ W.cell? ⟨w.heap.size, 4, none⟩ = some (.int .i64 s))) (by kernel_rfl) ?_ (fun hHeld => ?_)
  · exact ⟨⟨HB.out.cell 0, HB.out.cell 1⟩, ⟨HB.out.cell 2, HB.out.cell 3⟩, HB.out.cell 4⟩
  refine wpAnyH_take (i := 0) (oi := { dst := some 3, op := Op.load 173 (Operand.tmp 1), type := 173, pos := "geom.go:10", after := #[], guard := none }) (v := ?_) rfl (by kernel_rfl) (by kernel_rfl) (by kernel_rfl) (fun _ _ _ h => h) (Or.inl ⟨by rfl, ?_⟩) (by assumption) ?_
  rotate_left
  · (intro w hSw; (try dsimp only at hSw); (try obtain ⟨hSa, hSb⟩ := hSw); go_simp; try with_reducible rfl)
  try simp only [Act.put, List.setIfInBounds_toArray, List.set_cons_zero, List.set_cons_succ]
  refine wpAnyH_take (i := 2) (oi := { dst := some 5, op := Op.fieldAddr 173 (Operand.tmp 1) 3, type := 0, pos := "geom.go:10", after := #[], guard := none }) (v := ?_) rfl (by kernel_rfl) (by kernel_rfl) (by kernel_rfl) (fun _ _ _ h => h) (Or.inl ⟨by rfl, ?_⟩) (by assumption) ?_
  rotate_left
  · (intro w hSw; (try dsimp only at hSw); (try obtain ⟨hSa, hSb⟩ := hSw); go_simp; try with_reducible rfl)
  try simp only [Act.put, List.setIfInBounds_toArray, List.set_cons_zero, List.set_cons_succ]
  refine wpAnyH_take (i := 3) (oi := { dst := some 6, op := Op.load 3 (Operand.tmp 5), type := 3, pos := "geom.go:10", after := #[{ on := 2, ground := Ground.data }], guard := none }) (v := ?_) rfl (by kernel_rfl) (by kernel_rfl) (by kernel_rfl) (fun _ _ _ h => h) (Or.inl ⟨by rfl, ?_⟩) (by assumption) ?_
  rotate_left
  · (intro w hSw; (try dsimp only at hSw); (try obtain ⟨hSa, hSb⟩ := hSw); go_simp; try with_reducible rfl)
  try simp only [Act.put, List.setIfInBounds_toArray, List.set_cons_zero, List.set_cons_succ]
  refine wpAnyH_take (i := 5) (oi := { dst := some 8, op := Op.fieldAddr 173 (Operand.tmp 1) 4, type := 0, pos := "geom.go:10", after := #[], guard := none }) (v := ?_) rfl (by kernel_rfl) (by kernel_rfl) (by kernel_rfl) (fun _ _ _ h => h) (Or.inl ⟨by rfl, ?_⟩) (by assumption) ?_
  rotate_left
  · (intro w hSw; (try dsimp only at hSw); (try obtain ⟨hSa, hSb⟩ := hSw); go_simp; try with_reducible rfl)
  try simp only [Act.put, List.setIfInBounds_toArray, List.set_cons_zero, List.set_cons_succ]
  refine wpAnyH_take (i := 6) (oi := { dst := some 9, op := Op.load 3 (Operand.tmp 8), type := 3, pos := "geom.go:10", after := #[{ on := 5, ground := Ground.data }], guard := none }) (v := ?_) rfl (by kernel_rfl) (by kernel_rfl) (by kernel_rfl) (fun _ _ _ h => h) (Or.inl ⟨by rfl, ?_⟩) (by assumption) ?_
  rotate_left
  · (intro w hSw; (try dsimp only at hSw); (try obtain ⟨hSa, hSb⟩ := hSw); go_simp; try with_reducible rfl)
  try simp only [Act.put, List.setIfInBounds_toArray, List.set_cons_zero, List.set_cons_succ]
  refine wpAnyH_ready (rs := [1]) (by kernel_rfl) (by simp) ?_
  refine AllReadyH.cons (o := { dst := some 4, op := Op.call { callee := Callee.value (Operand.func 90), args := #[Operand.tmp 3], argTypes := #[173] }, type := 3, pos := "geom.go:10", after := #[{ on := 0, ground := Ground.data }], guard := none }) rfl (fun K hK => ?_) AllReadyH.nil
  go_simp
  (refine (HU.out _).mono ?_; rintro e w2 ⟨rfl, hO2⟩; have hOd := (Only.refl (fun _ => False) _).drew.trans hO2; have HOE := Lib.hid (HO0.out.trans hOd); have HB2 := Lib.hid (HB.out.only hOd id); clear hO2 hOd; try simp only [])
  refine hK.out _ _ ?_ (fun hHeld => ?_)
  · exact ⟨⟨HB2.out.cell 0, HB2.out.cell 1⟩, ⟨HB2.out.cell 2, HB2.out.cell 3⟩, HB2.out.cell 4⟩
  clear hK K
  try simp only [Act.put, List.setIfInBounds_toArray, List.set_cons_zero, List.set_cons_succ]
  refine wpAnyH_take (i := 4) (oi := { dst := some 7, op := Op.binOp BinOp.mul 3 (Operand.tmp 4) (Operand.tmp 6) 3, type := 3, pos := "geom.go:10", after := #[{ on := 1, ground := Ground.data }, { on := 3, ground := Ground.data }], guard := none }) (v := ?_) rfl (by kernel_rfl) (by kernel_rfl) (by kernel_rfl) (fun _ _ _ h => h) (Or.inl ⟨by rfl, ?_⟩) (by assumption) ?_
  rotate_left
  · (intro w hSw; (try dsimp only at hSw); (try obtain ⟨hSa, hSb⟩ := hSw); go_simp; try with_reducible rfl)
  try simp only [Act.put, List.setIfInBounds_toArray, List.set_cons_zero, List.set_cons_succ]
  refine wpAnyH_take (i := 7) (oi := { dst := some 10, op := Op.binOp BinOp.mul 3 (Operand.tmp 7) (Operand.tmp 9) 3, type := 3, pos := "geom.go:10", after := #[{ on := 4, ground := Ground.data }, { on := 6, ground := Ground.data }], guard := none }) (v := ?_) rfl (by kernel_rfl) (by kernel_rfl) (by kernel_rfl) (fun _ _ _ h => h) (Or.inl ⟨by rfl, ?_⟩) (by assumption) ?_
  rotate_left
  · (intro w hSw; (try dsimp only at hSw); (try obtain ⟨hSa, hSb⟩ := hSw); go_simp; try with_reducible rfl)
  try simp only [Act.put, List.setIfInBounds_toArray, List.set_cons_zero, List.set_cons_succ]
  refine wpAnyH_take (i := 8) (oi := { dst := some 2, op := Op.assign (Operand.tmp 10), type := 3, pos := "geom.go:10", after := #[{ on := 7, ground := Ground.data }, { on := 1, ground := Ground.chain }, { on := 0, ground := Ground.phase }, { on := 1, ground := Ground.phase }, { on := 2, ground := Ground.phase }, { on := 3, ground := Ground.phase }, { on := 4, ground := Ground.phase }, { on := 5, ground := Ground.phase }, { on := 6, ground := Ground.phase }, { on := 7, ground := Ground.phase }], guard := none }) (v := ?_) rfl (by kernel_rfl) (by kernel_rfl) (by kernel_rfl) (fun _ _ _ h => h) (Or.inl ⟨by rfl, ?_⟩) (by assumption) ?_
  rotate_left
  · (intro w hSw; (try dsimp only at hSw); (try obtain ⟨hSa, hSb⟩ := hSw); go_simp; try with_reducible rfl)
  try simp only [Act.put, List.setIfInBounds_toArray, List.set_cons_zero, List.set_cons_succ]
  refine wpAnyH_done (by kernel_rfl) ?_ _
  go_wp2
  go_ret
  exact ⟨ret_i (HV.out).symm, HOE.out⟩

set_option maxHeartbeats 2000000 in
theorem shAll_any (g : Ge) (h : g.Is) (w : World) : Calls Tryz.prog 159 #[g.val] w fun e w' => e = .returned (.int .i64 g.al) ∧ Only (fun _ => False) w w' := by
  have HU := Lib.hid (shLine_any g h)
  have hln := h.ln
  have hal := h.al
  have hv : g.al = g.ln * g.b := rfl
  unfold Ge.al at hal
  unfold Ge.val at *
  obtain ⟨c, l, b, p, s⟩ := g
  simp only at hln hal hv HU
  have HV := Lib.hid hv
  generalize Ge.al _ = V at *
  generalize Ge.ln _ = u at *
  have e1 : IntKind.i64.wrap (u * b) = u * b := IntWalk.i64_in _ (by omega)
  have e1' : wrap64 (u * b) = u * b := by rw [← IntWalk.i64_left]; exact e1
  clear hv
  have HB := Lib.hid (At.new w 173 #[.int .i64 c, .int .i64 l, .int .i64 b, .int .i64 p, .int .i64 s])
  have HO0 := Lib.hid ((Only.refl (fun _ => False) w).alloc (.cells #[.int .i64 c, .int .i64 l, .int .i64 b, .int .i64 p, .int .i64 s] 173))
  clear h
  go_enter Tryz.func159, Tryz.ntmps159
  go_wp2_with (fail)
  refine wp_region_held_drew (S := (fun W => (W.cell? ⟨w.heap.size, 0, none⟩ = some (.int .i64 c) ∧ W.cell? ⟨w.heap.size, 1, none⟩ = some (.int .i64 l)) ∧ (W.cell? ⟨w.heap.size, 2, none⟩ = some (.int .i64 b) ∧ W.cell? ⟨w.heap.size, 3, none⟩ = some (.int .i64 p)) ∧ W.cell? ⟨w.heap.size, 4, none⟩ = some (.int .i64 s))) (by kernel_rfl) ?_ (fun hHeld => ?_)
  · exact ⟨⟨HB.out.cell 0, HB.out.cell 1⟩, ⟨HB.out.cell 2, HB.out.cell 3⟩, HB.out.cell 4⟩
  refine wpAnyH_take (i := 0) (oi := { dst := some 3, op := Op.load 173 (Operand.tmp 1), type := 173, pos := "geom.go:11", after := #[], guard := none }) (v := ?_) rfl (by kernel_rfl) (by kernel_rfl) (by kernel_rfl) (fun _ _ _ h => h) (Or.inl ⟨by rfl, ?_⟩) (by assumption) ?_
  rotate_left
  · (intro w hSw; (try dsimp only at hSw); (try obtain ⟨hSa, hSb⟩ := hSw); go_simp; try with_reducible rfl)
  try simp only [Act.put, List.setIfInBounds_toArray, List.set_cons_zero, List.set_cons_succ]
  refine wpAnyH_take (i := 2) (oi := { dst := some 5, op := Op.fieldAddr 173 (Operand.tmp 1) 2, type := 0, pos := "geom.go:11", after := #[], guard := none }) (v := ?_) rfl (by kernel_rfl) (by kernel_rfl) (by kernel_rfl) (fun _ _ _ h => h) (Or.inl ⟨by rfl, ?_⟩) (by assumption) ?_
  rotate_left
  · (intro w hSw; (try dsimp only at hSw); (try obtain ⟨hSa, hSb⟩ := hSw); go_simp; try with_reducible rfl)
  try simp only [Act.put, List.setIfInBounds_toArray, List.set_cons_zero, List.set_cons_succ]
  refine wpAnyH_take (i := 3) (oi := { dst := some 6, op := Op.load 3 (Operand.tmp 5), type := 3, pos := "geom.go:11", after := #[{ on := 2, ground := Ground.data }], guard := none }) (v := ?_) rfl (by kernel_rfl) (by kernel_rfl) (by kernel_rfl) (fun _ _ _ h => h) (Or.inl ⟨by rfl, ?_⟩) (by assumption) ?_
  rotate_left
  · (intro w hSw; (try dsimp only at hSw); (try obtain ⟨hSa, hSb⟩ := hSw); go_simp; try with_reducible rfl)
  try simp only [Act.put, List.setIfInBounds_toArray, List.set_cons_zero, List.set_cons_succ]
  refine wpAnyH_ready (rs := [1]) (by kernel_rfl) (by simp) ?_
  refine AllReadyH.cons (o := { dst := some 4, op := Op.call { callee := Callee.value (Operand.func 98), args := #[Operand.tmp 3], argTypes := #[173] }, type := 3, pos := "geom.go:11", after := #[{ on := 0, ground := Ground.data }], guard := none }) rfl (fun K hK => ?_) AllReadyH.nil
  go_simp
  (refine (HU.out _).mono ?_; rintro e w2 ⟨rfl, hO2⟩; have hOd := (Only.refl (fun _ => False) _).drew.trans hO2; have HOE := Lib.hid (HO0.out.trans hOd); have HB2 := Lib.hid (HB.out.only hOd id); clear hO2 hOd; try simp only [])
  refine hK.out _ _ ?_ (fun hHeld => ?_)
  · exact ⟨⟨HB2.out.cell 0, HB2.out.cell 1⟩, ⟨HB2.out.cell 2, HB2.out.cell 3⟩, HB2.out.cell 4⟩
  clear hK K
  try simp only [Act.put, List.setIfInBounds_toArray, List.set_cons_zero, List.set_cons_succ]
  refine wpAnyH_take (i := 4) (oi := { dst := some 7, op := Op.binOp BinOp.mul 3 (Operand.tmp 4) (Operand.tmp 6) 3, type := 3, pos := "geom.go:11", after := #[{ on := 1, ground := Ground.data }, { on := 3, ground := Ground.data }], guard := none }) (v := ?_) rfl (by kernel_rfl) (by kernel_rfl) (by kernel_rfl) (fun _ _ _ h => h) (Or.inl ⟨by rfl, ?_⟩) (by assumption) ?_
  rotate_left
  · (intro w hSw; (try dsimp only at hSw); (try obtain ⟨hSa, hSb⟩ := hSw); go_simp; try with_reducible rfl)
  try simp only [Act.put, List.setIfInBounds_toArray, List.set_cons_zero, List.set_cons_succ]
  refine wpAnyH_take (i := 5) (oi := { dst := some 2, op := Op.assign (Operand.tmp 7), type := 3, pos := "geom.go:11", after := #[{ on := 4, ground := Ground.data }, { on := 1, ground := Ground.chain }, { on := 0, ground := Ground.phase }, { on := 1, ground := Ground.phase }, { on := 2, ground := Ground.phase }, { on := 3, ground := Ground.phase }, { on := 4, ground := Ground.phase }], guard := none }) (v := ?_) rfl (by kernel_rfl) (by kernel_rfl) (by kernel_rfl) (fun _ _ _ h => h) (Or.inl ⟨by rfl, ?_⟩) (by assumption) ?_
  rotate_left
  · (intro w hSw; (try dsimp only at hSw); (try obtain ⟨hSa, hSb⟩ := hSw); go_simp; try with_reducible rfl)
  try simp only [Act.put, List.setIfInBounds_toArray, List.set_cons_zero, List.set_cons_succ]
  refine wpAnyH_done (by kernel_rfl) ?_ _
  go_wp2
  go_ret
  exact ⟨ret_i (HV.out).symm, HOE.out⟩

set_option maxHeartbeats 1000000 in
theorem asked83 (g : Ge) (h : g.Is) (w : World) : Calls Tryz.prog 89 #[g.val, .func (.func 98) #[g.val] #[]] w fun e w' => e = .returned (.int .i64 g.ln) ∧ Only (fun _ => False) w w' := by
  have HR := fun w => Lib.hid (right_any g h.wf w)
  have HS := fun w => Lib.hid (shLine_any g h w)
  rw [h.ok] at HR
  unfold Ge.val at HR HS ⊢
  clear h
  go_enter Tryz.func89, Tryz.ntmps89
  go_wp2_with (fail)
  refine (HR _).out.mono ?_
  rintro e w1 ⟨rfl, hO⟩
  have HO := Lib.hid (((Only.refl _ _).alloc _).trans hO)
  clear hO
  go_wp2_with (fail)
  refine (HS _).out.mono ?_
  rintro e w2 ⟨rfl, hO⟩
  have HO2 := Lib.hid (HO.out.trans hO)
  clear hO HO
  go_wp2
  go_ret
  exact ⟨rfl, HO2.out⟩

set_option maxHeartbeats 1000000 in
theorem line_any (g : Ge) (h : g.Is) (w : World) : Calls Tryz.prog 83 #[g.val] w fun e w' => e = .returned (.int .i64 g.ln) ∧ Only (fun _ => False) w w' := by
  have HS := fun w => Lib.hid (asked83 g h w)
  unfold Ge.val at HS ⊢
  clear h
  go_enter Tryz.func83, Tryz.ntmps83
  go_wp2_with (fail)
  refine (HS _).out.mono ?_
  rintro e w2 ⟨rfl, hO⟩
  have HO2 := Lib.hid (((Only.refl _ _).alloc _).trans hO)
  clear hO
  go_wp2
  go_ret
  exact ⟨rfl, HO2.out⟩

set_option maxHeartbeats 1000000 in
theorem asked101 (g : Ge) (h : g.Is) (w : World) : Calls Tryz.prog 89 #[g.val, .func (.func 159) #[g.val] #[]] w fun e w' => e = .returned (.int .i64 g.al) ∧ Only (fun _ => False) w w' := by
  have HR := fun w => Lib.hid (right_any g h.wf w)
  have HS := fun w => Lib.hid (shAll_any g h w)
  rw [h.ok] at HR
  unfold Ge.val at HR HS ⊢
  clear h
  go_enter Tryz.func89, Tryz.ntmps89
  go_wp2_with (fail)
  refine (HR _).out.mono ?_
  rintro e w1 ⟨rfl, hO⟩
  have HO := Lib.hid (((Only.refl _ _).alloc _).trans hO)
  clear hO
  go_wp2_with (fail)
  refine (HS _).out.mono ?_
  rintro e w2 ⟨rfl, hO⟩
  have HO2 := Lib.hid (HO.out.trans hO)
  clear hO HO
  go_wp2
  go_ret
  exact ⟨rfl, HO2.out⟩

set_option maxHeartbeats 1000000 in
theorem all_any (g : Ge) (h : g.Is) (w : World) : Calls Tryz.prog 101 #[g.val] w fun e w' => e = .returned (.int .i64 g.al) ∧ Only (fun _ => False) w w' := by
  have HS := fun w => Lib.hid (asked101 g h w)
  unfold Ge.val at HS ⊢
  clear h
  go_enter Tryz.func101, Tryz.ntmps101
  go_wp2_with (fail)
  refine (HS _).out.mono ?_
  rintro e w2 ⟨rfl, hO⟩
  have HO2 := Lib.hid (((Only.refl _ _).alloc _).trans hO)
  clear hO
  go_wp2
  go_ret
  exact ⟨rfl, HO2.out⟩

set_option maxHeartbeats 1000000 in
theorem refOne_any (g : Ge) (h : g.Is) (w : World) : Calls Tryz.prog 62 #[g.val] w fun e w' => e = .returned (.int .i64 1) ∧ Only (fun _ => False) w w' := by
  have HR := fun w => Lib.hid (refRight_any g w)
  rw [h.ok] at HR
  unfold Ge.val at HR ⊢
  clear h
  go_enter Tryz.func62, Tryz.ntmps62
  go_wp2_with (fail)
  refine (HR _).out.mono ?_
  rintro e w1 ⟨rfl, hO⟩
  have HO := Lib.hid (((Only.refl _ _).alloc _).trans hO)
  clear hO
  go_wp2
  go_ret
  exact ⟨rfl, HO.out⟩

set_option maxHeartbeats 2000000 in
theorem refLine_any (g : Ge) (h : g.Is) (w : World) : Calls Tryz.prog 61 #[g.val] w fun e w' => e = .returned (.int .i64 g.ln) ∧ Only (fun _ => False) w w' := by
  have HU := Lib.hid (refUnits_any g h)
  have H1 := Lib.hid (refOne_any g h)
  have hup := h.up
  have hln := h.ln
  have hv : g.ln = g.u * g.p * g.s := rfl
  unfold Ge.up at hup
  unfold Ge.ln at hln
  unfold Ge.val at *
  obtain ⟨c, l, b, p, s⟩ := g
  simp only at hup hln hv HU
  have HV := Lib.hid hv
  generalize Ge.ln _ = V at *
  generalize Ge.u _ = u at *
  have e1 : IntKind.i64.wrap (u * p) = u * p := IntWalk.i64_in _ (by omega)
  have e1' : wrap64 (u * p) = u * p := by rw [← IntWalk.i64_left]; exact e1
  have e2 : IntKind.i64.wrap (u * p * s) = u * p * s := IntWalk.i64_in _ (by omega)
  have e2' : wrap64 (u * p * s) = u * p * s := by rw [← IntWalk.i64_left]; exact e2
  have e3 : IntKind.i64.wrap (u * p * s * 1) = u * p * s := by rw [Int.mul_one]; exact e2
  have e3' : wrap64 (u * p * s * 1) = u * p * s := by rw [Int.mul_one]; exact e2'
  clear hv
  have HB := Lib.hid (At.new w 23 #[.int .i64 c, .int .i64 l, .int .i64 b, .int .i64 p, .int .i64 s])
  have HO0 := Lib.hid ((Only.refl (fun _ => False) w).alloc (.cells #[.int .i64 c, .int .i64 l, .int .i64 b, .int .i64 p, .int .i64 s] 23))
  clear h
  go_enter Tryz.func61, Tryz.ntmps61
  go_wp2_with (fail)
  refine wp_region_held_drew (S := (fun W => (W.cell? ⟨w.heap.size, 0, none⟩ = some (.int .i64 c) ∧ W.cell? ⟨w.heap.size, 1, none⟩ = some (.int .i64 l)) ∧ (W.cell? ⟨w.heap.size, 2, none⟩ = some (.int .i64 b) ∧ W.cell? ⟨w.heap.size, 3, none⟩ = some (.int .i64 p)) ∧ W.cell? ⟨w.heap.size, 4, none⟩ = some (.int .i64 s))) (by kernel_rfl) ?_ (fun hHeld => ?_)
  · exact ⟨⟨HB.out.cell 0, HB.out.cell 1⟩, ⟨HB.out.cell 2, HB.out.cell 3⟩, HB.out.cell 4⟩
  refine wpAnyH_take (i := 0) (oi := { dst := some 3, op := Op.load 23 (Operand.tmp 1), type := 23, pos := "ref.go:29", after := #[], guard := none }) (v := ?_) rfl (by kernel_rfl) (by kernel_rfl) (by kernel_rfl) (fun _ _ _ h => h) (Or.inl ⟨by rfl, ?_⟩) (by assumption) ?_
  rotate_left
  · (intro w hSw; (try dsimp only at hSw); (try obtain ⟨hSa, hSb⟩ := hSw); go_simp; try with_reducible rfl)
  try simp only [Act.put, List.setIfInBounds_toArray, List.set_cons_zero, List.set_cons_succ]
  refine wpAnyH_take (i := 2) (oi := { dst := some 5, op := Op.fieldAddr 23 (Operand.tmp 1) 3, type := 0, pos := "ref.go:29", after := #[], guard := none }) (v := ?_) rfl (by kernel_rfl) (by kernel_rfl) (by kernel_rfl) (fun _ _ _ h => h) (Or.inl ⟨by rfl, ?_⟩) (by assumption) ?_
  rotate_left
  · (intro w hSw; (try dsimp only at hSw); (try obtain ⟨hSa, hSb⟩ := hSw); go_simp; try with_reducible rfl)
  try simp only [Act.put, List.setIfInBounds_toArray, List.set_cons_zero, List.set_cons_succ]
  refine wpAnyH_take (i := 3) (oi := { dst := some 6, op := Op.load 3 (Operand.tmp 5), type := 3, pos := "ref.go:29", after := #[{ on := 2, ground := Ground.data }], guard := none }) (v := ?_) rfl (by kernel_rfl) (by kernel_rfl) (by kernel_rfl) (fun _ _ _ h => h) (Or.inl ⟨by rfl, ?_⟩) (by assumption) ?_
  rotate_left
  · (intro w hSw; (try dsimp only at hSw); (try obtain ⟨hSa, hSb⟩ := hSw); go_simp; try with_reducible rfl)
  try simp only [Act.put, List.setIfInBounds_toArray, List.set_cons_zero, List.set_cons_succ]
  refine wpAnyH_take (i := 5) (oi := { dst := some 8, op := Op.fieldAddr 23 (Operand.tmp 1) 4, type := 0, pos := "ref.go:29", after := #[], guard := none }) (v := ?_) rfl (by kernel_rfl) (by kernel_rfl) (by kernel_rfl) (fun _ _ _ h => h) (Or.inl ⟨by rfl, ?_⟩) (by assumption) ?_
  rotate_left
  · (intro w hSw; (try dsimp only at hSw); (try obtain ⟨hSa, hSb⟩ := hSw); go_simp; try with_reducible rfl)
  try simp only [Act.put, List.setIfInBounds_toArray, List.set_cons_zero, List.set_cons_succ]
  refine wpAnyH_take (i := 6) (oi := { dst := some 9, op := Op.load 3 (Operand.tmp 8), type := 3, pos := "ref.go:29", after := #[{ on := 5, ground := Ground.data }], guard := none }) (v := ?_) rfl (by kernel_rfl) (by kernel_rfl) (by kernel_rfl) (fun _ _ _ h => h) (Or.inl ⟨by rfl, ?_⟩) (by assumption) ?_
  rotate_left
  · (intro w hSw; (try dsimp only at hSw); (try obtain ⟨hSa, hSb⟩ := hSw); go_simp; try with_reducible rfl)
  try simp only [Act.put, List.setIfInBounds_toArray, List.set_cons_zero, List.set_cons_succ]
  refine wpAnyH_take (i := 8) (oi := { dst := some 11, op := Op.load 23 (Operand.tmp 1), type := 23, pos := "ref.go:29", after := #[], guard := none }) (v := ?_) rfl (by kernel_rfl) (by kernel_rfl) (by kernel_rfl) (fun _ _ _ h => h) (Or.inl ⟨by rfl, ?_⟩) (by assumption) ?_
  rotate_left
  · (intro w hSw; (try dsimp only at hSw); (try obtain ⟨hSa, hSb⟩ := hSw); go_simp; try with_reducible rfl)
  try simp only [Act.put, List.setIfInBounds_toArray, List.set_cons_zero, List.set_cons_succ]
  refine wpAnyH_ready (rs := [1]) (by kernel_rfl) (by simp) ?_
  refine AllReadyH.cons (o := { dst := some 4, op := Op.call { callee := Callee.value (Operand.func 26), args := #[Operand.tmp 3], argTypes := #[23] }, type := 3, pos := "ref.go:29", after := #[{ on := 0, ground := Ground.data }], guard := none }) rfl (fun K hK => ?_) AllReadyH.nil
  go_simp
  (refine (HU.out _).mono ?_; rintro e w2 ⟨rfl, hO2⟩; have hOd := (Only.refl (fun _ => False) _).drew.trans hO2; have HOE := Lib.hid (HO0.out.trans hOd); have HB2 := Lib.hid (HB.out.only hOd id); clear hO2 hOd; try simp only [])
  refine hK.out _ _ ?_ (fun hHeld => ?_)
  · exact ⟨⟨HB2.out.cell 0, HB2.out.cell 1⟩, ⟨HB2.out.cell 2, HB2.out.cell 3⟩, HB2.out.cell 4⟩
  clear hK K
  try simp only [Act.put, List.setIfInBounds_toArray, List.set_cons_zero, List.set_cons_succ]
  refine wpAnyH_take (i := 4) (oi := { dst := some 7, op := Op.binOp BinOp.mul 3 (Operand.tmp 4) (Operand.tmp 6) 3, type := 3, pos := "ref.go:29", after := #[{ on := 1, ground := Ground.data }, { on := 3, ground := Ground.data }], guard := none }) (v := ?_) rfl (by kernel_rfl) (by kernel_rfl) (by kernel_rfl) (fun _ _ _ h => h) (Or.inl ⟨by rfl, ?_⟩) (by assumption) ?_
  rotate_left
  · (intro w hSw; (try dsimp only at hSw); (try obtain ⟨hSa, hSb⟩ := hSw); go_simp; try with_reducible rfl)
  try simp only [Act.put, List.setIfInBounds_toArray, List.set_cons_zero, List.set_cons_succ]
  refine wpAnyH_take (i := 7) (oi := { dst := some 10, op := Op.binOp BinOp.mul 3 (Operand.tmp 7) (Operand.tmp 9) 3, type := 3, pos := "ref.go:29", after := #[{ on := 4, ground := Ground.data }, { on := 6, ground := Ground.data }], guard := none }) (v := ?_) rfl (by kernel_rfl) (by kernel_rfl) (by kernel_rfl) (fun _ _ _ h => h) (Or.inl ⟨by rfl, ?_⟩) (by assumption) ?_
  rotate_left
  · (intro w hSw; (try dsimp only at hSw); (try obtain ⟨hSa, hSb⟩ := hSw); go_simp; try with_reducible rfl)
  try simp only [Act.put, List.setIfInBounds_toArray, List.set_cons_zero, List.set_cons_succ]
  refine wpAnyH_ready (rs := [9]) (by kernel_rfl) (by simp) ?_
  refine AllReadyH.cons (o := { dst := some 12, op := Op.call { callee := Callee.value (Operand.func 62), args := #[Operand.tmp 11], argTypes := #[23] }, type := 3, pos := "ref.go:29", after := #[{ on := 8, ground := Ground.data }, { on := 1, ground := Ground.chain }], guard := none }) rfl (fun K hK => ?_) AllReadyH.nil
  go_simp
  (refine (H1.out _).mono ?_; rintro e w3 ⟨rfl, hO2⟩; have HOE := Lib.hid (HOE.out.trans hO2); have HB2 := Lib.hid (HB2.out.only hO2 id); clear hO2; try simp only [])
  refine hK.out _ _ ?_ (fun hHeld => ?_)
  · exact ⟨⟨HB2.out.cell 0, HB2.out.cell 1⟩, ⟨HB2.out.cell 2, HB2.out.cell 3⟩, HB2.out.cell 4⟩
  clear hK K
  try simp only [Act.put, List.setIfInBounds_toArray, List.set_cons_zero, List.set_cons_succ]
  refine wpAnyH_take (i := 10) (oi := { dst := some 13, op := Op.binOp BinOp.mul 3 (Operand.tmp 10) (Operand.tmp 12) 3, type := 3, pos := "ref.go:29", after := #[{ on := 7, ground := Ground.data }, { on := 9, ground := Ground.data }], guard := none }) (v := ?_) rfl (by kernel_rfl) (by kernel_rfl) (by kernel_rfl) (fun _ _ _ h => h) (Or.inl ⟨by rfl, ?_⟩) (by assumption) ?_
  rotate_left
  · (intro w hSw; (try dsimp only at hSw); (try obtain ⟨hSa, hSb⟩ := hSw); go_simp; try with_reducible rfl)
  try simp only [Act.put, List.setIfInBounds_toArray, List.set_cons_zero, List.set_cons_succ]
  refine wpAnyH_take (i := 11) (oi := { dst := some 2, op := Op.assign (Operand.tmp 13), type := 3, pos := "ref.go:29", after := #[{ on := 10, ground := Ground.data }, { on := 9, ground := Ground.chain }, { on := 0, ground := Ground.phase }, { on := 1, ground := Ground.phase }, { on := 2, ground := Ground.phase }, { on := 3, ground := Ground.phase }, { on := 4, ground := Ground.phase }, { on := 5, ground := Ground.phase }, { on := 6, ground := Ground.phase }, { on := 7, ground := Ground.phase }, { on := 8, ground := Ground.phase }, { on := 9, ground := Ground.phase }, { on := 10, ground := Ground.phase }], guard := none }) (v := ?_) rfl (by kernel_rfl) (by kernel_rfl) (by kernel_rfl) (fun _ _ _ h => h) (Or.inl ⟨by rfl, ?_⟩) (by assumption) ?_
  rotate_left
  · (intro w hSw; (try dsimp only at hSw); (try obtain ⟨hSa, hSb⟩ := hSw); go_simp; try with_reducible rfl)
  try simp only [Act.put, List.setIfInBounds_toArray, List.set_cons_zero, List.set_cons_succ]
  refine wpAnyH_done (by kernel_rfl) ?_ _
  go_wp2
  go_ret
  exact ⟨ret_i (HV.out).symm, HOE.out⟩

set_option maxHeartbeats 2000000 in
theorem refAll_any (g : Ge) (h : g.Is) (w : World) : Calls Tryz.prog 23 #[g.val] w fun e w' => e = .returned (.int .i64 g.al) ∧ Only (fun _ => False) w w' := by
  have HU := Lib.hid (refLine_any g h)
  have H1 := Lib.hid (refOne_any g h)
  have hln := h.ln
  have hal := h.al
  have hv : g.al = g.ln * g.b := rfl
  unfold Ge.al at hal
  unfold Ge.val at *
  obtain ⟨c, l, b, p, s⟩ := g
  simp only at hln hal hv HU
  have HV := Lib.hid hv
  generalize Ge.al _ = V at *
  generalize Ge.ln _ = u at *
  have e1 : IntKind.i64.wrap (u * b) = u * b := IntWalk.i64_in _ (by omega)
  have e1' : wrap64 (u * b) = u * b := by rw [← IntWalk.i64_left]; exact e1
  have e3 : IntKind.i64.wrap (u * b * 1) = u * b := by rw [Int.mul_one]; exact e1
  have e3' : wrap64 (u * b * 1) = u * b := by rw [Int.mul_one]; exact e1'
  clear hv
  have HB := Lib.hid (At.new w 23 #[.int .i64 c, .int .i64 l, .int .i64 b, .int .i64 p, .int .i64 s])
  have HO0 := Lib.hid ((Only.refl (fun _ => False) w).alloc (.cells #[.int .i64 c, .int .i64 l, .int .i64 b, .int .i64 p, .int .i64 s] 23))
  clear h
  go_enter Tryz.func23, Tryz.ntmps23
  go_wp2_with (fail)
  refine wp_region_held_drew (S := (fun W => (W.cell? ⟨w.heap.size, 0, none⟩ = some (.int .i64 c) ∧ W.cell? ⟨w.heap.size, 1, none⟩ = some (.int .i64 l)) ∧ (W.cell? ⟨w.heap.size, 2, none⟩ = some (.int .i64 b) ∧ W.cell? ⟨w.heap.size, 3, none⟩ = some (.int .i64 p)) ∧ W.cell? ⟨w.heap.size, 4, none⟩ = some (.int .i64 s))) (by kernel_rfl) ?_ (fun hHeld => ?_)
  · exact ⟨⟨HB.out.cell 0, HB.out.cell 1⟩, ⟨HB.out.cell 2, HB.out.cell 3⟩, HB.out.cell 4⟩
  refine wpAnyH_take (i := 0) (oi := { dst := some 3, op := Op.load 23 (Operand.tmp 1), type := 23, pos := "ref.go:41", after := #[], guard := none }) (v := ?_) rfl (by kernel_rfl) (by kernel_rfl) (by kernel_rfl) (fun _ _ _ h => h) (Or.inl ⟨by rfl, ?_⟩) (by assumption) ?_
  rotate_left
  · (intro w hSw; (try dsimp only at hSw); (try obtain ⟨hSa, hSb⟩ := hSw); go_simp; try with_reducible rfl)
  try simp only [Act.put, List.setIfInBounds_toArray, List.set_cons_zero, List.set_cons_succ]
  refine wpAnyH_take (i := 2) (oi := { dst := some 5, op := Op.fieldAddr 23 (Operand.tmp 1) 2, type := 0, pos := "ref.go:41", after := #[], guard := none }) (v := ?_) rfl (by kernel_rfl) (by kernel_rfl) (by kernel_rfl) (fun _ _ _ h => h) (Or.inl ⟨by rfl, ?_⟩) (by assumption) ?_
  rotate_left
  · (intro w hSw; (try dsimp only at hSw); (try obtain ⟨hSa, hSb⟩ := hSw); go_simp; try with_reducible rfl)
  try simp only [Act.put, List.setIfInBounds_toArray, List.set_cons_zero, List.set_cons_succ]
  refine wpAnyH_take (i := 3) (oi := { dst := some 6, op := Op.load 3 (Operand.tmp 5), type := 3, pos := "ref.go:41", after := #[{ on := 2, ground := Ground.data }], guard := none }) (v := ?_) rfl (by kernel_rfl) (by kernel_rfl) (by kernel_rfl) (fun _ _ _ h => h) (Or.inl ⟨by rfl, ?_⟩) (by assumption) ?_
  rotate_left
  · (intro w hSw; (try dsimp only at hSw); (try obtain ⟨hSa, hSb⟩ := hSw); go_simp; try with_reducible rfl)
  try simp only [Act.put, List.setIfInBounds_toArray, List.set_cons_zero, List.set_cons_succ]
  refine wpAnyH_take (i := 5) (oi := { dst := some 8, op := Op.load 23 (Operand.tmp 1), type := 23, pos := "ref.go:41", after := #[], guard := none }) (v := ?_) rfl (by kernel_rfl) (by kernel_rfl) (by kernel_rfl) (fun _ _ _ h => h) (Or.inl ⟨by rfl, ?_⟩) (by assumption) ?_
  rotate_left
  · (intro w hSw; (try dsimp only at hSw); (try obtain ⟨hSa, hSb⟩ := hSw); go_simp; try with_reducible rfl)
  try simp only [Act.put, List.setIfInBounds_toArray, List.set_cons_zero, List.set_cons_succ]
  refine wpAnyH_ready (rs := [1]) (by kernel_rfl) (by simp) ?_
  refine AllReadyH.cons (o := { dst := some 4, op := Op.call { callee := Callee.value (Operand.func 61), args := #[Operand.tmp 3], argTypes := #[23] }, type := 3, pos := "ref.go:41", after := #[{ on := 0, ground := Ground.data }], guard := none }) rfl (fun K hK => ?_) AllReadyH.nil
  go_simp
  (refine (HU.out _).mono ?_; rintro e w2 ⟨rfl, hO2⟩; have hOd := (Only.refl (fun _ => False) _).drew.trans hO2; have HOE := Lib.hid (HO0.out.trans hOd); have HB2 := Lib.hid (HB.out.only hOd id); clear hO2 hOd; try simp only [])
  refine hK.out _ _ ?_ (fun hHeld => ?_)
  · exact ⟨⟨HB2.out.cell 0, HB2.out.cell 1⟩, ⟨HB2.out.cell 2, HB2.out.cell 3⟩, HB2.out.cell 4⟩
  clear hK K
  try simp only [Act.put, List.setIfInBounds_toArray, List.set_cons_zero, List.set_cons_succ]
  refine wpAnyH_take (i := 4) (oi := { dst := some 7, op := Op.binOp BinOp.mul 3 (Operand.tmp 4) (Operand.tmp 6) 3, type := 3, pos := "ref.go:41", after := #[{ on := 1, ground := Ground.data }, { on := 3, ground := Ground.data }], guard := none }) (v := ?_) rfl (by kernel_rfl) (by kernel_rfl) (by kernel_rfl) (fun _ _ _ h => h) (Or.inl ⟨by rfl, ?_⟩) (by assumption) ?_
  rotate_left
  · (intro w hSw; (try dsimp only at hSw); (try obtain ⟨hSa, hSb⟩ := hSw); go_simp; try with_reducible rfl)
  try simp only [Act.put, List.setIfInBounds_toArray, List.set_cons_zero, List.set_cons_succ]
  refine wpAnyH_ready (rs := [6]) (by kernel_rfl) (by simp) ?_
  refine AllReadyH.cons (o := { dst := some 9, op := Op.call { callee := Callee.value (Operand.func 62), args := #[Operand.tmp 8], argTypes := #[23] }, type := 3, pos := "ref.go:41", after := #[{ on := 5, ground := Ground.data }, { on := 1, ground := Ground.chain }], guard := none }) rfl (fun K hK => ?_) AllReadyH.nil
  go_simp
  (refine (H1.out _).mono ?_; rintro e w3 ⟨rfl, hO2⟩; have HOE := Lib.hid (HOE.out.trans hO2); have HB2 := Lib.hid (HB2.out.only hO2 id); clear hO2; try simp only [])
  refine hK.out _ _ ?_ (fun hHeld => ?_)
  · exact ⟨⟨HB2.out.cell 0, HB2.out.cell 1⟩, ⟨HB2.out.cell 2, HB2.out.cell 3⟩, HB2.out.cell 4⟩
  clear hK K
  try simp only [Act.put, List.setIfInBounds_toArray, List.set_cons_zero, List.set_cons_succ]
  refine wpAnyH_take (i := 7) (oi := { dst := some 10, op := Op.binOp BinOp.mul 3 (Operand.tmp 7) (Operand.tmp 9) 3, type := 3, pos := "ref.go:41", after := #[{ on := 4, ground := Ground.data }, { on := 6, ground := Ground.data }], guard := none }) (v := ?_) rfl (by kernel_rfl) (by kernel_rfl) (by kernel_rfl) (fun _ _ _ h => h) (Or.inl ⟨by rfl, ?_⟩) (by assumption) ?_
  rotate_left
  · (intro w hSw; (try dsimp only at hSw); (try obtain ⟨hSa, hSb⟩ := hSw); go_simp; try with_reducible rfl)
  try simp only [Act.put, List.setIfInBounds_toArray, List.set_cons_zero, List.set_cons_succ]
  refine wpAnyH_take (i := 8) (oi := { dst := some 2, op := Op.assign (Operand.tmp 10), type := 3, pos := "ref.go:41", after := #[{ on := 7, ground := Ground.data }, { on := 6, ground := Ground.chain }, { on := 0, ground := Ground.phase }, { on := 1, ground := Ground.phase }, { on := 2, ground := Ground.phase }, { on := 3, ground := Ground.phase }, { on := 4, ground := Ground.phase }, { on := 5, ground := Ground.phase }, { on := 6, ground := Ground.phase }, { on := 7, ground := Ground.phase }], guard := none }) (v := ?_) rfl (by kernel_rfl) (by kernel_rfl) (by kernel_rfl) (fun _ _ _ h => h) (Or.inl ⟨by rfl, ?_⟩) (by assumption) ?_
  rotate_left
  · (intro w hSw; (try dsimp only at hSw); (try obtain ⟨hSa, hSb⟩ := hSw); go_simp; try with_reducible rfl)
  try simp only [Act.put, List.setIfInBounds_toArray, List.set_cons_zero, List.set_cons_succ]
  refine wpAnyH_done (by kernel_rfl) ?_ _
  go_wp2
  go_ret
  exact ⟨ret_i (HV.out).symm, HOE.out⟩
end Go.Proofs.YtjobaplioidogaaGreat
