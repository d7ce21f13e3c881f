/- Top: what stands beside a sector, packed. -/
import Derived.Test.YtjobaplioidogaaGreatAP
import Derived.Laws.IdiomCopy
namespace Go.Proofs.YtjobaplioidogaaGreat
open Go.RowKit

def oobL : List Int := [1, 1, 0, 0, 0, 5, 0, 0, 0, 0, 0, 0, 0]
def datL : List Int := [9, 0, 0, 0, 0, 0, 0, 0, 0, 0, 0, 0, 0, 0, 0, 0]
def sumV : Int := crcL (crcL 0 oobL) datL
set_option maxRecDepth 100000 in
theorem sum_back : takeL (sumV % 256) (sumV / 256 % 256) (sumV / 65536 % 256) (sumV / 16777216 % 256) = sumV := by decide
def oobV : Value := .agg #[.int .i64 1, .int .i64 1, .int .i64 5]

set_option maxRecDepth 100000 in
set_option maxHeartbeats 4000000 in
theorem oobRight_one (w : World) : Calls Tryz.prog 91 #[oobV] w fun e w' => e = .returned (.bool true) ∧ Only (fun _ => False) w w' := by
  have hX := At.new w 105 #[.int .i64 1, .int .i64 1, .int .i64 5]
  have x0 := hX.cell 0
  have x1 := hX.cell 1
  have x2 := hX.cell 2
  simp only [List.getElem?_toArray, List.getElem?_cons_zero, List.getElem?_cons_succ] at x0 x1 x2
  have HO := Lib.hid ((Only.refl (fun _ => False) w).alloc (.cells #[.int .i64 1, .int .i64 1, .int .i64 5] 105))
  clear hX
  unfold oobV
  go_enter Tryz.func91, Tryz.ntmps91
  go_wp2
  go_ret
  exact ⟨rfl, HO.out⟩

set_option maxRecDepth 100000 in
theorem size5 : (Tryz.prog.info? 5).map (·.size) = some 1 := by
  obtain ⟨i0, hi0⟩ : ∃ i, Tryz.prog.info? 5 = some i := ⟨_, rfl⟩
  rw [hi0, Option.map_some, show i0.size = 1 by cases hi0; rfl]
/-- Four bytes are copied into a row. -/
theorem copy_four {W : World} {b o n g : Nat} {T : TypeId} {cs : Array Value} (n0 n1 n2 n3 : Int) (hA : At W b T cs) (hF : At W g 5 (bv [n0, n1, n2, n3]).toArray) (hs : o + 4 ≤ cs.size) (hn : 4 ≤ n) :
    (Builtin.copy_ #[27, 27] 3 #[.slice (some ⟨b, o, none⟩) n n, .slice (some ⟨g, 0, none⟩) 4 4]).run Tryz.prog W = .ok (.int .i64 4) ((((W.setCell ⟨b, o, none⟩ (.int .u8 n0)).setCell ⟨b, o + 1, none⟩ (.int .u8 n1)).setCell ⟨b, o + 1 + 1, none⟩ (.int .u8 n2)).setCell ⟨b, o + 1 + 1 + 1, none⟩ (.int .u8 n3)) := by
  have h := run_copy_cells (P := Tryz.prog) W 27 27 3 5 b o n n ⟨g, 0, none⟩ 4 4 (bv [n0, n1, n2, n3]) Tryz.underlying27 size5 (by show 4 = Nat.min 4 n; exact (Nat.min_eq_left hn).symm) (fun j v hj => At.reads hF j v hj) (fun j hj => by
      have hj' : j < 4 := hj
      rw [hA.cell, Array.getElem?_eq_getElem (by omega)]; rfl) (fun j _ => hA.frozen _) (bv_one _)
  rw [h]
  rfl

set_option maxRecDepth 100000 in
set_option maxHeartbeats 8000000 in
theorem laid_one (w : World) : Calls Tryz.prog 92 #[oobV] w fun e w' => e = .returned (.agg (bv oobL).toArray) ∧ Only (fun _ => False) w w' := by
  unfold oobV
  go_enter Tryz.func92, Tryz.ntmps92
  go_upto_region 3 with (fail)
  obtain ⟨W, hW⟩ : ∃ W, W = (((w.alloc (.cells #[.int .i64 1, .int .i64 1, .int .i64 5] 105)).alloc (.cells #[.int .u8 0, .int .u8 0, .int .u8 0, .int .u8 0, .int .u8 0, .int .u8 0, .int .u8 0, .int .u8 0, .int .u8 0, .int .u8 0, .int .u8 0, .int .u8 0, .int .u8 0] 175)).alloc (.cells #[.int .u8 1, .int .u8 0, .int .u8 0, .int .u8 0, .int .u8 0, .int .u8 0, .int .u8 0, .int .u8 0, .int .u8 0, .int .u8 0, .int .u8 0, .int .u8 0, .int .u8 0] 175)) := ⟨_, rfl⟩
  have HXs := Lib.hid (show At W.drew w.heap.size 105 #[.int .i64 1, .int .i64 1, .int .i64 5] from by rw [hW]; exact (((At.new w 105 #[.int .i64 1, .int .i64 1, .int .i64 5]).alloc _).alloc _).drew)
  have HZs := Lib.hid (show At W.drew (w.heap.size + 1) 175 #[.int .u8 0, .int .u8 0, .int .u8 0, .int .u8 0, .int .u8 0, .int .u8 0, .int .u8 0, .int .u8 0, .int .u8 0, .int .u8 0, .int .u8 0, .int .u8 0, .int .u8 0] from by rw [hW]; exact ((At.new' (w := w.alloc (.cells #[.int .i64 1, .int .i64 1, .int .i64 5] 105)) (by simp) 175 #[.int .u8 0, .int .u8 0, .int .u8 0, .int .u8 0, .int .u8 0, .int .u8 0, .int .u8 0, .int .u8 0, .int .u8 0, .int .u8 0, .int .u8 0, .int .u8 0, .int .u8 0]).alloc _).drew)
  have HAs := Lib.hid (show At W.drew (w.heap.size + 1 + 1) 175 #[.int .u8 1, .int .u8 0, .int .u8 0, .int .u8 0, .int .u8 0, .int .u8 0, .int .u8 0, .int .u8 0, .int .u8 0, .int .u8 0, .int .u8 0, .int .u8 0, .int .u8 0] from by rw [hW]; exact (At.new' (by simp) 175 _).drew)
  have HOs := Lib.hid (show Only (fun _ => False) w W.drew from by rw [hW]; exact ((((Only.refl (fun _ => False) w).alloc _).alloc _).alloc _).drew)
  rw [← hW]
  clear hW
  refine wp_region_held_drew (S := (fun W => W.cell? ⟨w.heap.size, 1, none⟩ = some (.int .i64 1))) (by kernel_rfl) ?_ (fun hHeld => ?_)
  · exact HXs.out.cell 1
  refine wpAnyH_take (i := 0) (oi := { dst := some 8, op := Op.slice 175 (Operand.tmp 3) (some (Operand.const (Value.int IntKind.i64 1))) none none, type := 27, pos := "oob.go:21", after := #[], guard := none }) (v := ?_) rfl (by kernel_rfl) (by kernel_rfl) (by kernel_rfl) (fun _ _ _ h => h) (Or.inl ⟨by rfl, ?_⟩) (by assumption) ?_
  rotate_left
  · (intro w hSw; (try dsimp only at hSw); (try obtain ⟨hSa, hSb⟩ := hSw); go_simp; try with_reducible rfl)
  try simp only [Act.put, List.setIfInBounds_toArray, List.set_cons_zero, List.set_cons_succ]
  refine wpAnyH_take (i := 1) (oi := { dst := some 9, op := Op.fieldAddr 105 (Operand.tmp 1) 1, type := 0, pos := "oob.go:21", after := #[], guard := none }) (v := ?_) rfl (by kernel_rfl) (by kernel_rfl) (by kernel_rfl) (fun _ _ _ h => h) (Or.inl ⟨by rfl, ?_⟩) (by assumption) ?_
  rotate_left
  · (intro w hSw; (try dsimp only at hSw); (try obtain ⟨hSa, hSb⟩ := hSw); go_simp; try with_reducible rfl)
  try simp only [Act.put, List.setIfInBounds_toArray, List.set_cons_zero, List.set_cons_succ]
  refine wpAnyH_take (i := 2) (oi := { dst := some 10, op := Op.load 3 (Operand.tmp 9), type := 3, pos := "oob.go:21", after := #[{ on := 1, ground := Ground.data }], guard := none }) (v := ?_) rfl (by kernel_rfl) (by kernel_rfl) (by kernel_rfl) (fun _ _ _ h => h) (Or.inl ⟨by rfl, ?_⟩) (by assumption) ?_
  rotate_left
  · (intro w hSw; (try dsimp only at hSw); (try obtain ⟨hSa, hSb⟩ := hSw); go_simp; try with_reducible rfl)
  try simp only [Act.put, List.setIfInBounds_toArray, List.set_cons_zero, List.set_cons_succ]
  refine wpAnyH_take (i := 3) (oi := { dst := some 11, op := Op.convert 3 177 (Operand.tmp 10), type := 177, pos := "oob.go:21", after := #[{ on := 2, ground := Ground.data }], guard := none }) (v := ?_) rfl (by kernel_rfl) (by kernel_rfl) (by kernel_rfl) (fun _ _ _ h => h) (Or.inl ⟨by rfl, ?_⟩) (by assumption) ?_
  rotate_left
  · (intro w hSw; (try dsimp only at hSw); (try obtain ⟨hSa, hSb⟩ := hSw); go_simp; try with_reducible rfl)
  try simp only [Act.put, List.setIfInBounds_toArray, List.set_cons_zero, List.set_cons_succ]
  refine wpAnyH_ready (rs := [4]) (by kernel_rfl) (by simp) ?_
  refine AllReadyH.cons (o := { dst := some 12, op := Op.call { callee := Callee.value (Operand.func 95), args := #[Operand.tmp 11], argTypes := #[177] }, type := 27, pos := "oob.go:21", after := #[{ on := 3, ground := Ground.data }], guard := none }) rfl (fun K hK => ?_) AllReadyH.nil
  go_simp
  refine (fixed_any 1 _).mono ?_
  rintro e ww_1 ⟨rfl, hF, hO⟩
  have HF_1 := Lib.hid hF
  clear hF
  have HX_1 := Lib.hid (HXs.out.only hO id)
  have HZ_1 := Lib.hid (HZs.out.only hO id)
  have HA_1 := Lib.hid (HAs.out.only hO id)
  have HO_1 := Lib.hid (HOs.out.trans hO)
  try clear hO
  try simp only []
  refine hK.out _ _ ?_ (fun hHeld => ?_)
  · exact HX_1.out.cell 1
  clear hK K
  try simp only [Act.put, List.setIfInBounds_toArray, List.set_cons_zero, List.set_cons_succ]
  refine wpAnyH_ready (rs := [5]) (by kernel_rfl) (by simp) ?_
  refine AllReadyH.cons (o := { dst := some 13, op := Op.call { callee := Callee.builtin Builtin.copy, args := #[Operand.tmp 8, Operand.tmp 12], argTypes := #[27, 27] }, type := 3, pos := "oob.go:21", after := #[{ on := 0, ground := Ground.data }, { on := 4, ground := Ground.data }, { on := 4, ground := Ground.chain }], guard := none }) rfl (fun K hK => ?_) AllReadyH.nil
  have hcp := copy_four (b := w.heap.size + 1 + 1) (o := 1) (n := 12) (g := W.heap.size) (T := 175) 1 0 0 0 HA_1.out HF_1.out (by decide) (by omega)
  simp only [Nat.reduceAdd] at hcp
  go_simp
  clear hcp
  have hA := (((HA_1.out.set 1 (.int .u8 1)).set 2 (.int .u8 0)).set 3 (.int .u8 0)).set 4 (.int .u8 0)
  simp only [List.setIfInBounds_toArray, List.set_cons_zero, List.set_cons_succ] at hA
  have HA_2 := Lib.hid hA
  have ho := ((((Only.refl (fun i => i = w.heap.size + 1 + 1) ww_1).setCell (p := ⟨w.heap.size + 1 + 1, 1, none⟩) (fun _ => rfl) (.int .u8 1)).setCell (p := ⟨w.heap.size + 1 + 1, 2, none⟩) (fun _ => rfl) (.int .u8 0)).setCell (p := ⟨w.heap.size + 1 + 1, 3, none⟩) (fun _ => rfl) (.int .u8 0)).setCell (p := ⟨w.heap.size + 1 + 1, 4, none⟩) (fun _ => rfl) (.int .u8 0)
  have HX_2 := Lib.hid (HX_1.out.only ho (by omega))
  have HZ_2 := Lib.hid (HZ_1.out.only ho (by omega))
  have HO_2 := Lib.hid (HO_1.out.trans' ho (S := fun _ => False) (fun i hi e => by omega))
  clear hA ho
  try clear hO
  try simp only []
  refine hK.out _ _ ?_ (fun hHeld => ?_)
  · exact HX_2.out.cell 1
  clear hK K
  try simp only [Act.put, List.setIfInBounds_toArray, List.set_cons_zero, List.set_cons_succ]
  refine wpAnyH_done (by kernel_rfl) ?_ _
  obtain ⟨W4, hWW⟩ : ∃ W', W' = ((((ww_1.setCell ⟨w.heap.size + 1 + 1, 1, none⟩ (.int .u8 1)).setCell ⟨w.heap.size + 1 + 1, 2, none⟩ (.int .u8 0)).setCell ⟨w.heap.size + 1 + 1, 3, none⟩ (.int .u8 0)).setCell ⟨w.heap.size + 1 + 1, 4, none⟩ (.int .u8 0)) := ⟨_, rfl⟩
  rw [← hWW] at HX_2 HZ_2 HA_2 HO_2 ⊢
  clear hWW
  go_upto_region 4 with (fail)
  clear HXs HZs HAs HOs
  have HXs := Lib.hid HX_2.out.drew
  have HZs := Lib.hid HZ_2.out.drew
  have HAs := Lib.hid HA_2.out.drew
  have HOs := Lib.hid HO_2.out.drew
  refine wp_region_held_drew (S := (fun W => W.cell? ⟨w.heap.size, 2, none⟩ = some (.int .i64 5))) (by kernel_rfl) ?_ (fun hHeld => ?_)
  · exact HXs.out.cell 2
  refine wpAnyH_take (i := 0) (oi := { dst := some 14, op := Op.slice 175 (Operand.tmp 3) (some (Operand.const (Value.int IntKind.i64 5))) none none, type := 27, pos := "oob.go:22", after := #[], guard := none }) (v := ?_) rfl (by kernel_rfl) (by kernel_rfl) (by kernel_rfl) (fun _ _ _ h => h) (Or.inl ⟨by rfl, ?_⟩) (by assumption) ?_
  rotate_left
  · (intro w hSw; (try dsimp only at hSw); (try obtain ⟨hSa, hSb⟩ := hSw); go_simp; try with_reducible rfl)
  try simp only [Act.put, List.setIfInBounds_toArray, List.set_cons_zero, List.set_cons_succ]
  refine wpAnyH_take (i := 1) (oi := { dst := some 15, op := Op.fieldAddr 105 (Operand.tmp 1) 2, type := 0, pos := "oob.go:22", after := #[], guard := none }) (v := ?_) rfl (by kernel_rfl) (by kernel_rfl) (by kernel_rfl) (fun _ _ _ h => h) (Or.inl ⟨by rfl, ?_⟩) (by assumption) ?_
  rotate_left
  · (intro w hSw; (try dsimp only at hSw); (try obtain ⟨hSa, hSb⟩ := hSw); go_simp; try with_reducible rfl)
  try simp only [Act.put, List.setIfInBounds_toArray, List.set_cons_zero, List.set_cons_succ]
  refine wpAnyH_take (i := 2) (oi := { dst := some 16, op := Op.load 3 (Operand.tmp 15), type := 3, pos := "oob.go:22", after := #[{ on := 1, ground := Ground.data }], guard := none }) (v := ?_) rfl (by kernel_rfl) (by kernel_rfl) (by kernel_rfl) (fun _ _ _ h => h) (Or.inl ⟨by rfl, ?_⟩) (by assumption) ?_
  rotate_left
  · (intro w hSw; (try dsimp only at hSw); (try obtain ⟨hSa, hSb⟩ := hSw); go_simp; try with_reducible rfl)
  try simp only [Act.put, List.setIfInBounds_toArray, List.set_cons_zero, List.set_cons_succ]
  refine wpAnyH_take (i := 3) (oi := { dst := some 17, op := Op.convert 3 177 (Operand.tmp 16), type := 177, pos := "oob.go:22", after := #[{ on := 2, ground := Ground.data }], guard := none }) (v := ?_) rfl (by kernel_rfl) (by kernel_rfl) (by kernel_rfl) (fun _ _ _ h => h) (Or.inl ⟨by rfl, ?_⟩) (by assumption) ?_
  rotate_left
  · (intro w hSw; (try dsimp only at hSw); (try obtain ⟨hSa, hSb⟩ := hSw); go_simp; try with_reducible rfl)
  try simp only [Act.put, List.setIfInBounds_toArray, List.set_cons_zero, List.set_cons_succ]
  refine wpAnyH_ready (rs := [4]) (by kernel_rfl) (by simp) ?_
  refine AllReadyH.cons (o := { dst := some 18, op := Op.call { callee := Callee.value (Operand.func 95), args := #[Operand.tmp 17], argTypes := #[177] }, type := 27, pos := "oob.go:22", after := #[{ on := 3, ground := Ground.data }], guard := none }) rfl (fun K hK => ?_) AllReadyH.nil
  go_simp
  refine (fixed_any 5 _).mono ?_
  rintro e ww_1 ⟨rfl, hF, hO⟩
  have HF_1 := Lib.hid hF
  clear hF
  have HX_1 := Lib.hid (HXs.out.only hO id)
  have HZ_1 := Lib.hid (HZs.out.only hO id)
  have HA_1 := Lib.hid (HAs.out.only hO id)
  have HO_1 := Lib.hid (HOs.out.trans hO)
  try clear hO
  try simp only []
  refine hK.out _ _ ?_ (fun hHeld => ?_)
  · exact HX_1.out.cell 2
  clear hK K
  try simp only [Act.put, List.setIfInBounds_toArray, List.set_cons_zero, List.set_cons_succ]
  refine wpAnyH_ready (rs := [5]) (by kernel_rfl) (by simp) ?_
  refine AllReadyH.cons (o := { dst := some 19, op := Op.call { callee := Callee.builtin Builtin.copy, args := #[Operand.tmp 14, Operand.tmp 18], argTypes := #[27, 27] }, type := 3, pos := "oob.go:22", after := #[{ on := 0, ground := Ground.data }, { on := 4, ground := Ground.data }, { on := 4, ground := Ground.chain }], guard := none }) rfl (fun K hK => ?_) AllReadyH.nil
  have hcp := copy_four (b := w.heap.size + 1 + 1) (o := 5) (n := 8) (g := W4.heap.size) (T := 175) 5 0 0 0 HA_1.out HF_1.out (by decide) (by omega)
  simp only [Nat.reduceAdd] at hcp
  go_simp
  clear hcp
  have hA := (((HA_1.out.set 5 (.int .u8 5)).set 6 (.int .u8 0)).set 7 (.int .u8 0)).set 8 (.int .u8 0)
  simp only [List.setIfInBounds_toArray, List.set_cons_zero, List.set_cons_succ] at hA
  have HA_2 := Lib.hid hA
  have ho := ((((Only.refl (fun i => i = w.heap.size + 1 + 1) ww_1).setCell (p := ⟨w.heap.size + 1 + 1, 5, none⟩) (fun _ => rfl) (.int .u8 5)).setCell (p := ⟨w.heap.size + 1 + 1, 6, none⟩) (fun _ => rfl) (.int .u8 0)).setCell (p := ⟨w.heap.size + 1 + 1, 7, none⟩) (fun _ => rfl) (.int .u8 0)).setCell (p := ⟨w.heap.size + 1 + 1, 8, none⟩) (fun _ => rfl) (.int .u8 0)
  have HX_2 := Lib.hid (HX_1.out.only ho (by omega))
  have HZ_2 := Lib.hid (HZ_1.out.only ho (by omega))
  have HO_2 := Lib.hid (HO_1.out.trans' ho (S := fun _ => False) (fun i hi e => by omega))
  clear hA ho
  try clear hO
  try simp only []
  refine hK.out _ _ ?_ (fun hHeld => ?_)
  · exact HX_2.out.cell 2
  clear hK K
  try simp only [Act.put, List.setIfInBounds_toArray, List.set_cons_zero, List.set_cons_succ]
  refine wpAnyH_done (by kernel_rfl) ?_ _
  obtain ⟨W5, hWW⟩ : ∃ W', W' = ((((ww_1.setCell ⟨w.heap.size + 1 + 1, 5, none⟩ (.int .u8 5)).setCell ⟨w.heap.size + 1 + 1, 6, none⟩ (.int .u8 0)).setCell ⟨w.heap.size + 1 + 1, 7, none⟩ (.int .u8 0)).setCell ⟨w.heap.size + 1 + 1, 8, none⟩ (.int .u8 0)) := ⟨_, rfl⟩
  rw [← hWW] at HX_2 HZ_2 HA_2 HO_2 ⊢
  clear hWW
  go_upto_region 5 with (fail)
  clear HXs HZs HAs HOs
  have HXs := Lib.hid HX_2.out.drew
  have HZs := Lib.hid HZ_2.out.drew
  have HAs := Lib.hid HA_2.out.drew
  have HOs := Lib.hid HO_2.out.drew
  refine wp_region_held_drew (S := (fun W => W.cell? ⟨w.heap.size, 2, none⟩ = some (.int .i64 5))) (by kernel_rfl) ?_ (fun hHeld => ?_)
  · exact HXs.out.cell 2
  refine wpAnyH_take (i := 0) (oi := { dst := some 20, op := Op.slice 175 (Operand.tmp 3) (some (Operand.const (Value.int IntKind.i64 9))) none none, type := 27, pos := "oob.go:23", after := #[], guard := none }) (v := ?_) rfl (by kernel_rfl) (by kernel_rfl) (by kernel_rfl) (fun _ _ _ h => h) (Or.inl ⟨by rfl, ?_⟩) (by assumption) ?_
  rotate_left
  · (intro w hSw; (try dsimp only at hSw); (try obtain ⟨hSa, hSb⟩ := hSw); go_simp; try with_reducible rfl)
  try simp only [Act.put, List.setIfInBounds_toArray, List.set_cons_zero, List.set_cons_succ]
  refine wpAnyH_take (i := 1) (oi := { dst := some 21, op := Op.fieldAddr 105 (Operand.tmp 1) 2, type := 0, pos := "oob.go:23", after := #[], guard := none }) (v := ?_) rfl (by kernel_rfl) (by kernel_rfl) (by kernel_rfl) (fun _ _ _ h => h) (Or.inl ⟨by rfl, ?_⟩) (by assumption) ?_
  rotate_left
  · (intro w hSw; (try dsimp only at hSw); (try obtain ⟨hSa, hSb⟩ := hSw); go_simp; try with_reducible rfl)
  try simp only [Act.put, List.setIfInBounds_toArray, List.set_cons_zero, List.set_cons_succ]
  refine wpAnyH_take (i := 2) (oi := { dst := some 22, op := Op.load 3 (Operand.tmp 21), type := 3, pos := "oob.go:23", after := #[{ on := 1, ground := Ground.data }], guard := none }) (v := ?_) rfl (by kernel_rfl) (by kernel_rfl) (by kernel_rfl) (fun _ _ _ h => h) (Or.inl ⟨by rfl, ?_⟩) (by assumption) ?_
  rotate_left
  · (intro w hSw; (try dsimp only at hSw); (try obtain ⟨hSa, hSb⟩ := hSw); go_simp; try with_reducible rfl)
  try simp only [Act.put, List.setIfInBounds_toArray, List.set_cons_zero, List.set_cons_succ]
  refine wpAnyH_take (i := 3) (oi := { dst := some 23, op := Op.binOp BinOp.shr 3 (Operand.tmp 22) (Operand.const (Value.int IntKind.u64 32)) 251, type := 3, pos := "oob.go:23", after := #[{ on := 2, ground := Ground.data }], guard := none }) (v := ?_) rfl (by kernel_rfl) (by kernel_rfl) (by kernel_rfl) (fun _ _ _ h => h) (Or.inl ⟨by rfl, ?_⟩) (by assumption) ?_
  rotate_left
  · (intro w hSw; (try dsimp only at hSw); (try obtain ⟨hSa, hSb⟩ := hSw); go_simp; try with_reducible rfl)
  try simp only [Act.put, List.setIfInBounds_toArray, List.set_cons_zero, List.set_cons_succ]
  refine wpAnyH_take (i := 4) (oi := { dst := some 24, op := Op.convert 3 177 (Operand.tmp 23), type := 177, pos := "oob.go:23", after := #[{ on := 3, ground := Ground.data }], guard := none }) (v := ?_) rfl (by kernel_rfl) (by kernel_rfl) (by kernel_rfl) (fun _ _ _ h => h) (Or.inl ⟨by rfl, ?_⟩) (by assumption) ?_
  rotate_left
  · (intro w hSw; (try dsimp only at hSw); (try obtain ⟨hSa, hSb⟩ := hSw); go_simp; try with_reducible rfl)
  try simp only [Act.put, List.setIfInBounds_toArray, List.set_cons_zero, List.set_cons_succ]
  refine wpAnyH_ready (rs := [5]) (by kernel_rfl) (by simp) ?_
  refine AllReadyH.cons (o := { dst := some 25, op := Op.call { callee := Callee.value (Operand.func 95), args := #[Operand.tmp 24], argTypes := #[177] }, type := 27, pos := "oob.go:23", after := #[{ on := 4, ground := Ground.data }], guard := none }) rfl (fun K hK => ?_) AllReadyH.nil
  go_simp
  refine (fixed_any 0 _).mono ?_
  rintro e ww_1 ⟨rfl, hF, hO⟩
  have HF_1 := Lib.hid hF
  clear hF
  have HX_1 := Lib.hid (HXs.out.only hO id)
  have HZ_1 := Lib.hid (HZs.out.only hO id)
  have HA_1 := Lib.hid (HAs.out.only hO id)
  have HO_1 := Lib.hid (HOs.out.trans hO)
  try clear hO
  try simp only []
  refine hK.out _ _ ?_ (fun hHeld => ?_)
  · exact HX_1.out.cell 2
  clear hK K
  try simp only [Act.put, List.setIfInBounds_toArray, List.set_cons_zero, List.set_cons_succ]
  refine wpAnyH_ready (rs := [6]) (by kernel_rfl) (by simp) ?_
  refine AllReadyH.cons (o := { dst := some 26, op := Op.call { callee := Callee.builtin Builtin.copy, args := #[Operand.tmp 20, Operand.tmp 25], argTypes := #[27, 27] }, type := 3, pos := "oob.go:23", after := #[{ on := 0, ground := Ground.data }, { on := 5, ground := Ground.data }, { on := 5, ground := Ground.chain }], guard := none }) rfl (fun K hK => ?_) AllReadyH.nil
  have hcp := copy_four (b := w.heap.size + 1 + 1) (o := 9) (n := 4) (g := W5.heap.size) (T := 175) 0 0 0 0 HA_1.out HF_1.out (by decide) (by omega)
  simp only [Nat.reduceAdd] at hcp
  go_simp
  clear hcp
  have hA := (((HA_1.out.set 9 (.int .u8 0)).set 10 (.int .u8 0)).set 11 (.int .u8 0)).set 12 (.int .u8 0)
  simp only [List.setIfInBounds_toArray, List.set_cons_zero, List.set_cons_succ] at hA
  have HA_2 := Lib.hid hA
  have ho := ((((Only.refl (fun i => i = w.heap.size + 1 + 1) ww_1).setCell (p := ⟨w.heap.size + 1 + 1, 9, none⟩) (fun _ => rfl) (.int .u8 0)).setCell (p := ⟨w.heap.size + 1 + 1, 10, none⟩) (fun _ => rfl) (.int .u8 0)).setCell (p := ⟨w.heap.size + 1 + 1, 11, none⟩) (fun _ => rfl) (.int .u8 0)).setCell (p := ⟨w.heap.size + 1 + 1, 12, none⟩) (fun _ => rfl) (.int .u8 0)
  have HX_2 := Lib.hid (HX_1.out.only ho (by omega))
  have HZ_2 := Lib.hid (HZ_1.out.only ho (by omega))
  have HO_2 := Lib.hid (HO_1.out.trans' ho (S := fun _ => False) (fun i hi e => by omega))
  clear hA ho
  try clear hO
  try simp only []
  refine hK.out _ _ ?_ (fun hHeld => ?_)
  · exact HX_2.out.cell 2
  clear hK K
  try simp only [Act.put, List.setIfInBounds_toArray, List.set_cons_zero, List.set_cons_succ]
  refine wpAnyH_done (by kernel_rfl) ?_ _
  obtain ⟨W9, hWW⟩ : ∃ W', W' = ((((ww_1.setCell ⟨w.heap.size + 1 + 1, 9, none⟩ (.int .u8 0)).setCell ⟨w.heap.size + 1 + 1, 10, none⟩ (.int .u8 0)).setCell ⟨w.heap.size + 1 + 1, 11, none⟩ (.int .u8 0)).setCell ⟨w.heap.size + 1 + 1, 12, none⟩ (.int .u8 0)) := ⟨_, rfl⟩
  rw [← hWW] at HX_2 HZ_2 HA_2 HO_2 ⊢
  clear hWW
  have c0 := HA_2.out.cell 0
  have d0 := HZ_2.out.cell 0
  have f0 := HZ_2.out.frozen 0
  have c1 := HA_2.out.cell 1
  have d1 := HZ_2.out.cell 1
  have f1 := HZ_2.out.frozen 1
  have c2 := HA_2.out.cell 2
  have d2 := HZ_2.out.cell 2
  have f2 := HZ_2.out.frozen 2
  have c3 := HA_2.out.cell 3
  have d3 := HZ_2.out.cell 3
  have f3 := HZ_2.out.frozen 3
  have c4 := HA_2.out.cell 4
  have d4 := HZ_2.out.cell 4
  have f4 := HZ_2.out.frozen 4
  have c5 := HA_2.out.cell 5
  have d5 := HZ_2.out.cell 5
  have f5 := HZ_2.out.frozen 5
  have c6 := HA_2.out.cell 6
  have d6 := HZ_2.out.cell 6
  have f6 := HZ_2.out.frozen 6
  have c7 := HA_2.out.cell 7
  have d7 := HZ_2.out.cell 7
  have f7 := HZ_2.out.frozen 7
  have c8 := HA_2.out.cell 8
  have d8 := HZ_2.out.cell 8
  have f8 := HZ_2.out.frozen 8
  have c9 := HA_2.out.cell 9
  have d9 := HZ_2.out.cell 9
  have f9 := HZ_2.out.frozen 9
  have c10 := HA_2.out.cell 10
  have d10 := HZ_2.out.cell 10
  have f10 := HZ_2.out.frozen 10
  have c11 := HA_2.out.cell 11
  have d11 := HZ_2.out.cell 11
  have f11 := HZ_2.out.frozen 11
  have c12 := HA_2.out.cell 12
  have d12 := HZ_2.out.cell 12
  have f12 := HZ_2.out.frozen 12
  simp only [List.getElem?_toArray, List.getElem?_cons_zero, List.getElem?_cons_succ] at c0 d0 c1 d1 c2 d2 c3 d3 c4 d4 c5 d5 c6 d6 c7 d7 c8 d8 c9 d9 c10 d10 c11 d11 c12 d12
  have hZ := (((((((((((((HZ_2.out.set 0 (.int .u8 1)).set 1 (.int .u8 1)).set 2 (.int .u8 0)).set 3 (.int .u8 0)).set 4 (.int .u8 0)).set 5 (.int .u8 5)).set 6 (.int .u8 0)).set 7 (.int .u8 0)).set 8 (.int .u8 0)).set 9 (.int .u8 0)).set 10 (.int .u8 0)).set 11 (.int .u8 0)).set 12 (.int .u8 0))
  simp only [List.setIfInBounds_toArray, List.set_cons_zero, List.set_cons_succ] at hZ
  have HZ := Lib.hid hZ
  have HOO := Lib.hid (((((((((((((HO_2.out.setCell (p := ⟨w.heap.size + 1, 0, none⟩) (fun e => absurd (show w.heap.size + 1 < w.heap.size from e) (by omega)) (.int .u8 1)).setCell (p := ⟨w.heap.size + 1, 1, none⟩) (fun e => absurd (show w.heap.size + 1 < w.heap.size from e) (by omega)) (.int .u8 1)).setCell (p := ⟨w.heap.size + 1, 2, none⟩) (fun e => absurd (show w.heap.size + 1 < w.heap.size from e) (by omega)) (.int .u8 0)).setCell (p := ⟨w.heap.size + 1, 3, none⟩) (fun e => absurd (show w.heap.size + 1 < w.heap.size from e) (by omega)) (.int .u8 0)).setCell (p := ⟨w.heap.size + 1, 4, none⟩) (fun e => absurd (show w.heap.size + 1 < w.heap.size from e) (by omega)) (.int .u8 0)).setCell (p := ⟨w.heap.size + 1, 5, none⟩) (fun e => absurd (show w.heap.size + 1 < w.heap.size from e) (by omega)) (.int .u8 5)).setCell (p := ⟨w.heap.size + 1, 6, none⟩) (fun e => absurd (show w.heap.size + 1 < w.heap.size from e) (by omega)) (.int .u8 0)).setCell (p := ⟨w.heap.size + 1, 7, none⟩) (fun e => absurd (show w.heap.size + 1 < w.heap.size from e) (by omega)) (.int .u8 0)).setCell (p := ⟨w.heap.size + 1, 8, none⟩) (fun e => absurd (show w.heap.size + 1 < w.heap.size from e) (by omega)) (.int .u8 0)).setCell (p := ⟨w.heap.size + 1, 9, none⟩) (fun e => absurd (show w.heap.size + 1 < w.heap.size from e) (by omega)) (.int .u8 0)).setCell (p := ⟨w.heap.size + 1, 10, none⟩) (fun e => absurd (show w.heap.size + 1 < w.heap.size from e) (by omega)) (.int .u8 0)).setCell (p := ⟨w.heap.size + 1, 11, none⟩) (fun e => absurd (show w.heap.size + 1 < w.heap.size from e) (by omega)) (.int .u8 0)).setCell (p := ⟨w.heap.size + 1, 12, none⟩) (fun e => absurd (show w.heap.size + 1 < w.heap.size from e) (by omega)) (.int .u8 0))
  clear hZ
  go_wp2
  refine bodyPost_ret (v := .agg #[.int .u8 1, .int .u8 1, .int .u8 0, .int .u8 0, .int .u8 0, .int .u8 5, .int .u8 0, .int .u8 0, .int .u8 0, .int .u8 0, .int .u8 0, .int .u8 0, .int .u8 0]) (results_cell_row (ty := 175) rfl _ _ (w.heap.size + 1) 175 #[.int .u8 1, .int .u8 1, .int .u8 0, .int .u8 0, .int .u8 0, .int .u8 5, .int .u8 0, .int .u8 0, .int .u8 0, .int .u8 0, .int .u8 0, .int .u8 0, .int .u8 0] (0, 0) _ rfl HZ.out Tryz.underlying175 rfl (by kernel_rfl)) rfl ?_
  exact ⟨rfl, HOO.out⟩
end Go.Proofs.YtjobaplioidogaaGreat
