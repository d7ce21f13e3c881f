/- Top: a map whose parts lie apart. -/
import Derived.Test.YtjobaplioidogaaGreatBB
namespace Go.Proofs.YtjobaplioidogaaGreat
open Go.RowKit

def NewMapQ (G : Ge) (n : Nat) (w : World) (e : Ending) (w' : World) : Prop :=
  ∃ mb kt kw vb st sw, e = .returned (.tuple #[.pointer (some ⟨mb, 0, none⟩), .int .i64 0]) ∧ MAt w' mb kt kw vb G n st sw (fun _ => ⟨-1, 0, 0⟩) (fun _ => 0) (List.replicate G.b.toNat 0) w.heap.size ∧ (∀ s, s < 4 → (sw s).A ≠ none → (sw s).g ≠ vb) ∧ Only (fun _ => False) w w'

set_option maxRecDepth 100000 in
set_option maxHeartbeats 16000000 in
theorem newMap_far (G : Ge) (hI : G.Is) (n : Nat) (h1 : 1 ≤ n ∧ n ≤ 4096) (h2 : (n : Int) ≤ G.al) (w : World) :
    Calls Tryz.prog 50 #[G.val, .int .i64 n] w (NewMapQ G n w) := by
  have HRG := Lib.hid (fun W => right_any G hI.wf W)
  have HAL := Lib.hid (fun W => all_any G hI W)
  have HII := Lib.hid hI
  rw [hI.ok] at HRG
  have hbb := hI.b
  have hal := hI.al
  obtain ⟨b, hb⟩ : ∃ b : Nat, G.b = b := ⟨G.b.toNat, by omega⟩
  obtain ⟨al, hall⟩ : ∃ b : Nat, G.al = b := ⟨G.al.toNat, by omega⟩
  have HBB := Lib.hid hb
  have HALL := Lib.hid hall
  unfold NewMapQ
  have h2n : n ≤ al := by omega
  unfold Ge.val at *
  rw [hall] at HAL hal h2
  rw [hb] at HRG HAL hbb ⊢
  simp only [Int.toNat_natCast]
  obtain ⟨gc, gl, gb, gp, gs⟩ := G
  simp only at *
  subst hb
  have HG1 := Lib.hid (fun W => grownE_any (-1) 0 0 n (by omega) W)
  have HG2 := Lib.hid (fun W => grownI_any 0 al (by omega) W)
  have HMK := Lib.hid (fun W => make_ints b (by omega) W)
  have HB := Lib.hid (At.new w 23 #[.int .i64 gc, .int .i64 gl, .int .i64 b, .int .i64 gp, .int .i64 gs])
  have HO0 := Lib.hid ((Only.refl (fun _ => False) w).alloc (.cells #[.int .i64 gc, .int .i64 gl, .int .i64 b, .int .i64 gp, .int .i64 gs] 23))
  have d1 : decide ((n : Int) < 1) = false := decide_eq_false (by omega)
  have d2 : decide ((4096 : Int) < n) = false := decide_eq_false (by omega)
  have d3 : decide ((al : Int) < n) = false := decide_eq_false (by omega)
  have d1' : decide (n < 1) = false := decide_eq_false (by omega)
  have d2' : decide (4096 < n) = false := decide_eq_false (by omega)
  have d3' : decide (al < n) = false := decide_eq_false (by omega)
  clear hall hI
  go_enter Tryz.func50, Tryz.ntmps50
  go_wp2_with (fail)
  refine (HRG.out _).mono ?_
  rintro e w1 ⟨rfl, hO⟩
  have HO1 := Lib.hid (HO0.out.trans hO)
  have HB1 := Lib.hid (HB.out.only hO id)
  clear hO HO0 HB
  have y0 := HB1.out.cell 0
  have y1 := HB1.out.cell 1
  have y2 := HB1.out.cell 2
  have y3 := HB1.out.cell 3
  have y4 := HB1.out.cell 4
  simp only [List.getElem?_toArray, List.getElem?_cons_zero, List.getElem?_cons_succ] at y0 y1 y2 y3 y4
  go_wp2_with (fail)
  refine (HAL.out _).mono ?_
  rintro e w2 ⟨rfl, hO⟩
  have HO2 := Lib.hid (HO1.out.trans hO)
  have HB2 := Lib.hid (HB1.out.only hO id)
  clear hO HO1 HB1 y0 y1 y2 y3 y4
  go_upto_region 3 with (fail)
  have HOs := Lib.hid (HO2.out.trans (Only.refl (fun _ => False) w2).drew)
  have HBs := Lib.hid (HB2.out.drew)
  clear HO2 HB2
  refine wp_region_held_drew (S := (fun W => (W.cell? ⟨w.heap.size, 0, none⟩ = some (.int .i64 gc) ∧ W.cell? ⟨w.heap.size, 1, none⟩ = some (.int .i64 gl)) ∧ (W.cell? ⟨w.heap.size, 2, none⟩ = some (.int .i64 b) ∧ W.cell? ⟨w.heap.size, 3, none⟩ = some (.int .i64 gp)) ∧ W.cell? ⟨w.heap.size, 4, none⟩ = some (.int .i64 gs))) (by kernel_rfl) ?_ (fun hHeld => ?_)
  · exact ⟨⟨HBs.out.cell 0, HBs.out.cell 1⟩, ⟨HBs.out.cell 2, HBs.out.cell 3⟩, HBs.out.cell 4⟩
  refine wpAnyH_take (i := 0) (oi := { dst := some 23, op := Op.load 23 (Operand.tmp 2), type := 23, pos := "l2p.go:44", after := #[], guard := none }) (v := ?_) rfl (by kernel_rfl) (by kernel_rfl) (by kernel_rfl) (fun _ _ _ h => h) (Or.inl ⟨by rfl, ?_⟩) (by assumption) ?_
  rotate_left
  · (intro w hSw; (try dsimp only at hSw); (try obtain ⟨hSa, hSb⟩ := hSw); go_simp; try with_reducible rfl)
  try simp only [Act.put, List.setIfInBounds_toArray, List.set_cons_zero, List.set_cons_succ]
  refine wpAnyH_take (i := 1) (oi := { dst := some 24, op := Op.move (Operand.tmp 1), type := 3, pos := "l2p.go:44", after := #[], guard := none }) (v := ?_) rfl (by kernel_rfl) (by kernel_rfl) (by kernel_rfl) (fun _ _ _ h => h) (Or.inl ⟨by rfl, ?_⟩) (by assumption) ?_
  rotate_left
  · (intro w hSw; (try dsimp only at hSw); (try obtain ⟨hSa, hSb⟩ := hSw); go_simp; try with_reducible rfl)
  try simp only [Act.put, List.setIfInBounds_toArray, List.set_cons_zero, List.set_cons_succ]
  refine wpAnyH_take (i := 2) (oi := { dst := some 25, op := Op.move (Operand.tmp 1), type := 3, pos := "l2p.go:44", after := #[], guard := none }) (v := ?_) rfl (by kernel_rfl) (by kernel_rfl) (by kernel_rfl) (fun _ _ _ h => h) (Or.inl ⟨by rfl, ?_⟩) (by assumption) ?_
  rotate_left
  · (intro w hSw; (try dsimp only at hSw); (try obtain ⟨hSa, hSb⟩ := hSw); go_simp; try with_reducible rfl)
  try simp only [Act.put, List.setIfInBounds_toArray, List.set_cons_zero, List.set_cons_succ]
  refine wpAnyH_take (i := 3) (oi := { dst := some 26, op := Op.build 163 #[(0, Operand.const (Value.int IntKind.i64 (-1)))], type := 163, pos := "l2p.go:44", after := #[], guard := none }) (v := ?_) rfl (by kernel_rfl) (by kernel_rfl) (by kernel_rfl) (fun _ _ _ h => h) (Or.inl ⟨by rfl, ?_⟩) (by assumption) ?_
  rotate_left
  · (intro w hSw; (try dsimp only at hSw); (try obtain ⟨hSa, hSb⟩ := hSw); go_simp; try with_reducible rfl)
  try simp only [Act.put, List.setIfInBounds_toArray, List.set_cons_zero, List.set_cons_succ]
  refine wpAnyH_take (i := 5) (oi := { dst := some 28, op := Op.load 23 (Operand.tmp 2), type := 23, pos := "l2p.go:44", after := #[], guard := none }) (v := ?_) rfl (by kernel_rfl) (by kernel_rfl) (by kernel_rfl) (fun _ _ _ h => h) (Or.inl ⟨by rfl, ?_⟩) (by assumption) ?_
  rotate_left
  · (intro w hSw; (try dsimp only at hSw); (try obtain ⟨hSa, hSb⟩ := hSw); go_simp; try with_reducible rfl)
  try simp only [Act.put, List.setIfInBounds_toArray, List.set_cons_zero, List.set_cons_succ]
  refine wpAnyH_take (i := 8) (oi := { dst := some 31, op := Op.fieldAddr 23 (Operand.tmp 2) 2, type := 0, pos := "l2p.go:44", after := #[], guard := none }) (v := ?_) rfl (by kernel_rfl) (by kernel_rfl) (by kernel_rfl) (fun _ _ _ h => h) (Or.inl ⟨by rfl, ?_⟩) (by assumption) ?_
  rotate_left
  · (intro w hSw; (try dsimp only at hSw); (try obtain ⟨hSa, hSb⟩ := hSw); go_simp; try with_reducible rfl)
  try simp only [Act.put, List.setIfInBounds_toArray, List.set_cons_zero, List.set_cons_succ]
  refine wpAnyH_take (i := 9) (oi := { dst := some 32, op := Op.load 3 (Operand.tmp 31), type := 3, pos := "l2p.go:44", after := #[{ on := 8, ground := Ground.data }], guard := none }) (v := ?_) rfl (by kernel_rfl) (by kernel_rfl) (by kernel_rfl) (fun _ _ _ h => h) (Or.inl ⟨by rfl, ?_⟩) (by assumption) ?_
  rotate_left
  · (intro w hSw; (try dsimp only at hSw); (try obtain ⟨hSa, hSb⟩ := hSw); go_simp; try with_reducible rfl)
  try simp only [Act.put, List.setIfInBounds_toArray, List.set_cons_zero, List.set_cons_succ]
  refine wpAnyH_ready (rs := [4, 10]) (by kernel_rfl) (by simp) ?_
  refine AllReadyH.cons (o := { dst := some 27, op := Op.call { callee := Callee.value (Operand.func 102), args := #[Operand.tmp 25, Operand.tmp 26], argTypes := #[3, 163] }, type := 139, pos := "l2p.go:44", after := #[{ on := 2, ground := Ground.data }, { on := 3, ground := Ground.data }], guard := none }) rfl (fun K hK => ?_) (AllReadyH.cons (o := { dst := some 33, op := Op.makeSlice 26 (Operand.tmp 32) (Operand.tmp 32), type := 26, pos := "l2p.go:44", after := #[{ on := 9, ground := Ground.data }, { on := 9, ground := Ground.data }], guard := none }) rfl (fun K hK => ?_) AllReadyH.nil)
  · skip
    go_simp
    refine (HG1.out _).mono ?_
    rintro e ww_1 ⟨kt, st, rfl, hk, hn, hl, hO⟩
    have HT_1 := Lib.hid (hk.weak HOs.out.size)
    have HTN_1 := Lib.hid hn
    have HTL_1 := Lib.hid (Nat.le_trans HOs.out.size hl)
    clear hk hn hl
    have HB_1 := Lib.hid (HBs.out.only hO id)
    have HO_1 := Lib.hid (HOs.out.trans hO)
    try clear hO
    try simp only []
    refine hK.out _ _ ?_ (fun hHeld => ?_)
    · exact ⟨⟨HB_1.out.cell 0, HB_1.out.cell 1⟩, ⟨HB_1.out.cell 2, HB_1.out.cell 3⟩, HB_1.out.cell 4⟩
    clear hK K
    try simp only [Act.put, List.setIfInBounds_toArray, List.set_cons_zero, List.set_cons_succ]
    refine wpAnyH_ready (rs := [6, 10]) (by kernel_rfl) (by simp) ?_
    refine AllReadyH.cons (o := { dst := some 29, op := Op.call { callee := Callee.value (Operand.func 101), args := #[Operand.tmp 28], argTypes := #[23] }, type := 3, pos := "l2p.go:44", after := #[{ on := 5, ground := Ground.data }, { on := 4, ground := Ground.chain }], guard := none }) rfl (fun K hK => ?_) (AllReadyH.cons (o := { dst := some 33, op := Op.makeSlice 26 (Operand.tmp 32) (Operand.tmp 32), type := 26, pos := "l2p.go:44", after := #[{ on := 9, ground := Ground.data }, { on := 9, ground := Ground.data }], guard := none }) rfl (fun K hK => ?_) AllReadyH.nil)
    · skip
      go_simp
      refine (HAL.out _).mono ?_
      rintro e ww_2 ⟨rfl, hO⟩
      have HB_2 := Lib.hid (HB_1.out.only hO id)
      have HO_2 := Lib.hid (HO_1.out.trans hO)
      have HT_2 := Lib.hid (HT_1.out.quiet hO)
      have HTN_2 := Lib.hid (HTN_1.out)
      have HTL_2 := Lib.hid (HTL_1.out)
      try clear hO
      try simp only []
      refine hK.out _ _ ?_ (fun hHeld => ?_)
      · exact ⟨⟨HB_2.out.cell 0, HB_2.out.cell 1⟩, ⟨HB_2.out.cell 2, HB_2.out.cell 3⟩, HB_2.out.cell 4⟩
      clear hK K
      try simp only [Act.put, List.setIfInBounds_toArray, List.set_cons_zero, List.set_cons_succ]
      refine wpAnyH_ready (rs := [7, 10]) (by kernel_rfl) (by simp) ?_
      refine AllReadyH.cons (o := { dst := some 30, op := Op.call { callee := Callee.value (Operand.func 103), args := #[Operand.tmp 29, Operand.const (Value.int IntKind.i64 0)], argTypes := #[3, 3] }, type := 140, pos := "l2p.go:44", after := #[{ on := 6, ground := Ground.data }, { on := 6, ground := Ground.chain }], guard := none }) rfl (fun K hK => ?_) (AllReadyH.cons (o := { dst := some 33, op := Op.makeSlice 26 (Operand.tmp 32) (Operand.tmp 32), type := 26, pos := "l2p.go:44", after := #[{ on := 9, ground := Ground.data }, { on := 9, ground := Ground.data }], guard := none }) rfl (fun K hK => ?_) AllReadyH.nil)
      · skip
        go_simp
        refine (HG2.out _).mono ?_
        rintro e ww_3 ⟨kw, sw, rfl, hk, hn, hl, hO⟩
        have HW_3 := Lib.hid (hk.weak HO_2.out.size)
        have HWN_3 := Lib.hid hn
        have HWL_3 := Lib.hid (Nat.le_trans HO_2.out.size hl)
        have HWU_3 := Lib.hid (fun s (hs : s < 4) hA => (hk.row s hs).lt hA)
        clear hk hn hl
        have HB_3 := Lib.hid (HB_2.out.only hO id)
        have HO_3 := Lib.hid (HO_2.out.trans hO)
        have HT_3 := Lib.hid (HT_2.out.quiet hO)
        have HTN_3 := Lib.hid (HTN_2.out)
        have HTL_3 := Lib.hid (HTL_2.out)
        try clear hO
        try simp only []
        refine hK.out _ _ ?_ (fun hHeld => ?_)
        · exact ⟨⟨HB_3.out.cell 0, HB_3.out.cell 1⟩, ⟨HB_3.out.cell 2, HB_3.out.cell 3⟩, HB_3.out.cell 4⟩
        clear hK K
        try simp only [Act.put, List.setIfInBounds_toArray, List.set_cons_zero, List.set_cons_succ]
        refine wpAnyH_ready (rs := [10]) (by kernel_rfl) (by simp) ?_
        refine AllReadyH.cons (o := { dst := some 33, op := Op.makeSlice 26 (Operand.tmp 32) (Operand.tmp 32), type := 26, pos := "l2p.go:44", after := #[{ on := 9, ground := Ground.data }, { on := 9, ground := Ground.data }], guard := none }) rfl (fun K hK => ?_) AllReadyH.nil
        have hmk := HMK.out
        go_simp
        clear hmk
        have hO := (Only.refl (fun _ => False) ww_3).alloc (.cells (zeros (.int .i64 0) b) 3)
        have HV_4 : Hid (At (ww_3.alloc (.cells (zeros (.int .i64 0) b) 3)) (ww_3.heap.size) 3 (zeros (.int .i64 0) b)) := Lib.hid (At.new' (by first | rfl | simp) 3 (zeros (.int .i64 0) b))
        have HVL_4 : Hid (w.heap.size ≤ ww_3.heap.size) := Lib.hid (HO_3.out.size)
        have HSEP_4 : Hid (∀ s, s < 4 → (sw s).A ≠ none → (sw s).g ≠ ww_3.heap.size) := Lib.hid (fun s hs hA => by have h1 := HWU_3.out s hs hA; (try simp at h1); omega)
        have HB_4 := Lib.hid (HB_3.out.only hO id)
        have HO_4 := Lib.hid (HO_3.out.trans hO)
        have HT_4 := Lib.hid (HT_3.out.quiet hO)
        have HTN_4 := Lib.hid (HTN_3.out)
        have HTL_4 := Lib.hid (HTL_3.out)
        have HW_4 := Lib.hid (HW_3.out.quiet hO)
        have HWN_4 := Lib.hid (HWN_3.out)
        have HWL_4 := Lib.hid (HWL_3.out)
        have HWU_4 := Lib.hid (fun s hs hA => Nat.lt_of_lt_of_le (HWU_3.out s hs hA) hO.size)
        try clear hO
        try simp only []
        refine hK.out _ _ ?_ (fun hHeld => ?_)
        · exact ⟨⟨HB_4.out.cell 0, HB_4.out.cell 1⟩, ⟨HB_4.out.cell 2, HB_4.out.cell 3⟩, HB_4.out.cell 4⟩
        clear hK K
        try simp only [Act.put, List.setIfInBounds_toArray, List.set_cons_zero, List.set_cons_succ]
        refine wpAnyH_take (i := 11) (oi := { dst := some 34, op := Op.build 142 #[(0, Operand.tmp 23), (1, Operand.tmp 24), (2, Operand.tmp 27), (3, Operand.tmp 30), (4, Operand.tmp 33)], type := 142, pos := "l2p.go:44", after := #[{ on := 0, ground := Ground.data }, { on := 1, ground := Ground.data }, { on := 4, ground := Ground.data }, { on := 7, ground := Ground.data }, { on := 10, ground := Ground.data }], guard := none }) (v := ?_) rfl (by kernel_rfl) (by kernel_rfl) (by kernel_rfl) (fun _ _ _ h => h) (Or.inl ⟨by rfl, ?_⟩) (by assumption) ?_
        rotate_left
        · (intro w hSw; (try dsimp only at hSw); (try obtain ⟨hSa, hSb⟩ := hSw); go_simp; try with_reducible rfl)
        try simp only [Act.put, List.setIfInBounds_toArray, List.set_cons_zero, List.set_cons_succ]
        refine wpAnyH_ready (rs := [12]) (by kernel_rfl) (by simp) ?_
        refine AllReadyH.cons (o := { dst := some 35, op := Op.box 142 (Operand.tmp 34), type := 62, pos := "l2p.go:44", after := #[{ on := 11, ground := Ground.data }], guard := none }) rfl (fun K hK => ?_) AllReadyH.nil
        go_simp
        have hO := (Only.refl (fun _ => False) (ww_3.alloc (.cells (zeros (.int .i64 0) b) 3))).alloc (.cells #[.int .i64 gc, .int .i64 gl, .int .i64 b, .int .i64 gp, .int .i64 gs, .int .i64 n, .pointer (some ⟨kt, 0, none⟩), .pointer (some ⟨kw, 0, none⟩), .slice (some ⟨ww_3.heap.size, 0, none⟩) b b] 142)
        have HX_5 : Hid (At ((ww_3.alloc (.cells (zeros (.int .i64 0) b) 3)).alloc (.cells #[.int .i64 gc, .int .i64 gl, .int .i64 b, .int .i64 gp, .int .i64 gs, .int .i64 n, .pointer (some ⟨kt, 0, none⟩), .pointer (some ⟨kw, 0, none⟩), .slice (some ⟨ww_3.heap.size, 0, none⟩) b b] 142)) (ww_3.heap.size + 1) 142 #[.int .i64 gc, .int .i64 gl, .int .i64 b, .int .i64 gp, .int .i64 gs, .int .i64 n, .pointer (some ⟨kt, 0, none⟩), .pointer (some ⟨kw, 0, none⟩), .slice (some ⟨ww_3.heap.size, 0, none⟩) b b]) := Lib.hid (At.new' (by first | rfl | simp) 142 _)
        have HXL_5 : Hid (w.heap.size ≤ ww_3.heap.size + 1) := Lib.hid (by have h := HO_4.out.size; first | exact h | (simp at h; omega))
        have HB_5 := Lib.hid (HB_4.out.only hO id)
        have HO_5 := Lib.hid (HO_4.out.trans hO)
        have HT_5 := Lib.hid (HT_4.out.quiet hO)
        have HTN_5 := Lib.hid (HTN_4.out)
        have HTL_5 := Lib.hid (HTL_4.out)
        have HW_5 := Lib.hid (HW_4.out.quiet hO)
        have HWN_5 := Lib.hid (HWN_4.out)
        have HWL_5 := Lib.hid (HWL_4.out)
        have HWU_5 := Lib.hid (fun s hs hA => Nat.lt_of_lt_of_le (HWU_4.out s hs hA) hO.size)
        have HV_5 := Lib.hid (HV_4.out.only hO id)
        have HVL_5 := Lib.hid (HVL_4.out)
        have HSEP_5 := Lib.hid (HSEP_4.out)
        try clear hO
        try simp only []
        refine hK.out _ _ ?_ (fun hHeld => ?_)
        · exact ⟨⟨HB_5.out.cell 0, HB_5.out.cell 1⟩, ⟨HB_5.out.cell 2, HB_5.out.cell 3⟩, HB_5.out.cell 4⟩
        clear hK K
        try simp only [Act.put, List.setIfInBounds_toArray, List.set_cons_zero, List.set_cons_succ]
        refine wpAnyH_take (i := 13) (oi := { dst := some 4, op := Op.assign (Operand.tmp 35), type := 62, pos := "l2p.go:44", after := #[{ on := 12, ground := Ground.data }, { on := 7, ground := Ground.chain }, { on := 0, ground := Ground.phase }, { on := 1, ground := Ground.phase }, { on := 2, ground := Ground.phase }, { on := 3, ground := Ground.phase }, { on := 4, ground := Ground.phase }, { on := 5, ground := Ground.phase }, { on := 6, ground := Ground.phase }, { on := 7, ground := Ground.phase }, { on := 8, ground := Ground.phase }, { on := 9, ground := Ground.phase }, { on := 10, ground := Ground.phase }, { on := 11, ground := Ground.phase }, { on := 12, ground := Ground.phase }], guard := none }) (v := ?_) rfl (by kernel_rfl) (by kernel_rfl) (by kernel_rfl) (fun _ _ _ h => h) (Or.inl ⟨by rfl, ?_⟩) (by assumption) ?_
        rotate_left
        · (intro w hSw; (try dsimp only at hSw); (try obtain ⟨hSa, hSb⟩ := hSw); go_simp; try with_reducible rfl)
        try simp only [Act.put, List.setIfInBounds_toArray, List.set_cons_zero, List.set_cons_succ]
        refine wpAnyH_take (i := 14) (oi := { dst := some 5, op := Op.assign (Operand.const (Value.int IntKind.i64 0)), type := 41, pos := "l2p.go:44", after := #[{ on := 13, ground := Ground.chain }, { on := 0, ground := Ground.phase }, { on := 1, ground := Ground.phase }, { on := 2, ground := Ground.phase }, { on := 3, ground := Ground.phase }, { on := 4, ground := Ground.phase }, { on := 5, ground := Ground.phase }, { on := 6, ground := Ground.phase }, { on := 7, ground := Ground.phase }, { on := 8, ground := Ground.phase }, { on := 9, ground := Ground.phase }, { on := 10, ground := Ground.phase }, { on := 11, ground := Ground.phase }, { on := 12, ground := Ground.phase }, { on := 13, ground := Ground.phase }], guard := none }) (v := ?_) rfl (by kernel_rfl) (by kernel_rfl) (by kernel_rfl) (fun _ _ _ h => h) (Or.inl ⟨by rfl, ?_⟩) (by assumption) ?_
        rotate_left
        · (intro w hSw; (try dsimp only at hSw); (try obtain ⟨hSa, hSb⟩ := hSw); go_simp; try with_reducible rfl)
        try simp only [Act.put, List.setIfInBounds_toArray, List.set_cons_zero, List.set_cons_succ]
        refine wpAnyH_done (by kernel_rfl) ?_ _
        go_wp2_with (fail)
        go_ret2
        refine ⟨_, kt, kw, ww_3.heap.size, st, sw, rfl, ⟨?_, ?_, ?_, ?_, HII.out, ?_, HTN_5.out, ?_, ⟨HXL_5.out, HTL_5.out, HWL_5.out, HVL_5.out⟩⟩, HSEP_5.out, HO_5.out⟩
        · rw [List.length_replicate]; exact HX_5.out
        · have e : (fun s => flat (En.cells ⟨-1, 0, 0⟩) (st s).n) = (fun s => colE (fun _ => ⟨-1, 0, 0⟩) (st s).n s) := by funext s; exact colE_none _ _
          rw [← e]; exact HT_5.out
        · have e : (fun s => flat [.int .i64 0] (sw s).n) = (fun s => colI (fun _ => 0) (sw s).n s) := by funext s; exact colI_none _ _
          rw [← e]; exact HW_5.out
        · rw [← zeros_iv]; exact HV_5.out
        · rw [List.length_replicate]
        · have h := HWN_5.out
          rw [HALL.out, Int.toNat_natCast]
          exact h
      · skip
        have hmk := HMK.out
        go_simp
        clear hmk
        have hO := (Only.refl (fun _ => False) ww_2).alloc (.cells (zeros (.int .i64 0) b) 3)
        have HV_6 : Hid (At (ww_2.alloc (.cells (zeros (.int .i64 0) b) 3)) (ww_2.heap.size) 3 (zeros (.int .i64 0) b)) := Lib.hid (At.new' (by first | rfl | simp) 3 (zeros (.int .i64 0) b))
        have HVL_6 : Hid (w.heap.size ≤ ww_2.heap.size) := Lib.hid (HO_2.out.size)
        have HB_6 := Lib.hid (HB_2.out.only hO id)
        have HO_6 := Lib.hid (HO_2.out.trans hO)
        have HT_6 := Lib.hid (HT_2.out.quiet hO)
        have HTN_6 := Lib.hid (HTN_2.out)
        have HTL_6 := Lib.hid (HTL_2.out)
        try clear hO
        try simp only []
        refine hK.out _ _ ?_ (fun hHeld => ?_)
        · exact ⟨⟨HB_6.out.cell 0, HB_6.out.cell 1⟩, ⟨HB_6.out.cell 2, HB_6.out.cell 3⟩, HB_6.out.cell 4⟩
        clear hK K
        try simp only [Act.put, List.setIfInBounds_toArray, List.set_cons_zero, List.set_cons_succ]
        refine wpAnyH_ready (rs := [7]) (by kernel_rfl) (by simp) ?_
        refine AllReadyH.cons (o := { dst := some 30, op := Op.call { callee := Callee.value (Operand.func 103), args := #[Operand.tmp 29, Operand.const (Value.int IntKind.i64 0)], argTypes := #[3, 3] }, type := 140, pos := "l2p.go:44", after := #[{ on := 6, ground := Ground.data }, { on := 6, ground := Ground.chain }], guard := none }) rfl (fun K hK => ?_) AllReadyH.nil
        go_simp
        refine (HG2.out _).mono ?_
        rintro e ww_7 ⟨kw, sw, rfl, hk, hn, hl, hO⟩
        have HW_7 := Lib.hid (hk.weak HO_6.out.size)
        have HWN_7 := Lib.hid hn
        have HWL_7 := Lib.hid (Nat.le_trans HO_6.out.size hl)
        have HSEP_7 : Hid (∀ s, s < 4 → (sw s).A ≠ none → (sw s).g ≠ ww_2.heap.size) := Lib.hid (fun s hs hA => by have h1 := hk.ge s hs hA; have h2 := HV_6.out.lt; (try simp at h1); (try simp at h2); omega)
        clear hk hn hl
        have HB_7 := Lib.hid (HB_6.out.only hO id)
        have HO_7 := Lib.hid (HO_6.out.trans hO)
        have HT_7 := Lib.hid (HT_6.out.quiet hO)
        have HTN_7 := Lib.hid (HTN_6.out)
        have HTL_7 := Lib.hid (HTL_6.out)
        have HV_7 := Lib.hid (HV_6.out.only hO id)
        have HVL_7 := Lib.hid (HVL_6.out)
        try clear hO
        try simp only []
        refine hK.out _ _ ?_ (fun hHeld => ?_)
        · exact ⟨⟨HB_7.out.cell 0, HB_7.out.cell 1⟩, ⟨HB_7.out.cell 2, HB_7.out.cell 3⟩, HB_7.out.cell 4⟩
        clear hK K
        try simp only [Act.put, List.setIfInBounds_toArray, List.set_cons_zero, List.set_cons_succ]
        refine wpAnyH_take (i := 11) (oi := { dst := some 34, op := Op.build 142 #[(0, Operand.tmp 23), (1, Operand.tmp 24), (2, Operand.tmp 27), (3, Operand.tmp 30), (4, Operand.tmp 33)], type := 142, pos := "l2p.go:44", after := #[{ on := 0, ground := Ground.data }, { on := 1, ground := Ground.data }, { on := 4, ground := Ground.data }, { on := 7, ground := Ground.data }, { on := 10, ground := Ground.data }], guard := none }) (v := ?_) rfl (by kernel_rfl) (by kernel_rfl) (by kernel_rfl) (fun _ _ _ h => h) (Or.inl ⟨by rfl, ?_⟩) (by assumption) ?_
        rotate_left
        · (intro w hSw; (try dsimp only at hSw); (try obtain ⟨hSa, hSb⟩ := hSw); go_simp; try with_reducible rfl)
        try simp only [Act.put, List.setIfInBounds_toArray, List.set_cons_zero, List.set_cons_succ]
        refine wpAnyH_ready (rs := [12]) (by kernel_rfl) (by simp) ?_
        refine AllReadyH.cons (o := { dst := some 35, op := Op.box 142 (Operand.tmp 34), type := 62, pos := "l2p.go:44", after := #[{ on := 11, ground := Ground.data }], guard := none }) rfl (fun K hK => ?_) AllReadyH.nil
        go_simp
        have hO := (Only.refl (fun _ => False) ww_7).alloc (.cells #[.int .i64 gc, .int .i64 gl, .int .i64 b, .int .i64 gp, .int .i64 gs, .int .i64 n, .pointer (some ⟨kt, 0, none⟩), .pointer (some ⟨kw, 0, none⟩), .slice (some ⟨ww_2.heap.size, 0, none⟩) b b] 142)
        have HX_8 : Hid (At (ww_7.alloc (.cells #[.int .i64 gc, .int .i64 gl, .int .i64 b, .int .i64 gp, .int .i64 gs, .int .i64 n, .pointer (some ⟨kt, 0, none⟩), .pointer (some ⟨kw, 0, none⟩), .slice (some ⟨ww_2.heap.size, 0, none⟩) b b] 142)) (ww_7.heap.size) 142 #[.int .i64 gc, .int .i64 gl, .int .i64 b, .int .i64 gp, .int .i64 gs, .int .i64 n, .pointer (some ⟨kt, 0, none⟩), .pointer (some ⟨kw, 0, none⟩), .slice (some ⟨ww_2.heap.size, 0, none⟩) b b]) := Lib.hid (At.new' (by first | rfl | simp) 142 _)
        have HXL_8 : Hid (w.heap.size ≤ ww_7.heap.size) := Lib.hid (by have h := HO_7.out.size; first | exact h | (simp at h; omega))
        have HB_8 := Lib.hid (HB_7.out.only hO id)
        have HO_8 := Lib.hid (HO_7.out.trans hO)
        have HT_8 := Lib.hid (HT_7.out.quiet hO)
        have HTN_8 := Lib.hid (HTN_7.out)
        have HTL_8 := Lib.hid (HTL_7.out)
        have HV_8 := Lib.hid (HV_7.out.only hO id)
        have HVL_8 := Lib.hid (HVL_7.out)
        have HW_8 := Lib.hid (HW_7.out.quiet hO)
        have HWN_8 := Lib.hid (HWN_7.out)
        have HWL_8 := Lib.hid (HWL_7.out)
        have HSEP_8 := Lib.hid (HSEP_7.out)
        try clear hO
        try simp only []
        refine hK.out _ _ ?_ (fun hHeld => ?_)
        · exact ⟨⟨HB_8.out.cell 0, HB_8.out.cell 1⟩, ⟨HB_8.out.cell 2, HB_8.out.cell 3⟩, HB_8.out.cell 4⟩
        clear hK K
        try simp only [Act.put, List.setIfInBounds_toArray, List.set_cons_zero, List.set_cons_succ]
        refine wpAnyH_take (i := 13) (oi := { dst := some 4, op := Op.assign (Operand.tmp 35), type := 62, pos := "l2p.go:44", after := #[{ on := 12, ground := Ground.data }, { on := 7, ground := Ground.chain }, { on := 0, ground := Ground.phase }, { on := 1, ground := Ground.phase }, { on := 2, ground := Ground.phase }, { on := 3, ground := Ground.phase }, { on := 4, ground := Ground.phase }, { on := 5, ground := Ground.phase }, { on := 6, ground := Ground.phase }, { on := 7, ground := Ground.phase }, { on := 8, ground := Ground.phase }, { on := 9, ground := Ground.phase }, { on := 10, ground := Ground.phase }, { on := 11, ground := Ground.phase }, { on := 12, ground := Ground.phase }], guard := none }) (v := ?_) rfl (by kernel_rfl) (by kernel_rfl) (by kernel_rfl) (fun _ _ _ h => h) (Or.inl ⟨by rfl, ?_⟩) (by assumption) ?_
        rotate_left
        · (intro w hSw; (try dsimp only at hSw); (try obtain ⟨hSa, hSb⟩ := hSw); go_simp; try with_reducible rfl)
        try simp only [Act.put, List.setIfInBounds_toArray, List.set_cons_zero, List.set_cons_succ]
        refine wpAnyH_take (i := 14) (oi := { dst := some 5, op := Op.assign (Operand.const (Value.int IntKind.i64 0)), type := 41, pos := "l2p.go:44", after := #[{ on := 13, ground := Ground.chain }, { on := 0, ground := Ground.phase }, { on := 1, ground := Ground.phase }, { on := 2, ground := Ground.phase }, { on := 3, ground := Ground.phase }, { on := 4, ground := Ground.phase }, { on := 5, ground := Ground.phase }, { on := 6, ground := Ground.phase }, { on := 7, ground := Ground.phase }, { on := 8, ground := Ground.phase }, { on := 9, ground := Ground.phase }, { on := 10, ground := Ground.phase }, { on := 11, ground := Ground.phase }, { on := 12, ground := Ground.phase }, { on := 13, ground := Ground.phase }], guard := none }) (v := ?_) rfl (by kernel_rfl) (by kernel_rfl) (by kernel_rfl) (fun _ _ _ h => h) (Or.inl ⟨by rfl, ?_⟩) (by assumption) ?_
        rotate_left
        · (intro w hSw; (try dsimp only at hSw); (try obtain ⟨hSa, hSb⟩ := hSw); go_simp; try with_reducible rfl)
        try simp only [Act.put, List.setIfInBounds_toArray, List.set_cons_zero, List.set_cons_succ]
        refine wpAnyH_done (by kernel_rfl) ?_ _
        go_wp2_with (fail)
        go_ret2
        refine ⟨_, kt, kw, ww_2.heap.size, st, sw, rfl, ⟨?_, ?_, ?_, ?_, HII.out, ?_, HTN_8.out, ?_, ⟨HXL_8.out, HTL_8.out, HWL_8.out, HVL_8.out⟩⟩, HSEP_8.out, HO_8.out⟩
        · rw [List.length_replicate]; exact HX_8.out
        · have e : (fun s => flat (En.cells ⟨-1, 0, 0⟩) (st s).n) = (fun s => colE (fun _ => ⟨-1, 0, 0⟩) (st s).n s) := by funext s; exact colE_none _ _
          rw [← e]; exact HT_8.out
        · have e : (fun s => flat [.int .i64 0] (sw s).n) = (fun s => colI (fun _ => 0) (sw s).n s) := by funext s; exact colI_none _ _
          rw [← e]; exact HW_8.out
        · rw [← zeros_iv]; exact HV_8.out
        · rw [List.length_replicate]
        · have h := HWN_8.out
          rw [HALL.out, Int.toNat_natCast]
          exact h
    · skip
      have hmk := HMK.out
      go_simp
      clear hmk
      have hO := (Only.refl (fun _ => False) ww_1).alloc (.cells (zeros (.int .i64 0) b) 3)
      have HV_9 : Hid (At (ww_1.alloc (.cells (zeros (.int .i64 0) b) 3)) (ww_1.heap.size) 3 (zeros (.int .i64 0) b)) := Lib.hid (At.new' (by first | rfl | simp) 3 (zeros (.int .i64 0) b))
      have HVL_9 : Hid (w.heap.size ≤ ww_1.heap.size) := Lib.hid (HO_1.out.size)
      have HB_9 := Lib.hid (HB_1.out.only hO id)
      have HO_9 := Lib.hid (HO_1.out.trans hO)
      have HT_9 := Lib.hid (HT_1.out.quiet hO)
      have HTN_9 := Lib.hid (HTN_1.out)
      have HTL_9 := Lib.hid (HTL_1.out)
      try clear hO
      try simp only []
      refine hK.out _ _ ?_ (fun hHeld => ?_)
      · exact ⟨⟨HB_9.out.cell 0, HB_9.out.cell 1⟩, ⟨HB_9.out.cell 2, HB_9.out.cell 3⟩, HB_9.out.cell 4⟩
      clear hK K
      try simp only [Act.put, List.setIfInBounds_toArray, List.set_cons_zero, List.set_cons_succ]
      refine wpAnyH_ready (rs := [6]) (by kernel_rfl) (by simp) ?_
      refine AllReadyH.cons (o := { dst := some 29, op := Op.call { callee := Callee.value (Operand.func 101), args := #[Operand.tmp 28], argTypes := #[23] }, type := 3, pos := "l2p.go:44", after := #[{ on := 5, ground := Ground.data }, { on := 4, ground := Ground.chain }], guard := none }) rfl (fun K hK => ?_) AllReadyH.nil
      go_simp
      refine (HAL.out _).mono ?_
      rintro e ww_10 ⟨rfl, hO⟩
      have HB_10 := Lib.hid (HB_9.out.only hO id)
      have HO_10 := Lib.hid (HO_9.out.trans hO)
      have HT_10 := Lib.hid (HT_9.out.quiet hO)
      have HTN_10 := Lib.hid (HTN_9.out)
      have HTL_10 := Lib.hid (HTL_9.out)
      have HV_10 := Lib.hid (HV_9.out.only hO id)
      have HVL_10 := Lib.hid (HVL_9.out)
      try clear hO
      try simp only []
      refine hK.out _ _ ?_ (fun hHeld => ?_)
      · exact ⟨⟨HB_10.out.cell 0, HB_10.out.cell 1⟩, ⟨HB_10.out.cell 2, HB_10.out.cell 3⟩, HB_10.out.cell 4⟩
      clear hK K
      try simp only [Act.put, List.setIfInBounds_toArray, List.set_cons_zero, List.set_cons_succ]
      refine wpAnyH_ready (rs := [7]) (by kernel_rfl) (by simp) ?_
      refine AllReadyH.cons (o := { dst := some 30, op := Op.call { callee := Callee.value (Operand.func 103), args := #[Operand.tmp 29, Operand.const (Value.int IntKind.i64 0)], argTypes := #[3, 3] }, type := 140, pos := "l2p.go:44", after := #[{ on := 6, ground := Ground.data }, { on := 6, ground := Ground.chain }], guard := none }) rfl (fun K hK => ?_) AllReadyH.nil
      go_simp
      refine (HG2.out _).mono ?_
      rintro e ww_11 ⟨kw, sw, rfl, hk, hn, hl, hO⟩
      have HW_11 := Lib.hid (hk.weak HO_10.out.size)
      have HWN_11 := Lib.hid hn
      have HWL_11 := Lib.hid (Nat.le_trans HO_10.out.size hl)
      have HSEP_11 : Hid (∀ s, s < 4 → (sw s).A ≠ none → (sw s).g ≠ ww_1.heap.size) := Lib.hid (fun s hs hA => by have h1 := hk.ge s hs hA; have h2 := HV_10.out.lt; (try simp at h1); (try simp at h2); omega)
      clear hk hn hl
      have HB_11 := Lib.hid (HB_10.out.only hO id)
      have HO_11 := Lib.hid (HO_10.out.trans hO)
      have HT_11 := Lib.hid (HT_10.out.quiet hO)
      have HTN_11 := Lib.hid (HTN_10.out)
      have HTL_11 := Lib.hid (HTL_10.out)
      have HV_11 := Lib.hid (HV_10.out.only hO id)
      have HVL_11 := Lib.hid (HVL_10.out)
      try clear hO
      try simp only []
      refine hK.out _ _ ?_ (fun hHeld => ?_)
      · exact ⟨⟨HB_11.out.cell 0, HB_11.out.cell 1⟩, ⟨HB_11.out.cell 2, HB_11.out.cell 3⟩, HB_11.out.cell 4⟩
      clear hK K
      try simp only [Act.put, List.setIfInBounds_toArray, List.set_cons_zero, List.set_cons_succ]
      refine wpAnyH_take (i := 11) (oi := { dst := some 34, op := Op.build 142 #[(0, Operand.tmp 23), (1, Operand.tmp 24), (2, Operand.tmp 27), (3, Operand.tmp 30), (4, Operand.tmp 33)], type := 142, pos := "l2p.go:44", after := #[{ on := 0, ground := Ground.data }, { on := 1, ground := Ground.data }, { on := 4, ground := Ground.data }, { on := 7, ground := Ground.data }, { on := 10, ground := Ground.data }], guard := none }) (v := ?_) rfl (by kernel_rfl) (by kernel_rfl) (by kernel_rfl) (fun _ _ _ h => h) (Or.inl ⟨by rfl, ?_⟩) (by assumption) ?_
      rotate_left
      · (intro w hSw; (try dsimp only at hSw); (try obtain ⟨hSa, hSb⟩ := hSw); go_simp; try with_reducible rfl)
      try simp only [Act.put, List.setIfInBounds_toArray, List.set_cons_zero, List.set_cons_succ]
      refine wpAnyH_ready (rs := [12]) (by kernel_rfl) (by simp) ?_
      refine AllReadyH.cons (o := { dst := some 35, op := Op.box 142 (Operand.tmp 34), type := 62, pos := "l2p.go:44", after := #[{ on := 11, ground := Ground.data }], guard := none }) rfl (fun K hK => ?_) AllReadyH.nil
      go_simp
      have hO := (Only.refl (fun _ => False) ww_11).alloc (.cells #[.int .i64 gc, .int .i64 gl, .int .i64 b, .int .i64 gp, .int .i64 gs, .int .i64 n, .pointer (some ⟨kt, 0, none⟩), .pointer (some ⟨kw, 0, none⟩), .slice (some ⟨ww_1.heap.size, 0, none⟩) b b] 142)
      have HX_12 : Hid (At (ww_11.alloc (.cells #[.int .i64 gc, .int .i64 gl, .int .i64 b, .int .i64 gp, .int .i64 gs, .int .i64 n, .pointer (some ⟨kt, 0, none⟩), .pointer (some ⟨kw, 0, none⟩), .slice (some ⟨ww_1.heap.size, 0, none⟩) b b] 142)) (ww_11.heap.size) 142 #[.int .i64 gc, .int .i64 gl, .int .i64 b, .int .i64 gp, .int .i64 gs, .int .i64 n, .pointer (some ⟨kt, 0, none⟩), .pointer (some ⟨kw, 0, none⟩), .slice (some ⟨ww_1.heap.size, 0, none⟩) b b]) := Lib.hid (At.new' (by first | rfl | simp) 142 _)
      have HXL_12 : Hid (w.heap.size ≤ ww_11.heap.size) := Lib.hid (by have h := HO_11.out.size; first | exact h | (simp at h; omega))
      have HB_12 := Lib.hid (HB_11.out.only hO id)
      have HO_12 := Lib.hid (HO_11.out.trans hO)
      have HT_12 := Lib.hid (HT_11.out.quiet hO)
      have HTN_12 := Lib.hid (HTN_11.out)
      have HTL_12 := Lib.hid (HTL_11.out)
      have HV_12 := Lib.hid (HV_11.out.only hO id)
      have HVL_12 := Lib.hid (HVL_11.out)
      have HW_12 := Lib.hid (HW_11.out.quiet hO)
      have HWN_12 := Lib.hid (HWN_11.out)
      have HWL_12 := Lib.hid (HWL_11.out)
      have HSEP_12 := Lib.hid (HSEP_11.out)
      try clear hO
      try simp only []
      refine hK.out _ _ ?_ (fun hHeld => ?_)
      · exact ⟨⟨HB_12.out.cell 0, HB_12.out.cell 1⟩, ⟨HB_12.out.cell 2, HB_12.out.cell 3⟩, HB_12.out.cell 4⟩
      clear hK K
      try simp only [Act.put, List.setIfInBounds_toArray, List.set_cons_zero, List.set_cons_succ]
      refine wpAnyH_take (i := 13) (oi := { dst := some 4, op := Op.assign (Operand.tmp 35), type := 62, pos := "l2p.go:44", after := #[{ on := 12, ground := Ground.data }, { on := 7, ground := Ground.chain }, { on := 0, ground := Ground.phase }, { on := 1, ground := Ground.phase }, { on := 2, ground := Ground.phase }, { on := 3, ground := Ground.phase }, { on := 4, ground := Ground.phase }, { on := 5, ground := Ground.phase }, { on := 6, ground := Ground.phase }, { on := 7, ground := Ground.phase }, { on := 8, ground := Ground.phase }, { on := 9, ground := Ground.phase }, { on := 10, ground := Ground.phase }, { on := 11, ground := Ground.phase }, { on := 12, ground := Ground.phase }], guard := none }) (v := ?_) rfl (by kernel_rfl) (by kernel_rfl) (by kernel_rfl) (fun _ _ _ h => h) (Or.inl ⟨by rfl, ?_⟩) (by assumption) ?_
      rotate_left
      · (intro w hSw; (try dsimp only at hSw); (try obtain ⟨hSa, hSb⟩ := hSw); go_simp; try with_reducible rfl)
      try simp only [Act.put, List.setIfInBounds_toArray, List.set_cons_zero, List.set_cons_succ]
      refine wpAnyH_take (i := 14) (oi := { dst := some 5, op := Op.assign (Operand.const (Value.int IntKind.i64 0)), type := 41, pos := "l2p.go:44", after := #[{ on := 13, ground := Ground.chain }, { on := 0, ground := Ground.phase }, { on := 1, ground := Ground.phase }, { on := 2, ground := Ground.phase }, { on := 3, ground := Ground.phase }, { on := 4, ground := Ground.phase }, { on := 5, ground := Ground.phase }, { on := 6, ground := Ground.phase }, { on := 7, ground := Ground.phase }, { on := 8, ground := Ground.phase }, { on := 9, ground := Ground.phase }, { on := 10, ground := Ground.phase }, { on := 11, ground := Ground.phase }, { on := 12, ground := Ground.phase }, { on := 13, ground := Ground.phase }], guard := none }) (v := ?_) rfl (by kernel_rfl) (by kernel_rfl) (by kernel_rfl) (fun _ _ _ h => h) (Or.inl ⟨by rfl, ?_⟩) (by assumption) ?_
      rotate_left
      · (intro w hSw; (try dsimp only at hSw); (try obtain ⟨hSa, hSb⟩ := hSw); go_simp; try with_reducible rfl)
      try simp only [Act.put, List.setIfInBounds_toArray, List.set_cons_zero, List.set_cons_succ]
      refine wpAnyH_done (by kernel_rfl) ?_ _
      go_wp2_with (fail)
      go_ret2
      refine ⟨_, kt, kw, ww_1.heap.size, st, sw, rfl, ⟨?_, ?_, ?_, ?_, HII.out, ?_, HTN_12.out, ?_, ⟨HXL_12.out, HTL_12.out, HWL_12.out, HVL_12.out⟩⟩, HSEP_12.out, HO_12.out⟩
      · rw [List.length_replicate]; exact HX_12.out
      · have e : (fun s => flat (En.cells ⟨-1, 0, 0⟩) (st s).n) = (fun s => colE (fun _ => ⟨-1, 0, 0⟩) (st s).n s) := by funext s; exact colE_none _ _
        rw [← e]; exact HT_12.out
      · have e : (fun s => flat [.int .i64 0] (sw s).n) = (fun s => colI (fun _ => 0) (sw s).n s) := by funext s; exact colI_none _ _
        rw [← e]; exact HW_12.out
      · rw [← zeros_iv]; exact HV_12.out
      · rw [List.length_replicate]
      · have h := HWN_12.out
        rw [HALL.out, Int.toNat_natCast]
        exact h
  · skip
    have hmk := HMK.out
    go_simp
    clear hmk
    have hO := (Only.refl (fun _ => False) w2.drew).alloc (.cells (zeros (.int .i64 0) b) 3)
    have HV_13 : Hid (At (w2.drew.alloc (.cells (zeros (.int .i64 0) b) 3)) (w2.heap.size) 3 (zeros (.int .i64 0) b)) := Lib.hid (At.new' (by first | rfl | simp) 3 (zeros (.int .i64 0) b))
    have HVL_13 : Hid (w.heap.size ≤ w2.heap.size) := Lib.hid (HOs.out.size)
    have HB_13 := Lib.hid (HBs.out.only hO id)
    have HO_13 := Lib.hid (HOs.out.trans hO)
    try clear hO
    try simp only []
    refine hK.out _ _ ?_ (fun hHeld => ?_)
    · exact ⟨⟨HB_13.out.cell 0, HB_13.out.cell 1⟩, ⟨HB_13.out.cell 2, HB_13.out.cell 3⟩, HB_13.out.cell 4⟩
    clear hK K
    try simp only [Act.put, List.setIfInBounds_toArray, List.set_cons_zero, List.set_cons_succ]
    refine wpAnyH_ready (rs := [4]) (by kernel_rfl) (by simp) ?_
    refine AllReadyH.cons (o := { dst := some 27, op := Op.call { callee := Callee.value (Operand.func 102), args := #[Operand.tmp 25, Operand.tmp 26], argTypes := #[3, 163] }, type := 139, pos := "l2p.go:44", after := #[{ on := 2, ground := Ground.data }, { on := 3, ground := Ground.data }], guard := none }) rfl (fun K hK => ?_) AllReadyH.nil
    go_simp
    refine (HG1.out _).mono ?_
    rintro e ww_14 ⟨kt, st, rfl, hk, hn, hl, hO⟩
    have HT_14 := Lib.hid (hk.weak HO_13.out.size)
    have HTN_14 := Lib.hid hn
    have HTL_14 := Lib.hid (Nat.le_trans HO_13.out.size hl)
    clear hk hn hl
    have HB_14 := Lib.hid (HB_13.out.only hO id)
    have HO_14 := Lib.hid (HO_13.out.trans hO)
    have HV_14 := Lib.hid (HV_13.out.only hO id)
    have HVL_14 := Lib.hid (HVL_13.out)
    try clear hO
    try simp only []
    refine hK.out _ _ ?_ (fun hHeld => ?_)
    · exact ⟨⟨HB_14.out.cell 0, HB_14.out.cell 1⟩, ⟨HB_14.out.cell 2, HB_14.out.cell 3⟩, HB_14.out.cell 4⟩
    clear hK K
    try simp only [Act.put, List.setIfInBounds_toArray, List.set_cons_zero, List.set_cons_succ]
    refine wpAnyH_ready (rs := [6]) (by kernel_rfl) (by simp) ?_
    refine AllReadyH.cons (o := { dst := some 29, op := Op.call { callee := Callee.value (Operand.func 101), args := #[Operand.tmp 28], argTypes := #[23] }, type := 3, pos := "l2p.go:44", after := #[{ on := 5, ground := Ground.data }, { on := 4, ground := Ground.chain }], guard := none }) rfl (fun K hK => ?_) AllReadyH.nil
    go_simp
    refine (HAL.out _).mono ?_
    rintro e ww_15 ⟨rfl, hO⟩
    have HB_15 := Lib.hid (HB_14.out.only hO id)
    have HO_15 := Lib.hid (HO_14.out.trans hO)
    have HV_15 := Lib.hid (HV_14.out.only hO id)
    have HVL_15 := Lib.hid (HVL_14.out)
    have HT_15 := Lib.hid (HT_14.out.quiet hO)
    have HTN_15 := Lib.hid (HTN_14.out)
    have HTL_15 := Lib.hid (HTL_14.out)
    try clear hO
    try simp only []
    refine hK.out _ _ ?_ (fun hHeld => ?_)
    · exact ⟨⟨HB_15.out.cell 0, HB_15.out.cell 1⟩, ⟨HB_15.out.cell 2, HB_15.out.cell 3⟩, HB_15.out.cell 4⟩
    clear hK K
    try simp only [Act.put, List.setIfInBounds_toArray, List.set_cons_zero, List.set_cons_succ]
    refine wpAnyH_ready (rs := [7]) (by kernel_rfl) (by simp) ?_
    refine AllReadyH.cons (o := { dst := some 30, op := Op.call { callee := Callee.value (Operand.func 103), args := #[Operand.tmp 29, Operand.const (Value.int IntKind.i64 0)], argTypes := #[3, 3] }, type := 140, pos := "l2p.go:44", after := #[{ on := 6, ground := Ground.data }, { on := 6, ground := Ground.chain }], guard := none }) rfl (fun K hK => ?_) AllReadyH.nil
    go_simp
    refine (HG2.out _).mono ?_
    rintro e ww_16 ⟨kw, sw, rfl, hk, hn, hl, hO⟩
    have HW_16 := Lib.hid (hk.weak HO_15.out.size)
    have HWN_16 := Lib.hid hn
    have HWL_16 := Lib.hid (Nat.le_trans HO_15.out.size hl)
    have HSEP_16 : Hid (∀ s, s < 4 → (sw s).A ≠ none → (sw s).g ≠ w2.heap.size) := Lib.hid (fun s hs hA => by have h1 := hk.ge s hs hA; have h2 := HV_15.out.lt; (try simp at h1); (try simp at h2); omega)
    clear hk hn hl
    have HB_16 := Lib.hid (HB_15.out.only hO id)
    have HO_16 := Lib.hid (HO_15.out.trans hO)
    have HV_16 := Lib.hid (HV_15.out.only hO id)
    have HVL_16 := Lib.hid (HVL_15.out)
    have HT_16 := Lib.hid (HT_15.out.quiet hO)
    have HTN_16 := Lib.hid (HTN_15.out)
    have HTL_16 := Lib.hid (HTL_15.out)
    try clear hO
    try simp only []
    refine hK.out _ _ ?_ (fun hHeld => ?_)
    · exact ⟨⟨HB_16.out.cell 0, HB_16.out.cell 1⟩, ⟨HB_16.out.cell 2, HB_16.out.cell 3⟩, HB_16.out.cell 4⟩
    clear hK K
    try simp only [Act.put, List.setIfInBounds_toArray, List.set_cons_zero, List.set_cons_succ]
    refine wpAnyH_take (i := 11) (oi := { dst := some 34, op := Op.build 142 #[(0, Operand.tmp 23), (1, Operand.tmp 24), (2, Operand.tmp 27), (3, Operand.tmp 30), (4, Operand.tmp 33)], type := 142, pos := "l2p.go:44", after := #[{ on := 0, ground := Ground.data }, { on := 1, ground := Ground.data }, { on := 4, ground := Ground.data }, { on := 7, ground := Ground.data }, { on := 10, ground := Ground.data }], guard := none }) (v := ?_) rfl (by kernel_rfl) (by kernel_rfl) (by kernel_rfl) (fun _ _ _ h => h) (Or.inl ⟨by rfl, ?_⟩) (by assumption) ?_
    rotate_left
    · (intro w hSw; (try dsimp only at hSw); (try obtain ⟨hSa, hSb⟩ := hSw); go_simp; try with_reducible rfl)
    try simp only [Act.put, List.setIfInBounds_toArray, List.set_cons_zero, List.set_cons_succ]
    refine wpAnyH_ready (rs := [12]) (by kernel_rfl) (by simp) ?_
    refine AllReadyH.cons (o := { dst := some 35, op := Op.box 142 (Operand.tmp 34), type := 62, pos := "l2p.go:44", after := #[{ on := 11, ground := Ground.data }], guard := none }) rfl (fun K hK => ?_) AllReadyH.nil
    go_simp
    have hO := (Only.refl (fun _ => False) ww_16).alloc (.cells #[.int .i64 gc, .int .i64 gl, .int .i64 b, .int .i64 gp, .int .i64 gs, .int .i64 n, .pointer (some ⟨kt, 0, none⟩), .pointer (some ⟨kw, 0, none⟩), .slice (some ⟨w2.heap.size, 0, none⟩) b b] 142)
    have HX_17 : Hid (At (ww_16.alloc (.cells #[.int .i64 gc, .int .i64 gl, .int .i64 b, .int .i64 gp, .int .i64 gs, .int .i64 n, .pointer (some ⟨kt, 0, none⟩), .pointer (some ⟨kw, 0, none⟩), .slice (some ⟨w2.heap.size, 0, none⟩) b b] 142)) (ww_16.heap.size) 142 #[.int .i64 gc, .int .i64 gl, .int .i64 b, .int .i64 gp, .int .i64 gs, .int .i64 n, .pointer (some ⟨kt, 0, none⟩), .pointer (some ⟨kw, 0, none⟩), .slice (some ⟨w2.heap.size, 0, none⟩) b b]) := Lib.hid (At.new' (by first | rfl | simp) 142 _)
    have HXL_17 : Hid (w.heap.size ≤ ww_16.heap.size) := Lib.hid (by have h := HO_16.out.size; first | exact h | (simp at h; omega))
    have HB_17 := Lib.hid (HB_16.out.only hO id)
    have HO_17 := Lib.hid (HO_16.out.trans hO)
    have HV_17 := Lib.hid (HV_16.out.only hO id)
    have HVL_17 := Lib.hid (HVL_16.out)
    have HT_17 := Lib.hid (HT_16.out.quiet hO)
    have HTN_17 := Lib.hid (HTN_16.out)
    have HTL_17 := Lib.hid (HTL_16.out)
    have HW_17 := Lib.hid (HW_16.out.quiet hO)
    have HWN_17 := Lib.hid (HWN_16.out)
    have HWL_17 := Lib.hid (HWL_16.out)
    have HSEP_17 := Lib.hid (HSEP_16.out)
    try clear hO
    try simp only []
    refine hK.out _ _ ?_ (fun hHeld => ?_)
    · exact ⟨⟨HB_17.out.cell 0, HB_17.out.cell 1⟩, ⟨HB_17.out.cell 2, HB_17.out.cell 3⟩, HB_17.out.cell 4⟩
    clear hK K
    try simp only [Act.put, List.setIfInBounds_toArray, List.set_cons_zero, List.set_cons_succ]
    refine wpAnyH_take (i := 13) (oi := { dst := some 4, op := Op.assign (Operand.tmp 35), type := 62, pos := "l2p.go:44", after := #[{ on := 12, ground := Ground.data }, { on := 7, ground := Ground.chain }, { on := 0, ground := Ground.phase }, { on := 1, ground := Ground.phase }, { on := 2, ground := Ground.phase }, { on := 3, ground := Ground.phase }, { on := 4, ground := Ground.phase }, { on := 5, ground := Ground.phase }, { on := 6, ground := Ground.phase }, { on := 7, ground := Ground.phase }, { on := 8, ground := Ground.phase }, { on := 9, ground := Ground.phase }, { on := 10, ground := Ground.phase }, { on := 11, ground := Ground.phase }, { on := 12, ground := Ground.phase }], guard := none }) (v := ?_) rfl (by kernel_rfl) (by kernel_rfl) (by kernel_rfl) (fun _ _ _ h => h) (Or.inl ⟨by rfl, ?_⟩) (by assumption) ?_
    rotate_left
    · (intro w hSw; (try dsimp only at hSw); (try obtain ⟨hSa, hSb⟩ := hSw); go_simp; try with_reducible rfl)
    try simp only [Act.put, List.setIfInBounds_toArray, List.set_cons_zero, List.set_cons_succ]
    refine wpAnyH_take (i := 14) (oi := { dst := some 5, op := Op.assign (Operand.const (Value.int IntKind.i64 0)), type := 41, pos := "l2p.go:44", after := #[{ on := 13, ground := Ground.chain }, { on := 0, ground := Ground.phase }, { on := 1, ground := Ground.phase }, { on := 2, ground := Ground.phase }, { on := 3, ground := Ground.phase }, { on := 4, ground := Ground.phase }, { on := 5, ground := Ground.phase }, { on := 6, ground := Ground.phase }, { on := 7, ground := Ground.phase }, { on := 8, ground := Ground.phase }, { on := 9, ground := Ground.phase }, { on := 10, ground := Ground.phase }, { on := 11, ground := Ground.phase }, { on := 12, ground := Ground.phase }, { on := 13, ground := Ground.phase }], guard := none }) (v := ?_) rfl (by kernel_rfl) (by kernel_rfl) (by kernel_rfl) (fun _ _ _ h => h) (Or.inl ⟨by rfl, ?_⟩) (by assumption) ?_
    rotate_left
    · (intro w hSw; (try dsimp only at hSw); (try obtain ⟨hSa, hSb⟩ := hSw); go_simp; try with_reducible rfl)
    try simp only [Act.put, List.setIfInBounds_toArray, List.set_cons_zero, List.set_cons_succ]
    refine wpAnyH_done (by kernel_rfl) ?_ _
    go_wp2_with (fail)
    go_ret2
    refine ⟨_, kt, kw, w2.heap.size, st, sw, rfl, ⟨?_, ?_, ?_, ?_, HII.out, ?_, HTN_17.out, ?_, ⟨HXL_17.out, HTL_17.out, HWL_17.out, HVL_17.out⟩⟩, HSEP_17.out, HO_17.out⟩
    · rw [List.length_replicate]; exact HX_17.out
    · have e : (fun s => flat (En.cells ⟨-1, 0, 0⟩) (st s).n) = (fun s => colE (fun _ => ⟨-1, 0, 0⟩) (st s).n s) := by funext s; exact colE_none _ _
      rw [← e]; exact HT_17.out
    · have e : (fun s => flat [.int .i64 0] (sw s).n) = (fun s => colI (fun _ => 0) (sw s).n s) := by funext s; exact colI_none _ _
      rw [← e]; exact HW_17.out
    · rw [← zeros_iv]; exact HV_17.out
    · rw [List.length_replicate]
    · have h := HWN_17.out
      rw [HALL.out, Int.toNat_natCast]
      exact h

end Go.Proofs.YtjobaplioidogaaGreat
