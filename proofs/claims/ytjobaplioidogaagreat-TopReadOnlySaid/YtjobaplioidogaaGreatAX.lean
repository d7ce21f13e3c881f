/- Top: a device's read, where one sector was programmed. -/
import Derived.Test.YtjobaplioidogaaGreatAW
namespace Go.Proofs.YtjobaplioidogaaGreat
open Go.RowKit

theorem look_there {W : World} {b ck : Nat} {es : Array MapEntry} {z : Int} {v : Value} {i : Nat} (hb : W.heap[b]? = some (.map es ck)) (hf : Instr.findNow (.int .i64) (.int .i64 z) es.toList 0 = some (some (i, v))) :
    (Instr.lookup 93 (.map (some b)) (.int .i64 z) true).run Tryz.prog W = .ok (.tuple #[v, .bool true]) W := by
  have h1 := MapKept.run_findKey (P := Tryz.prog) (w := W) (kt := 3) Tryz.underlying3 hf
  simp [Instr.lookup, run_underlying Tryz.underlying93, MapKept.run_getObj_map hb, check_int Tryz.underlying3, h1, Result.andThen]
set_option maxRecDepth 100000 in
theorem look_gone {W : World} {b ck : Nat} {es : Array MapEntry} {z : Int} (hb : W.heap[b]? = some (.map es ck)) (hf : Instr.findNow (.int .i64) (.int .i64 z) es.toList 0 = some none) :
    (Instr.lookup 93 (.map (some b)) (.int .i64 z) true).run Tryz.prog W = .ok (.tuple #[.agg #[.slice none 0 0, .slice none 0 0], .bool false]) W := by
  have h1 := MapKept.run_findKey (P := Tryz.prog) (w := W) (kt := 3) Tryz.underlying3 hf
  have hz : (zeroValue 122).run Tryz.prog W = Result.ok (.agg #[.slice none 0 0, .slice none 0 0]) W := by kernel_rfl
  simp [Instr.lookup, run_underlying Tryz.underlying93, MapKept.run_getObj_map hb, check_int Tryz.underlying3, h1, hz, Result.andThen]

set_option maxRecDepth 100000 in
set_option maxHeartbeats 4000000 in
theorem read_gone (d gb mp pp : Nat) (l : List Bk) (A B : Option Addr) (c c' : Nat) (i : Int) (hi : i = 1 ∨ i = 2 ∨ i = 3) (w : World) (k : NAt w d gb mp pp gq l (oneE A B c c') 1) :
    Calls Tryz.prog 86 #[.pointer (some ⟨d, 0, none⟩), .int .i64 i] w fun e w' => e = .returned (.tuple #[.slice none 0 0, .slice none 0 0, .int .i64 6]) ∧ Only (fun _ => False) w w' := by
  have HA : Hid (∀ W, Calls Tryz.prog 101 #[.agg #[.int .i64 1, .int .i64 1, .int .i64 2, .int .i64 2, .int .i64 1]] W fun e w' => e = .returned (.int .i64 4) ∧ Only (fun _ => False) W w') := Lib.hid (fun W => all_any gq gq_is W)
  have HL : Hid (∀ W, Only (fun _ => False) w W → (Instr.lookup 93 (.map (some mp)) (.int .i64 i) true).run Tryz.prog W = .ok (.tuple #[.agg #[.slice none 0 0, .slice none 0 0], .bool false]) W) := Lib.hid (fun W o => look_gone (k.quiet o).mp (by rcases hi with rfl | rfl | rfl <;> rfl))
  have HK := Lib.hid k
  have c0 := k.st.cell 0
  have c1 := k.st.cell 1
  have c2 := k.st.cell 2
  have c3 := k.st.cell 3
  have c4 := k.st.cell 4
  have c5 := k.st.cell 5
  simp only [List.getElem?_toArray, List.getElem?_cons_zero, List.getElem?_cons_succ, gq] at c0 c1 c2 c3 c4 c5
  clear k
  have d1 : decide (i < 0) = false := decide_eq_false (by omega)
  have d2 : decide (4 ≤ i) = false := decide_eq_false (by omega)
  have d2' : decide (i ≥ 4) = false := decide_eq_false (by omega)
  go_enter Tryz.func86, Tryz.ntmps86
  go_wp2_with (fail)
  refine (HA.out _).mono ?_
  rintro e w1 ⟨rfl, hO⟩
  have HO := Lib.hid hO
  have y := ((HK.out.quiet hO).st).cell 8
  simp only [List.getElem?_toArray, List.getElem?_cons_zero, List.getElem?_cons_succ] at y
  have hlk := HL.out w1 hO
  clear hO c0 c1 c2 c3 c4 c5
  go_wp2
  go_ret3
  exact ⟨rfl, HO.out.alloc _⟩

set_option maxRecDepth 100000 in
set_option maxHeartbeats 8000000 in
theorem read_one (lo : List Value) (hlo : lo.length = 17) (h1 : ∀ u ∈ lo, u.oneCell' = true) (d gb mp pp : Nat) (l : List Bk) (A B : Option Addr) (c c' g3 g4 : Nat) (w : World) (k : NAt w d gb mp pp gq l (oneE A B c c') 1) (hr3 : Rd w g3 A (bv datL)) (hr4 : Rd w g4 B lo) :
    Calls Tryz.prog 86 #[.pointer (some ⟨d, 0, none⟩), .int .i64 0] w fun e w' => ∃ p3 p4 q3 q4, e = .returned (.tuple #[.slice (some ⟨p3, 0, none⟩) 16 q3, .slice (some ⟨p4, 0, none⟩) 17 q4, .int .i64 0]) ∧ 16 ≤ q3 ∧ 17 ≤ q4 ∧ Rd w' p3 (some ⟨p3, 0, none⟩) (bv datL) ∧ Rd w' p4 (some ⟨p4, 0, none⟩) lo ∧ (w.heap.size ≤ p3 ∧ w.heap.size ≤ p4) ∧ Only (fun _ => False) w w' := by
  have HA : Hid (∀ W, Calls Tryz.prog 101 #[.agg #[.int .i64 1, .int .i64 1, .int .i64 2, .int .i64 2, .int .i64 1]] W fun e w' => e = .returned (.int .i64 4) ∧ Only (fun _ => False) W w') := Lib.hid (fun W => all_any gq gq_is W)
  have HL : Hid (∀ W, Only (fun _ => False) w W → (Instr.lookup 93 (.map (some mp)) (.int .i64 0) true).run Tryz.prog W = .ok (.tuple #[.agg #[.slice A 16 c, .slice B 17 c'], .bool true]) W) := Lib.hid (fun W o => look_there (i := 0) (k.quiet o).mp rfl)
  have HK := Lib.hid k
  obtain ⟨o3, rfl, hg3, -⟩ := hr3.at (by simp [bv, datL])
  obtain ⟨o4, rfl, hg4, -⟩ := hr4.at (by intro e; rw [e] at hlo; simp at hlo)
  have HGL := Lib.hid (And.intro hg3 hg4)
  have HQ3 := Lib.hid hr3
  have HQ4 := Lib.hid hr4
  have HL3 := Lib.hid (show (bv datL).length = 16 from rfl)
  have HB3 := Lib.hid (bv_one datL)
  have HL4 := Lib.hid hlo
  have HB4 := Lib.hid h1
  obtain ⟨i0, hi0⟩ : ∃ i, Tryz.prog.info? 5 = some i := ⟨_, rfl⟩
  have HI := Lib.hid (And.intro hi0 (And.intro (show i0.zero = some (.int .u8 0) by cases hi0; rfl) (And.intro (show i0.size = 1 by cases hi0; rfl) (show i0.bytes = 1 by cases hi0; rfl))))
  generalize bv datL = ld at *
  have c0 := k.st.cell 0
  have c1 := k.st.cell 1
  have c2 := k.st.cell 2
  have c3 := k.st.cell 3
  have c4 := k.st.cell 4
  have c5 := k.st.cell 5
  simp only [List.getElem?_toArray, List.getElem?_cons_zero, List.getElem?_cons_succ, gq] at c0 c1 c2 c3 c4 c5
  clear k hi0 hr3 hr4 hlo h1 hg3 hg4
  go_enter Tryz.func86, Tryz.ntmps86
  go_wp2_with (fail)
  refine (HA.out _).mono ?_
  rintro e w1 ⟨rfl, hO⟩
  have y := ((HK.out.quiet hO).st).cell 8
  simp only [List.getElem?_toArray, List.getElem?_cons_zero, List.getElem?_cons_succ] at y
  have hlk := HL.out w1 hO
  have oa := hO.alloc (.cells #[.slice (some ⟨g3, o3, none⟩) 16 c, .slice (some ⟨g4, o4, none⟩) 17 c'] 122)
  have HXa := Lib.hid (At.new w1 122 #[.slice (some ⟨g3, o3, none⟩) 16 c, .slice (some ⟨g4, o4, none⟩) 17 c'])
  obtain ⟨w5, hw5⟩ : ∃ w5, w5 = w1.alloc (.cells #[.slice (some ⟨g3, o3, none⟩) 16 c, .slice (some ⟨g4, o4, none⟩) 17 c'] 122) := ⟨_, rfl⟩
  have HOa := Lib.hid oa
  clear hO oa c0 c1 c2 c3 c4 c5
  go_upto_region 8 with (fail)
  clear hlk y
  rw [← hw5] at HOa HXa ⊢
  clear hw5
  have HXs := Lib.hid HXa.out.drew
  have HOs := Lib.hid HOa.out.drew
  have HQ3s := Lib.hid (HQ3.out.only HOs.out id)
  have HQ4s := Lib.hid (HQ4.out.only HOs.out id)
  have HLT := Lib.hid (show w1.heap.size < w5.heap.size ∧ g3 < w5.heap.size ∧ g4 < w5.heap.size ∧ w.heap.size ≤ w5.heap.size from ⟨HXs.out.lt, Nat.lt_of_lt_of_le HGL.out.1 HOs.out.size, Nat.lt_of_lt_of_le HGL.out.2 HOs.out.size, HOs.out.size⟩)
  refine wp_region_held_drew (S := (fun W' => W'.cell? ⟨w1.heap.size, 0, none⟩ = some (.slice (some ⟨g3, o3, none⟩) 16 c) ∧ W'.cell? ⟨w1.heap.size, 1, none⟩ = some (.slice (some ⟨g4, o4, none⟩) 17 c'))) (by kernel_rfl) ?_ (fun hHeld => ?_)
  · exact ⟨HXs.out.cell 0, HXs.out.cell 1⟩
  refine wpAnyH_take (i := 1) (oi := { dst := some 37, op := Op.fieldAddr 122 (Operand.tmp 7) 0, type := 0, pos := "nand.go:163", after := #[], guard := none }) (v := ?_) rfl (by kernel_rfl) (by kernel_rfl) (by kernel_rfl) (fun _ _ _ h => h) (Or.inl ⟨by rfl, ?_⟩) (by assumption) ?_
  rotate_left
  · (intro w hSw; (try dsimp only at hSw); (try obtain ⟨hSa, hSb⟩ := hSw); go_simp; try with_reducible rfl)
  try simp only [Act.put, List.setIfInBounds_toArray, List.set_cons_zero, List.set_cons_succ]
  refine wpAnyH_take (i := 5) (oi := { dst := some 41, op := Op.fieldAddr 122 (Operand.tmp 7) 1, type := 0, pos := "nand.go:163", after := #[], guard := none }) (v := ?_) rfl (by kernel_rfl) (by kernel_rfl) (by kernel_rfl) (fun _ _ _ h => h) (Or.inl ⟨by rfl, ?_⟩) (by assumption) ?_
  rotate_left
  · (intro w hSw; (try dsimp only at hSw); (try obtain ⟨hSa, hSb⟩ := hSw); go_simp; try with_reducible rfl)
  try simp only [Act.put, List.setIfInBounds_toArray, List.set_cons_zero, List.set_cons_succ]
  refine wpAnyH_take (i := 2) (oi := { dst := some 38, op := Op.load 27 (Operand.tmp 37), type := 27, pos := "nand.go:163", after := #[{ on := 1, ground := Ground.data }], guard := none }) (v := ?_) rfl (by kernel_rfl) (by kernel_rfl) (by kernel_rfl) (fun _ _ _ h => h) (Or.inl ⟨by rfl, ?_⟩) (by assumption) ?_
  rotate_left
  · (intro w hSw; (try dsimp only at hSw); (try obtain ⟨hSa, hSb⟩ := hSw); go_simp; try with_reducible rfl)
  try simp only [Act.put, List.setIfInBounds_toArray, List.set_cons_zero, List.set_cons_succ]
  refine wpAnyH_take (i := 6) (oi := { dst := some 42, op := Op.load 27 (Operand.tmp 41), type := 27, pos := "nand.go:163", after := #[{ on := 5, ground := Ground.data }], guard := none }) (v := ?_) rfl (by kernel_rfl) (by kernel_rfl) (by kernel_rfl) (fun _ _ _ h => h) (Or.inl ⟨by rfl, ?_⟩) (by assumption) ?_
  rotate_left
  · (intro w hSw; (try dsimp only at hSw); (try obtain ⟨hSa, hSb⟩ := hSw); go_simp; try with_reducible rfl)
  try simp only [Act.put, List.setIfInBounds_toArray, List.set_cons_zero, List.set_cons_succ]
  refine wpAnyH_ready (rs := [0, 4]) (by kernel_rfl) (by simp) ?_
  refine AllReadyH.cons (o := { dst := some 36, op := Op.buildSlice 27 0 #[], type := 27, pos := "nand.go:163", after := #[], guard := none }) rfl (fun K hK => ?_) (AllReadyH.cons (o := { dst := some 40, op := Op.buildSlice 27 0 #[], type := 27, pos := "nand.go:163", after := #[], guard := none }) rfl (fun K hK => ?_) AllReadyH.nil)
  · skip
    go_simp
    have hq := (Only.refl (fun _ => False) w5.drew).alloc (.cells #[] 5)
    have HX_1 := Lib.hid (HXs.out.only hq (by first | exact id | (have := HLT.out; omega)))
    have HQ3_1 := Lib.hid (HQ3s.out.only hq (by first | exact id | (have := HLT.out; omega)))
    have HQ4_1 := Lib.hid (HQ4s.out.only hq (by first | exact id | (have := HLT.out; omega)))
    have HO_1 := Lib.hid (HOs.out.trans' hq (S := fun _ => False) (fun i hi e => by first | exact e.elim | (have := HLT.out; omega)))
    have HBa_1 : Hid (At (w5.drew.alloc (.cells #[] 5)) (w5.heap.size) 5 #[]) := Lib.hid (At.new' (by first | rfl | simp) 5 #[])
    clear hq
    try clear hO
    try simp only []
    refine hK.out _ _ ?_ (fun hHeld => ?_)
    · exact ⟨HX_1.out.cell 0, HX_1.out.cell 1⟩
    clear hK K
    try simp only [Act.put, List.setIfInBounds_toArray, List.set_cons_zero, List.set_cons_succ]
    refine wpAnyH_ready (rs := [3, 4]) (by kernel_rfl) (by simp) ?_
    refine AllReadyH.cons (o := { dst := some 39, op := Op.call { callee := Callee.builtin Builtin.append, args := #[Operand.tmp 36, Operand.tmp 38], argTypes := #[27, 27] }, type := 27, pos := "nand.go:163", after := #[{ on := 0, ground := Ground.data }, { on := 2, ground := Ground.data }], guard := none }) rfl (fun K hK => ?_) (AllReadyH.cons (o := { dst := some 40, op := Op.buildSlice 27 0 #[], type := 27, pos := "nand.go:163", after := #[], guard := none }) rfl (fun K hK => ?_) AllReadyH.nil)
    · skip
      refine step_append_own rfl (.tmp 36) (.tmp 38) 27 rfl 5 i0 (.int .u8 0) Tryz.underlying27 HI.out.1 HI.out.2.1 HI.out.2.2.1 HI.out.2.2.2 rfl (w5.heap.size) rfl HBa_1.out g3 (some ⟨g3, o3, none⟩) 16 c ld rfl HL3.out (by intro e; have := HL3.out; rw [e] at this; simp at this) HQ3_1.out HB3.out (by omega) ?_
      intro p3 qp3 ww_2 hle hrd hq hor
      have hsz_2 : w5.heap.size + 1 ≤ ww_2.heap.size := by have h9 := hq.size; simpa using h9
      have HX_2 := Lib.hid (HX_1.out.only hq (by first | exact id | (have := HLT.out; omega)))
      have HQ3_2 := Lib.hid (HQ3_1.out.only hq (by first | exact id | (have := HLT.out; omega)))
      have HQ4_2 := Lib.hid (HQ4_1.out.only hq (by first | exact id | (have := HLT.out; omega)))
      have HO_2 := Lib.hid (HO_1.out.trans' hq (S := fun _ => False) (fun i hi e => by (have := HLT.out; omega)))
      have HPa_2 := Lib.hid hrd
      have HLEHPa := Lib.hid hle
      have HOR : Hid (p3 = w5.heap.size ∨ p3 = w5.heap.size + 1) := Lib.hid (by simpa using hor)
      have hla := hrd.lt2 (by intro e; have := HL3.out; rw [e] at this; simp at this)
      have HNA : Hid (w.heap.size ≤ p3) := Lib.hid (by have := HLT.out; have := HOR.out; omega)
      clear hle hrd hq hor
      try clear hO
      try simp only []
      refine hK.out _ _ ?_ (fun hHeld => ?_)
      · exact ⟨HX_2.out.cell 0, HX_2.out.cell 1⟩
      clear hK K
      try simp only [Act.put, List.setIfInBounds_toArray, List.set_cons_zero, List.set_cons_succ]
      refine wpAnyH_ready (rs := [4]) (by kernel_rfl) (by simp) ?_
      refine AllReadyH.cons (o := { dst := some 40, op := Op.buildSlice 27 0 #[], type := 27, pos := "nand.go:163", after := #[], guard := none }) rfl (fun K hK => ?_) AllReadyH.nil
      go_simp
      have hq := (Only.refl (fun _ => False) ww_2).alloc (.cells #[] 5)
      have HX_3 := Lib.hid (HX_2.out.only hq (by first | exact id | (have := HLT.out; omega)))
      have HQ3_3 := Lib.hid (HQ3_2.out.only hq (by first | exact id | (have := HLT.out; omega)))
      have HQ4_3 := Lib.hid (HQ4_2.out.only hq (by first | exact id | (have := HLT.out; omega)))
      have HPa_3 := Lib.hid (HPa_2.out.only hq (by first | exact id | (have := HLT.out; omega)))
      have HO_3 := Lib.hid (HO_2.out.trans' hq (S := fun _ => False) (fun i hi e => by first | exact e.elim | (have := HLT.out; omega)))
      have HBb_3 : Hid (At (ww_2.alloc (.cells #[] 5)) (ww_2.heap.size) 5 #[]) := Lib.hid (At.new' (by first | rfl | simp) 5 #[])
      clear hq
      try clear hO
      try simp only []
      refine hK.out _ _ ?_ (fun hHeld => ?_)
      · exact ⟨HX_3.out.cell 0, HX_3.out.cell 1⟩
      clear hK K
      try simp only [Act.put, List.setIfInBounds_toArray, List.set_cons_zero, List.set_cons_succ]
      refine wpAnyH_ready (rs := [7]) (by kernel_rfl) (by simp) ?_
      refine AllReadyH.cons (o := { dst := some 43, op := Op.call { callee := Callee.builtin Builtin.append, args := #[Operand.tmp 40, Operand.tmp 42], argTypes := #[27, 27] }, type := 27, pos := "nand.go:163", after := #[{ on := 4, ground := Ground.data }, { on := 6, ground := Ground.data }, { on := 3, ground := Ground.chain }], guard := none }) rfl (fun K hK => ?_) AllReadyH.nil
      refine step_append_own rfl (.tmp 40) (.tmp 42) 27 rfl 5 i0 (.int .u8 0) Tryz.underlying27 HI.out.1 HI.out.2.1 HI.out.2.2.1 HI.out.2.2.2 rfl (ww_2.heap.size) rfl HBb_3.out g4 (some ⟨g4, o4, none⟩) 17 c' lo rfl HL4.out (by intro e; have := HL4.out; rw [e] at this; simp at this) HQ4_3.out HB4.out (by omega) ?_
      intro p4 qp4 ww_4 hle hrd hq hor
      have hsz_4 : ww_2.heap.size + 1 ≤ ww_4.heap.size := by have h9 := hq.size; simpa using h9
      have HX_4 := Lib.hid (HX_3.out.only hq (by first | exact id | (have := HLT.out; omega)))
      have HQ3_4 := Lib.hid (HQ3_3.out.only hq (by first | exact id | (have := HLT.out; omega)))
      have HQ4_4 := Lib.hid (HQ4_3.out.only hq (by first | exact id | (have := HLT.out; omega)))
      have HO_4 := Lib.hid (HO_3.out.trans' hq (S := fun _ => False) (fun i hi e => by (have := HLT.out; omega)))
      have HPa_4 := Lib.hid (HPa_3.out.only hq (by have := HOR.out; have := HLT.out; omega))
      have HPb_4 := Lib.hid hrd
      have HLEHPb := Lib.hid hle
      have HNP : Hid (w.heap.size ≤ p3 ∧ w.heap.size ≤ p4) := Lib.hid ⟨HNA.out, by have := HLT.out; have h9 : p4 = ww_2.heap.size ∨ p4 = ww_2.heap.size + 1 := (by simpa using hor); omega⟩
      clear hle hrd hq hor
      try clear hO
      try simp only []
      refine hK.out _ _ ?_ (fun hHeld => ?_)
      · exact ⟨HX_4.out.cell 0, HX_4.out.cell 1⟩
      clear hK K
      try simp only [Act.put, List.setIfInBounds_toArray, List.set_cons_zero, List.set_cons_succ]
      refine wpAnyH_take (i := 8) (oi := { dst := some 4, op := Op.assign (Operand.tmp 39), type := 27, pos := "nand.go:163", after := #[{ on := 3, ground := Ground.data }, { on := 7, ground := Ground.chain }, { on := 0, ground := Ground.phase }, { on := 1, ground := Ground.phase }, { on := 2, ground := Ground.phase }, { on := 3, ground := Ground.phase }, { on := 4, ground := Ground.textOnly Departure.lateStores }, { on := 5, ground := Ground.textOnly Departure.lateStores }, { on := 6, ground := Ground.textOnly Departure.lateStores }, { on := 7, ground := Ground.textOnly Departure.lateStoresUnsure }], guard := none }) (v := ?_) rfl (by kernel_rfl) (by kernel_rfl) (by kernel_rfl) (fun _ _ _ h => h) (Or.inl ⟨by rfl, ?_⟩) (by assumption) ?_
      rotate_left
      · (intro w hSw; (try dsimp only at hSw); (try obtain ⟨hSa, hSb⟩ := hSw); go_simp; try with_reducible rfl)
      try simp only [Act.put, List.setIfInBounds_toArray, List.set_cons_zero, List.set_cons_succ]
      refine wpAnyH_take (i := 9) (oi := { dst := some 5, op := Op.assign (Operand.tmp 43), type := 27, pos := "nand.go:163", after := #[{ on := 7, ground := Ground.data }, { on := 8, ground := Ground.chain }, { on := 0, ground := Ground.phase }, { on := 1, ground := Ground.phase }, { on := 2, ground := Ground.phase }, { on := 3, ground := Ground.phase }, { on := 4, ground := Ground.phase }, { on := 5, ground := Ground.phase }, { on := 6, ground := Ground.phase }, { on := 7, ground := Ground.phase }, { on := 8, ground := Ground.phase }], guard := none }) (v := ?_) rfl (by kernel_rfl) (by kernel_rfl) (by kernel_rfl) (fun _ _ _ h => h) (Or.inl ⟨by rfl, ?_⟩) (by assumption) ?_
      rotate_left
      · (intro w hSw; (try dsimp only at hSw); (try obtain ⟨hSa, hSb⟩ := hSw); go_simp; try with_reducible rfl)
      try simp only [Act.put, List.setIfInBounds_toArray, List.set_cons_zero, List.set_cons_succ]
      refine wpAnyH_take (i := 10) (oi := { dst := some 6, op := Op.assign (Operand.const (Value.int IntKind.i64 0)), type := 41, pos := "nand.go:163", after := #[{ on := 9, ground := Ground.chain }, { on := 0, ground := Ground.phase }, { on := 1, ground := Ground.phase }, { on := 2, ground := Ground.phase }, { on := 3, ground := Ground.phase }, { on := 4, ground := Ground.phase }, { on := 5, ground := Ground.phase }, { on := 6, ground := Ground.phase }, { on := 7, ground := Ground.phase }, { on := 8, ground := Ground.phase }, { on := 9, ground := Ground.phase }], guard := none }) (v := ?_) rfl (by kernel_rfl) (by kernel_rfl) (by kernel_rfl) (fun _ _ _ h => h) (Or.inl ⟨by rfl, ?_⟩) (by assumption) ?_
      rotate_left
      · (intro w hSw; (try dsimp only at hSw); (try obtain ⟨hSa, hSb⟩ := hSw); go_simp; try with_reducible rfl)
      try simp only [Act.put, List.setIfInBounds_toArray, List.set_cons_zero, List.set_cons_succ]
      refine wpAnyH_done (by kernel_rfl) ?_ _
      go_wp2_with (fail)
      go_ret3
      exact ⟨p3, p4, qp3, qp4, rfl, HLEHPa.out, HLEHPb.out, HPa_4.out, HPb_4.out, HNP.out, HO_4.out⟩
    · skip
      go_simp
      have hq := (Only.refl (fun _ => False) (w5.drew.alloc (.cells #[] 5))).alloc (.cells #[] 5)
      have HX_5 := Lib.hid (HX_1.out.only hq (by first | exact id | (have := HLT.out; omega)))
      have HQ3_5 := Lib.hid (HQ3_1.out.only hq (by first | exact id | (have := HLT.out; omega)))
      have HQ4_5 := Lib.hid (HQ4_1.out.only hq (by first | exact id | (have := HLT.out; omega)))
      have HBa_5 := Lib.hid (HBa_1.out.only hq (by first | exact id | (have := HLT.out; omega)))
      have HO_5 := Lib.hid (HO_1.out.trans' hq (S := fun _ => False) (fun i hi e => by first | exact e.elim | (have := HLT.out; omega)))
      have HBb_5 : Hid (At ((w5.drew.alloc (.cells #[] 5)).alloc (.cells #[] 5)) (w5.heap.size + 1) 5 #[]) := Lib.hid (At.new' (by first | rfl | simp) 5 #[])
      clear hq
      try clear hO
      try simp only []
      refine hK.out _ _ ?_ (fun hHeld => ?_)
      · exact ⟨HX_5.out.cell 0, HX_5.out.cell 1⟩
      clear hK K
      try simp only [Act.put, List.setIfInBounds_toArray, List.set_cons_zero, List.set_cons_succ]
      refine wpAnyH_ready (rs := [3]) (by kernel_rfl) (by simp) ?_
      refine AllReadyH.cons (o := { dst := some 39, op := Op.call { callee := Callee.builtin Builtin.append, args := #[Operand.tmp 36, Operand.tmp 38], argTypes := #[27, 27] }, type := 27, pos := "nand.go:163", after := #[{ on := 0, ground := Ground.data }, { on := 2, ground := Ground.data }], guard := none }) rfl (fun K hK => ?_) AllReadyH.nil
      refine step_append_own rfl (.tmp 36) (.tmp 38) 27 rfl 5 i0 (.int .u8 0) Tryz.underlying27 HI.out.1 HI.out.2.1 HI.out.2.2.1 HI.out.2.2.2 rfl (w5.heap.size) rfl HBa_5.out g3 (some ⟨g3, o3, none⟩) 16 c ld rfl HL3.out (by intro e; have := HL3.out; rw [e] at this; simp at this) HQ3_5.out HB3.out (by omega) ?_
      intro p3 qp3 ww_6 hle hrd hq hor
      have hsz_6 : w5.heap.size + 1 + 1 ≤ ww_6.heap.size := by have h9 := hq.size; simpa using h9
      have HX_6 := Lib.hid (HX_5.out.only hq (by first | exact id | (have := HLT.out; omega)))
      have HQ3_6 := Lib.hid (HQ3_5.out.only hq (by first | exact id | (have := HLT.out; omega)))
      have HQ4_6 := Lib.hid (HQ4_5.out.only hq (by first | exact id | (have := HLT.out; omega)))
      have HO_6 := Lib.hid (HO_5.out.trans' hq (S := fun _ => False) (fun i hi e => by (have := HLT.out; omega)))
      have HBb_6 := Lib.hid (HBb_5.out.only hq (by omega))
      have HPa_6 := Lib.hid hrd
      have HLEHPa := Lib.hid hle
      have HOR : Hid (p3 = w5.heap.size ∨ p3 = w5.heap.size + 1 + 1) := Lib.hid (by simpa using hor)
      have hla := hrd.lt2 (by intro e; have := HL3.out; rw [e] at this; simp at this)
      have HNA : Hid (w.heap.size ≤ p3) := Lib.hid (by have := HLT.out; have := HOR.out; omega)
      clear hle hrd hq hor
      try clear hO
      try simp only []
      refine hK.out _ _ ?_ (fun hHeld => ?_)
      · exact ⟨HX_6.out.cell 0, HX_6.out.cell 1⟩
      clear hK K
      try simp only [Act.put, List.setIfInBounds_toArray, List.set_cons_zero, List.set_cons_succ]
      refine wpAnyH_ready (rs := [7]) (by kernel_rfl) (by simp) ?_
      refine AllReadyH.cons (o := { dst := some 43, op := Op.call { callee := Callee.builtin Builtin.append, args := #[Operand.tmp 40, Operand.tmp 42], argTypes := #[27, 27] }, type := 27, pos := "nand.go:163", after := #[{ on := 4, ground := Ground.data }, { on := 6, ground := Ground.data }, { on := 3, ground := Ground.chain }], guard := none }) rfl (fun K hK => ?_) AllReadyH.nil
      refine step_append_own rfl (.tmp 40) (.tmp 42) 27 rfl 5 i0 (.int .u8 0) Tryz.underlying27 HI.out.1 HI.out.2.1 HI.out.2.2.1 HI.out.2.2.2 rfl (w5.heap.size + 1) rfl HBb_6.out g4 (some ⟨g4, o4, none⟩) 17 c' lo rfl HL4.out (by intro e; have := HL4.out; rw [e] at this; simp at this) HQ4_6.out HB4.out (by omega) ?_
      intro p4 qp4 ww_7 hle hrd hq hor
      have hsz_7 : ww_6.heap.size ≤ ww_7.heap.size := by have h9 := hq.size; simpa using h9
      have HX_7 := Lib.hid (HX_6.out.only hq (by first | exact id | (have := HLT.out; omega)))
      have HQ3_7 := Lib.hid (HQ3_6.out.only hq (by first | exact id | (have := HLT.out; omega)))
      have HQ4_7 := Lib.hid (HQ4_6.out.only hq (by first | exact id | (have := HLT.out; omega)))
      have HO_7 := Lib.hid (HO_6.out.trans' hq (S := fun _ => False) (fun i hi e => by (have := HLT.out; omega)))
      have HPa_7 := Lib.hid (HPa_6.out.only hq (by have := HOR.out; have := HLT.out; omega))
      have HPb_7 := Lib.hid hrd
      have HLEHPb := Lib.hid hle
      have HNP : Hid (w.heap.size ≤ p3 ∧ w.heap.size ≤ p4) := Lib.hid ⟨HNA.out, by have := HLT.out; have h9 : p4 = w5.heap.size + 1 ∨ p4 = ww_6.heap.size := (by simpa using hor); omega⟩
      clear hle hrd hq hor
      try clear hO
      try simp only []
      refine hK.out _ _ ?_ (fun hHeld => ?_)
      · exact ⟨HX_7.out.cell 0, HX_7.out.cell 1⟩
      clear hK K
      try simp only [Act.put, List.setIfInBounds_toArray, List.set_cons_zero, List.set_cons_succ]
      refine wpAnyH_take (i := 8) (oi := { dst := some 4, op := Op.assign (Operand.tmp 39), type := 27, pos := "nand.go:163", after := #[{ on := 3, ground := Ground.data }, { on := 7, ground := Ground.chain }, { on := 0, ground := Ground.phase }, { on := 1, ground := Ground.phase }, { on := 2, ground := Ground.phase }, { on := 3, ground := Ground.phase }, { on := 4, ground := Ground.textOnly Departure.lateStores }, { on := 5, ground := Ground.textOnly Departure.lateStores }, { on := 6, ground := Ground.textOnly Departure.lateStores }, { on := 7, ground := Ground.textOnly Departure.lateStoresUnsure }], guard := none }) (v := ?_) rfl (by kernel_rfl) (by kernel_rfl) (by kernel_rfl) (fun _ _ _ h => h) (Or.inl ⟨by rfl, ?_⟩) (by assumption) ?_
      rotate_left
      · (intro w hSw; (try dsimp only at hSw); (try obtain ⟨hSa, hSb⟩ := hSw); go_simp; try with_reducible rfl)
      try simp only [Act.put, List.setIfInBounds_toArray, List.set_cons_zero, List.set_cons_succ]
      refine wpAnyH_take (i := 9) (oi := { dst := some 5, op := Op.assign (Operand.tmp 43), type := 27, pos := "nand.go:163", after := #[{ on := 7, ground := Ground.data }, { on := 8, ground := Ground.chain }, { on := 0, ground := Ground.phase }, { on := 1, ground := Ground.phase }, { on := 2, ground := Ground.phase }, { on := 3, ground := Ground.phase }, { on := 4, ground := Ground.phase }, { on := 5, ground := Ground.phase }, { on := 6, ground := Ground.phase }, { on := 7, ground := Ground.phase }, { on := 8, ground := Ground.phase }], guard := none }) (v := ?_) rfl (by kernel_rfl) (by kernel_rfl) (by kernel_rfl) (fun _ _ _ h => h) (Or.inl ⟨by rfl, ?_⟩) (by assumption) ?_
      rotate_left
      · (intro w hSw; (try dsimp only at hSw); (try obtain ⟨hSa, hSb⟩ := hSw); go_simp; try with_reducible rfl)
      try simp only [Act.put, List.setIfInBounds_toArray, List.set_cons_zero, List.set_cons_succ]
      refine wpAnyH_take (i := 10) (oi := { dst := some 6, op := Op.assign (Operand.const (Value.int IntKind.i64 0)), type := 41, pos := "nand.go:163", after := #[{ on := 9, ground := Ground.chain }, { on := 0, ground := Ground.phase }, { on := 1, ground := Ground.phase }, { on := 2, ground := Ground.phase }, { on := 3, ground := Ground.phase }, { on := 4, ground := Ground.phase }, { on := 5, ground := Ground.phase }, { on := 6, ground := Ground.phase }, { on := 7, ground := Ground.phase }, { on := 8, ground := Ground.phase }, { on := 9, ground := Ground.phase }], guard := none }) (v := ?_) rfl (by kernel_rfl) (by kernel_rfl) (by kernel_rfl) (fun _ _ _ h => h) (Or.inl ⟨by rfl, ?_⟩) (by assumption) ?_
      rotate_left
      · (intro w hSw; (try dsimp only at hSw); (try obtain ⟨hSa, hSb⟩ := hSw); go_simp; try with_reducible rfl)
      try simp only [Act.put, List.setIfInBounds_toArray, List.set_cons_zero, List.set_cons_succ]
      refine wpAnyH_done (by kernel_rfl) ?_ _
      go_wp2_with (fail)
      go_ret3
      exact ⟨p3, p4, qp3, qp4, rfl, HLEHPa.out, HLEHPb.out, HPa_7.out, HPb_7.out, HNP.out, HO_7.out⟩
  · skip
    go_simp
    have hq := (Only.refl (fun _ => False) w5.drew).alloc (.cells #[] 5)
    have HX_8 := Lib.hid (HXs.out.only hq (by first | exact id | (have := HLT.out; omega)))
    have HQ3_8 := Lib.hid (HQ3s.out.only hq (by first | exact id | (have := HLT.out; omega)))
    have HQ4_8 := Lib.hid (HQ4s.out.only hq (by first | exact id | (have := HLT.out; omega)))
    have HO_8 := Lib.hid (HOs.out.trans' hq (S := fun _ => False) (fun i hi e => by first | exact e.elim | (have := HLT.out; omega)))
    have HBb_8 : Hid (At (w5.drew.alloc (.cells #[] 5)) (w5.heap.size) 5 #[]) := Lib.hid (At.new' (by first | rfl | simp) 5 #[])
    clear hq
    try clear hO
    try simp only []
    refine hK.out _ _ ?_ (fun hHeld => ?_)
    · exact ⟨HX_8.out.cell 0, HX_8.out.cell 1⟩
    clear hK K
    try simp only [Act.put, List.setIfInBounds_toArray, List.set_cons_zero, List.set_cons_succ]
    refine wpAnyH_ready (rs := [0]) (by kernel_rfl) (by simp) ?_
    refine AllReadyH.cons (o := { dst := some 36, op := Op.buildSlice 27 0 #[], type := 27, pos := "nand.go:163", after := #[], guard := none }) rfl (fun K hK => ?_) AllReadyH.nil
    go_simp
    have hq := (Only.refl (fun _ => False) (w5.drew.alloc (.cells #[] 5))).alloc (.cells #[] 5)
    have HX_9 := Lib.hid (HX_8.out.only hq (by first | exact id | (have := HLT.out; omega)))
    have HQ3_9 := Lib.hid (HQ3_8.out.only hq (by first | exact id | (have := HLT.out; omega)))
    have HQ4_9 := Lib.hid (HQ4_8.out.only hq (by first | exact id | (have := HLT.out; omega)))
    have HBb_9 := Lib.hid (HBb_8.out.only hq (by first | exact id | (have := HLT.out; omega)))
    have HO_9 := Lib.hid (HO_8.out.trans' hq (S := fun _ => False) (fun i hi e => by first | exact e.elim | (have := HLT.out; omega)))
    have HBa_9 : Hid (At ((w5.drew.alloc (.cells #[] 5)).alloc (.cells #[] 5)) (w5.heap.size + 1) 5 #[]) := Lib.hid (At.new' (by first | rfl | simp) 5 #[])
    clear hq
    try clear hO
    try simp only []
    refine hK.out _ _ ?_ (fun hHeld => ?_)
    · exact ⟨HX_9.out.cell 0, HX_9.out.cell 1⟩
    clear hK K
    try simp only [Act.put, List.setIfInBounds_toArray, List.set_cons_zero, List.set_cons_succ]
    refine wpAnyH_ready (rs := [3]) (by kernel_rfl) (by simp) ?_
    refine AllReadyH.cons (o := { dst := some 39, op := Op.call { callee := Callee.builtin Builtin.append, args := #[Operand.tmp 36, Operand.tmp 38], argTypes := #[27, 27] }, type := 27, pos := "nand.go:163", after := #[{ on := 0, ground := Ground.data }, { on := 2, ground := Ground.data }], guard := none }) rfl (fun K hK => ?_) AllReadyH.nil
    refine step_append_own rfl (.tmp 36) (.tmp 38) 27 rfl 5 i0 (.int .u8 0) Tryz.underlying27 HI.out.1 HI.out.2.1 HI.out.2.2.1 HI.out.2.2.2 rfl (w5.heap.size + 1) rfl HBa_9.out g3 (some ⟨g3, o3, none⟩) 16 c ld rfl HL3.out (by intro e; have := HL3.out; rw [e] at this; simp at this) HQ3_9.out HB3.out (by omega) ?_
    intro p3 qp3 ww_10 hle hrd hq hor
    have hsz_10 : w5.heap.size + 1 + 1 ≤ ww_10.heap.size := by have h9 := hq.size; simpa using h9
    have HX_10 := Lib.hid (HX_9.out.only hq (by first | exact id | (have := HLT.out; omega)))
    have HQ3_10 := Lib.hid (HQ3_9.out.only hq (by first | exact id | (have := HLT.out; omega)))
    have HQ4_10 := Lib.hid (HQ4_9.out.only hq (by first | exact id | (have := HLT.out; omega)))
    have HO_10 := Lib.hid (HO_9.out.trans' hq (S := fun _ => False) (fun i hi e => by (have := HLT.out; omega)))
    have HBb_10 := Lib.hid (HBb_9.out.only hq (by omega))
    have HPa_10 := Lib.hid hrd
    have HLEHPa := Lib.hid hle
    have HOR : Hid (p3 = w5.heap.size + 1 ∨ p3 = w5.heap.size + 1 + 1) := Lib.hid (by simpa using hor)
    have hla := hrd.lt2 (by intro e; have := HL3.out; rw [e] at this; simp at this)
    have HNA : Hid (w.heap.size ≤ p3) := Lib.hid (by have := HLT.out; have := HOR.out; omega)
    clear hle hrd hq hor
    try clear hO
    try simp only []
    refine hK.out _ _ ?_ (fun hHeld => ?_)
    · exact ⟨HX_10.out.cell 0, HX_10.out.cell 1⟩
    clear hK K
    try simp only [Act.put, List.setIfInBounds_toArray, List.set_cons_zero, List.set_cons_succ]
    refine wpAnyH_ready (rs := [7]) (by kernel_rfl) (by simp) ?_
    refine AllReadyH.cons (o := { dst := some 43, op := Op.call { callee := Callee.builtin Builtin.append, args := #[Operand.tmp 40, Operand.tmp 42], argTypes := #[27, 27] }, type := 27, pos := "nand.go:163", after := #[{ on := 4, ground := Ground.data }, { on := 6, ground := Ground.data }, { on := 3, ground := Ground.chain }], guard := none }) rfl (fun K hK => ?_) AllReadyH.nil
    refine step_append_own rfl (.tmp 40) (.tmp 42) 27 rfl 5 i0 (.int .u8 0) Tryz.underlying27 HI.out.1 HI.out.2.1 HI.out.2.2.1 HI.out.2.2.2 rfl (w5.heap.size) rfl HBb_10.out g4 (some ⟨g4, o4, none⟩) 17 c' lo rfl HL4.out (by intro e; have := HL4.out; rw [e] at this; simp at this) HQ4_10.out HB4.out (by omega) ?_
    intro p4 qp4 ww_11 hle hrd hq hor
    have hsz_11 : ww_10.heap.size ≤ ww_11.heap.size := by have h9 := hq.size; simpa using h9
    have HX_11 := Lib.hid (HX_10.out.only hq (by first | exact id | (have := HLT.out; omega)))
    have HQ3_11 := Lib.hid (HQ3_10.out.only hq (by first | exact id | (have := HLT.out; omega)))
    have HQ4_11 := Lib.hid (HQ4_10.out.only hq (by first | exact id | (have := HLT.out; omega)))
    have HO_11 := Lib.hid (HO_10.out.trans' hq (S := fun _ => False) (fun i hi e => by (have := HLT.out; omega)))
    have HPa_11 := Lib.hid (HPa_10.out.only hq (by have := HOR.out; have := HLT.out; omega))
    have HPb_11 := Lib.hid hrd
    have HLEHPb := Lib.hid hle
    have HNP : Hid (w.heap.size ≤ p3 ∧ w.heap.size ≤ p4) := Lib.hid ⟨HNA.out, by have := HLT.out; have h9 : p4 = w5.heap.size ∨ p4 = ww_10.heap.size := (by simpa using hor); omega⟩
    clear hle hrd hq hor
    try clear hO
    try simp only []
    refine hK.out _ _ ?_ (fun hHeld => ?_)
    · exact ⟨HX_11.out.cell 0, HX_11.out.cell 1⟩
    clear hK K
    try simp only [Act.put, List.setIfInBounds_toArray, List.set_cons_zero, List.set_cons_succ]
    refine wpAnyH_take (i := 8) (oi := { dst := some 4, op := Op.assign (Operand.tmp 39), type := 27, pos := "nand.go:163", after := #[{ on := 3, ground := Ground.data }, { on := 7, ground := Ground.chain }, { on := 0, ground := Ground.phase }, { on := 1, ground := Ground.phase }, { on := 2, ground := Ground.phase }, { on := 3, ground := Ground.phase }, { on := 4, ground := Ground.textOnly Departure.lateStores }, { on := 5, ground := Ground.textOnly Departure.lateStores }, { on := 6, ground := Ground.textOnly Departure.lateStores }, { on := 7, ground := Ground.textOnly Departure.lateStoresUnsure }], guard := none }) (v := ?_) rfl (by kernel_rfl) (by kernel_rfl) (by kernel_rfl) (fun _ _ _ h => h) (Or.inl ⟨by rfl, ?_⟩) (by assumption) ?_
    rotate_left
    · (intro w hSw; (try dsimp only at hSw); (try obtain ⟨hSa, hSb⟩ := hSw); go_simp; try with_reducible rfl)
    try simp only [Act.put, List.setIfInBounds_toArray, List.set_cons_zero, List.set_cons_succ]
    refine wpAnyH_take (i := 9) (oi := { dst := some 5, op := Op.assign (Operand.tmp 43), type := 27, pos := "nand.go:163", after := #[{ on := 7, ground := Ground.data }, { on := 8, ground := Ground.chain }, { on := 0, ground := Ground.phase }, { on := 1, ground := Ground.phase }, { on := 2, ground := Ground.phase }, { on := 3, ground := Ground.phase }, { on := 4, ground := Ground.phase }, { on := 5, ground := Ground.phase }, { on := 6, ground := Ground.phase }, { on := 7, ground := Ground.phase }, { on := 8, ground := Ground.phase }], guard := none }) (v := ?_) rfl (by kernel_rfl) (by kernel_rfl) (by kernel_rfl) (fun _ _ _ h => h) (Or.inl ⟨by rfl, ?_⟩) (by assumption) ?_
    rotate_left
    · (intro w hSw; (try dsimp only at hSw); (try obtain ⟨hSa, hSb⟩ := hSw); go_simp; try with_reducible rfl)
    try simp only [Act.put, List.setIfInBounds_toArray, List.set_cons_zero, List.set_cons_succ]
    refine wpAnyH_take (i := 10) (oi := { dst := some 6, op := Op.assign (Operand.const (Value.int IntKind.i64 0)), type := 41, pos := "nand.go:163", after := #[{ on := 9, ground := Ground.chain }, { on := 0, ground := Ground.phase }, { on := 1, ground := Ground.phase }, { on := 2, ground := Ground.phase }, { on := 3, ground := Ground.phase }, { on := 4, ground := Ground.phase }, { on := 5, ground := Ground.phase }, { on := 6, ground := Ground.phase }, { on := 7, ground := Ground.phase }, { on := 8, ground := Ground.phase }, { on := 9, ground := Ground.phase }], guard := none }) (v := ?_) rfl (by kernel_rfl) (by kernel_rfl) (by kernel_rfl) (fun _ _ _ h => h) (Or.inl ⟨by rfl, ?_⟩) (by assumption) ?_
    rotate_left
    · (intro w hSw; (try dsimp only at hSw); (try obtain ⟨hSa, hSb⟩ := hSw); go_simp; try with_reducible rfl)
    try simp only [Act.put, List.setIfInBounds_toArray, List.set_cons_zero, List.set_cons_succ]
    refine wpAnyH_done (by kernel_rfl) ?_ _
    go_wp2_with (fail)
    go_ret3
    exact ⟨p3, p4, qp3, qp4, rfl, HLEHPa.out, HLEHPb.out, HPa_11.out, HPb_11.out, HNP.out, HO_11.out⟩
end Go.Proofs.YtjobaplioidogaaGreat
