/- Top: find, Retired, Plan of the device. -/
import Derived.Test.YtjobaplioidogaaGreatJ
import Derived.RegionTactic
namespace Go.Proofs.YtjobaplioidogaaGreat
open Go.RowKit

/-- The place of a unit's block. -/
theorem spot_lt {G : Ge} (h : G.Is) {u n : Nat} (hu : (u : Int) < G.u) (hn : (n : Int) < G.b) : 0 ≤ (u : Int) * G.b ∧ (u : Int) * G.b + n < G.u * G.b ∧ G.u * G.b ≤ 512 ∧ ((u * G.b.toNat + n : Nat) : Int) = (u : Int) * G.b + n := by
  have hb := h.b
  have h2 : (u : Int) * G.b ≤ (G.u - 1) * G.b := Int.mul_le_mul_of_nonneg_right (by omega) (by omega)
  have h3 : (G.u - 1) * G.b = G.u * G.b - G.b := by rw [Int.sub_mul, Int.one_mul]
  have h4 : 1 ≤ G.u * G.b ∧ G.u * G.b ≤ 8 * 64 := mul_bd h.u h.b
  refine ⟨Int.mul_nonneg (by omega) (by omega), by omega, by omega, ?_⟩
  rw [Int.natCast_add, Int.natCast_mul, Int.toNat_of_nonneg (by omega)]

set_option maxRecDepth 100000 in
set_option maxHeartbeats 4000000 in
theorem find_any (d gb mp pp : Nat) (G : Ge) (l : List Bk) (es : Array MapEntry) (ck : Nat) (u n : Nat) (hu : (u : Int) < G.u) (hn : (n : Int) < G.b) (w : World) (k : NAt w d gb mp pp G l es ck) :
    Calls Tryz.prog 44 #[.pointer (some ⟨d, 0, none⟩), .int .i64 u, .int .i64 n] w fun e w' => e = .returned (.pointer (some ⟨gb, (u * G.b.toNat + n) * 3, none⟩)) ∧ Only (fun _ => False) w w' := by
  obtain ⟨s1, s2, s3, s4⟩ := spot_lt k.is hu hn
  have hbb := k.is.b
  have HU := Lib.hid (fun W => units_any G k.is W)
  have HK := Lib.hid k
  have c0 := k.st.cell 0
  have c1 := k.st.cell 1
  have c2 := k.st.cell 2
  have c3 := k.st.cell 3
  have c4 := k.st.cell 4
  have c5 := k.st.cell 5
  simp only [List.getElem?_toArray, List.getElem?_cons_zero, List.getElem?_cons_succ] at c0 c1 c2 c3 c4 c5
  have hll : G.u * G.b = (l.length : Int) := k.len.symm
  unfold Ge.val at HU
  obtain ⟨q, hq⟩ : ∃ q, u * G.b.toNat + n = q := ⟨_, rfl⟩
  rw [hq] at s4 ⊢
  clear k hq
  have d1 : decide ((u : Int) < 0) = false := decide_eq_false (by omega)
  have d2 : decide (G.u ≤ (u : Int)) = false := decide_eq_false (by omega)
  have d3 : decide ((n : Int) < 0) = false := decide_eq_false (by omega)
  have d4 : decide (G.b ≤ (n : Int)) = false := decide_eq_false (by omega)
  go_enter Tryz.func44, Tryz.ntmps44
  go_wp2_with (fail)
  refine (HU.out _).mono ?_
  rintro e w1 ⟨rfl, hO⟩
  have HO := Lib.hid hO
  have hs := (HK.out.quiet hO).st
  have y3 := hs.cell 3
  have y7 := hs.cell 7
  simp only [List.getElem?_toArray, List.getElem?_cons_zero, List.getElem?_cons_succ] at y3 y7
  clear hO hs c0 c1 c2 c3 c4 c5
  go_wp2_with (fail)
  have e1 : IntKind.i64.wrap ((u : Int) * G.b) = (u : Int) * G.b := IntWalk.i64_in _ (by omega)
  have e1' : wrap64 ((u : Int) * G.b) = (u : Int) * G.b := by rw [← IntWalk.i64_left]; exact e1
  have e2 : IntKind.i64.wrap ((u : Int) * G.b + n) = q := by rw [s4]; exact IntWalk.i64_in _ (by omega)
  have e2' : wrap64 ((u : Int) * G.b + n) = q := by rw [← IntWalk.i64_left]; exact e2
  have e3 : (u : Int) * G.b + n = q := s4.symm
  have i0 : (0 : Int) ≤ q := by omega
  have i1 : (q : Int) < l.length := by omega
  have e4 : IntKind.i64.wrap (q : Int) = q := IntWalk.i64_in _ (by omega)
  have e4' : wrap64 (q : Int) = q := by rw [← IntWalk.i64_left]; exact e4
  clear s1 s2 s3 s4 hll
  refine wp_region_held_drew (S := (fun W => W.cell? ⟨d, 3, none⟩ = some (.int .i64 G.b) ∧ W.cell? ⟨d, 7, none⟩ = some (.slice (some ⟨gb, 0, none⟩) l.length l.length))) (by kernel_rfl) ?_ (fun hHeld => ?_)
  · exact ⟨y3, y7⟩
  refine wpAnyH_take (i := 0) (oi := { dst := some 31, op := Op.move (Operand.tmp 0), type := 33, pos := "nand.go:67", after := #[], guard := none }) (v := ?_) rfl (by kernel_rfl) (by kernel_rfl) (by kernel_rfl) (fun _ _ _ h => h) (Or.inl ⟨by rfl, ?_⟩) (by assumption) ?_
  rotate_left
  · (intro w hSw; (try dsimp only at hSw); (try obtain ⟨hSa, hSb⟩ := hSw); go_simp; try with_reducible rfl)
  try simp only [Act.put, List.setIfInBounds_toArray, List.set_cons_zero, List.set_cons_succ]
  refine wpAnyH_take (i := 1) (oi := { dst := some 32, op := Op.nilCheck (Operand.tmp 31), type := 0, pos := "nand.go:67", after := #[{ on := 0, ground := Ground.data }], guard := none }) (v := ?_) rfl (by kernel_rfl) (by kernel_rfl) (by kernel_rfl) (fun _ _ _ h => h) (Or.inl ⟨by rfl, ?_⟩) (by assumption) ?_
  rotate_left
  · (intro w hSw; (try dsimp only at hSw); (try obtain ⟨hSa, hSb⟩ := hSw); go_simp; try with_reducible rfl)
  try simp only [Act.put, List.setIfInBounds_toArray, List.set_cons_zero, List.set_cons_succ]
  refine wpAnyH_take (i := 2) (oi := { dst := some 33, op := Op.fieldAddr 95 (Operand.tmp 32) 3, type := 0, pos := "nand.go:67", after := #[{ on := 1, ground := Ground.data }], guard := none }) (v := ?_) rfl (by kernel_rfl) (by kernel_rfl) (by kernel_rfl) (fun _ _ _ h => h) (Or.inl ⟨by rfl, ?_⟩) (by assumption) ?_
  rotate_left
  · (intro w hSw; (try dsimp only at hSw); (try obtain ⟨hSa, hSb⟩ := hSw); go_simp; try with_reducible rfl)
  try simp only [Act.put, List.setIfInBounds_toArray, List.set_cons_zero, List.set_cons_succ]
  refine wpAnyH_take (i := 3) (oi := { dst := some 34, op := Op.load 92 (Operand.tmp 33), type := 92, pos := "nand.go:67", after := #[{ on := 2, ground := Ground.data }], guard := none }) (v := ?_) rfl (by kernel_rfl) (by kernel_rfl) (by kernel_rfl) (fun _ _ _ h => h) (Or.inl ⟨by rfl, ?_⟩) (by assumption) ?_
  rotate_left
  · (intro w hSw; (try dsimp only at hSw); (try obtain ⟨hSa, hSb⟩ := hSw); go_simp; try with_reducible rfl)
  try simp only [Act.put, List.setIfInBounds_toArray, List.set_cons_zero, List.set_cons_succ]
  refine wpAnyH_take (i := 4) (oi := { dst := some 35, op := Op.move (Operand.tmp 1), type := 3, pos := "nand.go:67", after := #[], guard := none }) (v := ?_) rfl (by kernel_rfl) (by kernel_rfl) (by kernel_rfl) (fun _ _ _ h => h) (Or.inl ⟨by rfl, ?_⟩) (by assumption) ?_
  rotate_left
  · (intro w hSw; (try dsimp only at hSw); (try obtain ⟨hSa, hSb⟩ := hSw); go_simp; try with_reducible rfl)
  try simp only [Act.put, List.setIfInBounds_toArray, List.set_cons_zero, List.set_cons_succ]
  refine wpAnyH_take (i := 5) (oi := { dst := some 36, op := Op.move (Operand.tmp 0), type := 33, pos := "nand.go:67", after := #[], guard := none }) (v := ?_) rfl (by kernel_rfl) (by kernel_rfl) (by kernel_rfl) (fun _ _ _ h => h) (Or.inl ⟨by rfl, ?_⟩) (by assumption) ?_
  rotate_left
  · (intro w hSw; (try dsimp only at hSw); (try obtain ⟨hSa, hSb⟩ := hSw); go_simp; try with_reducible rfl)
  try simp only [Act.put, List.setIfInBounds_toArray, List.set_cons_zero, List.set_cons_succ]
  refine wpAnyH_take (i := 6) (oi := { dst := some 37, op := Op.nilCheck (Operand.tmp 36), type := 0, pos := "nand.go:67", after := #[{ on := 5, ground := Ground.data }], guard := none }) (v := ?_) rfl (by kernel_rfl) (by kernel_rfl) (by kernel_rfl) (fun _ _ _ h => h) (Or.inl ⟨by rfl, ?_⟩) (by assumption) ?_
  rotate_left
  · (intro w hSw; (try dsimp only at hSw); (try obtain ⟨hSa, hSb⟩ := hSw); go_simp; try with_reducible rfl)
  try simp only [Act.put, List.setIfInBounds_toArray, List.set_cons_zero, List.set_cons_succ]
  refine wpAnyH_take (i := 7) (oi := { dst := some 38, op := Op.fieldAddr 95 (Operand.tmp 37) 1, type := 0, pos := "nand.go:67", after := #[{ on := 6, ground := Ground.data }], guard := none }) (v := ?_) rfl (by kernel_rfl) (by kernel_rfl) (by kernel_rfl) (fun _ _ _ h => h) (Or.inl ⟨by rfl, ?_⟩) (by assumption) ?_
  rotate_left
  · (intro w hSw; (try dsimp only at hSw); (try obtain ⟨hSa, hSb⟩ := hSw); go_simp; try with_reducible rfl)
  try simp only [Act.put, List.setIfInBounds_toArray, List.set_cons_zero, List.set_cons_succ]
  refine wpAnyH_take (i := 8) (oi := { dst := some 39, op := Op.fieldAddr 23 (Operand.tmp 38) 2, type := 0, pos := "nand.go:67", after := #[{ on := 7, ground := Ground.data }], guard := none }) (v := ?_) rfl (by kernel_rfl) (by kernel_rfl) (by kernel_rfl) (fun _ _ _ h => h) (Or.inl ⟨by rfl, ?_⟩) (by assumption) ?_
  rotate_left
  · (intro w hSw; (try dsimp only at hSw); (try obtain ⟨hSa, hSb⟩ := hSw); go_simp; try with_reducible rfl)
  try simp only [Act.put, List.setIfInBounds_toArray, List.set_cons_zero, List.set_cons_succ]
  refine wpAnyH_take (i := 9) (oi := { dst := some 40, op := Op.load 3 (Operand.tmp 39), type := 3, pos := "nand.go:67", after := #[{ on := 8, ground := Ground.data }], guard := none }) (v := ?_) rfl (by kernel_rfl) (by kernel_rfl) (by kernel_rfl) (fun _ _ _ h => h) (Or.inl ⟨by rfl, ?_⟩) (by assumption) ?_
  rotate_left
  · (intro w hSw; (try dsimp only at hSw); (try obtain ⟨hSa, hSb⟩ := hSw); go_simp; try with_reducible rfl)
  try simp only [Act.put, List.setIfInBounds_toArray, List.set_cons_zero, List.set_cons_succ]
  refine wpAnyH_take (i := 10) (oi := { dst := some 41, op := Op.binOp BinOp.mul 3 (Operand.tmp 35) (Operand.tmp 40) 3, type := 3, pos := "nand.go:67", after := #[{ on := 4, ground := Ground.data }, { on := 9, ground := Ground.data }], guard := none }) (v := ?_) rfl (by kernel_rfl) (by kernel_rfl) (by kernel_rfl) (fun _ _ _ h => h) (Or.inl ⟨by rfl, ?_⟩) (by assumption) ?_
  rotate_left
  · (intro w hSw; (try dsimp only at hSw); (try obtain ⟨hSa, hSb⟩ := hSw); go_simp; try with_reducible rfl)
  try simp only [Act.put, List.setIfInBounds_toArray, List.set_cons_zero, List.set_cons_succ]
  refine wpAnyH_take (i := 11) (oi := { dst := some 42, op := Op.move (Operand.tmp 2), type := 3, pos := "nand.go:67", after := #[], guard := none }) (v := ?_) rfl (by kernel_rfl) (by kernel_rfl) (by kernel_rfl) (fun _ _ _ h => h) (Or.inl ⟨by rfl, ?_⟩) (by assumption) ?_
  rotate_left
  · (intro w hSw; (try dsimp only at hSw); (try obtain ⟨hSa, hSb⟩ := hSw); go_simp; try with_reducible rfl)
  try simp only [Act.put, List.setIfInBounds_toArray, List.set_cons_zero, List.set_cons_succ]
  refine wpAnyH_take (i := 12) (oi := { dst := some 43, op := Op.binOp BinOp.add 3 (Operand.tmp 41) (Operand.tmp 42) 3, type := 3, pos := "nand.go:67", after := #[{ on := 10, ground := Ground.data }, { on := 11, ground := Ground.data }], guard := none }) (v := ?_) rfl (by kernel_rfl) (by kernel_rfl) (by kernel_rfl) (fun _ _ _ h => h) (Or.inl ⟨by rfl, ?_⟩) (by assumption) ?_
  rotate_left
  · (intro w hSw; (try dsimp only at hSw); (try obtain ⟨hSa, hSb⟩ := hSw); go_simp; try with_reducible rfl)
  try simp only [Act.put, List.setIfInBounds_toArray, List.set_cons_zero, List.set_cons_succ]
  refine wpAnyH_take (i := 13) (oi := { dst := some 44, op := Op.indexAddr 92 (Operand.tmp 34) (Operand.tmp 43), type := 0, pos := "nand.go:67", after := #[{ on := 3, ground := Ground.data }, { on := 12, ground := Ground.data }], guard := none }) (v := ?_) rfl (by kernel_rfl) (by kernel_rfl) (by kernel_rfl) (fun _ _ _ h => h) (Or.inl ⟨by rfl, ?_⟩) (by assumption) ?_
  rotate_left
  · (intro w hSw; (try dsimp only at hSw); (try obtain ⟨hSa, hSb⟩ := hSw); go_simp; try with_reducible rfl)
  try simp only [Act.put, List.setIfInBounds_toArray, List.set_cons_zero, List.set_cons_succ]
  refine wpAnyH_take (i := 14) (oi := { dst := some 6, op := Op.assign (Operand.tmp 44), type := 111, pos := "nand.go:67", after := #[{ on := 13, ground := Ground.data }, { on := 0, ground := Ground.phase }, { on := 1, ground := Ground.phase }, { on := 2, ground := Ground.phase }, { on := 3, ground := Ground.phase }, { on := 4, ground := Ground.phase }, { on := 5, ground := Ground.phase }, { on := 6, ground := Ground.phase }, { on := 7, ground := Ground.phase }, { on := 8, ground := Ground.phase }, { on := 9, ground := Ground.phase }, { on := 10, ground := Ground.phase }, { on := 11, ground := Ground.phase }, { on := 12, ground := Ground.phase }, { on := 13, ground := Ground.phase }], guard := none }) (v := ?_) rfl (by kernel_rfl) (by kernel_rfl) (by kernel_rfl) (fun _ _ _ h => h) (Or.inl ⟨by rfl, ?_⟩) (by assumption) ?_
  rotate_left
  · (intro w hSw; (try dsimp only at hSw); (try obtain ⟨hSa, hSb⟩ := hSw); go_simp; try with_reducible rfl)
  try simp only [Act.put, List.setIfInBounds_toArray, List.set_cons_zero, List.set_cons_succ]
  refine wpAnyH_done (by kernel_rfl) ?_ _
  go_wp2
  go_ret
  exact ⟨by simp, HO.out.drew⟩

set_option maxHeartbeats 2000000 in
theorem retired_any (d gb mp pp : Nat) (G : Ge) (l : List Bk) (es : Array MapEntry) (ck : Nat) (u n : Nat) (hu : (u : Int) < G.u) (hn : (n : Int) < G.b) (hq : u * G.b.toNat + n < l.length) (w : World) (k : NAt w d gb mp pp G l es ck) :
    Calls Tryz.prog 109 #[.pointer (some ⟨d, 0, none⟩), .int .i64 u, .int .i64 n] w fun e w' => e = .returned (.bool (l[u * G.b.toNat + n]'hq).r) ∧ Only (fun _ => False) w w' := by
  have HF := Lib.hid (find_any d gb mp pp G l es ck u n hu hn w k)
  have HC := Lib.hid (fun W (o : Only (fun _ => False) w W) => (k.quiet o).cell (u * G.b.toNat + n) 2 hq (by omega))
  generalize u * G.b.toNat + n = q at *
  generalize l[q] = x at *
  obtain ⟨x1, x2, x3⟩ := x
  clear k
  go_enter Tryz.func109, Tryz.ntmps109
  go_wp2_with (fail)
  refine HF.out.mono ?_
  rintro e w1 ⟨rfl, hO⟩
  have y := HC.out w1 hO
  simp only [Bk.cells, List.getElem?_cons_zero, List.getElem?_cons_succ] at y
  have HO := Lib.hid hO
  clear hO
  go_wp2
  go_ret
  exact ⟨rfl, HO.out⟩

set_option maxHeartbeats 2000000 in
theorem setPlan_any (d gb mp pp : Nat) (G : Ge) (l : List Bk) (es : Array MapEntry) (ck : Nat) (b : List Int) (A : Option Addr) (c gs : Nat) (w : World) (k : NAt w d gb mp pp G l es ck) (hr : Rd w gs A (bv b)) (hl : b.length ≤ 1000000) :
    Calls Tryz.prog 25 #[.pointer (some ⟨d, 0, none⟩), .slice A b.length c] w fun e w' => e = .returned (.tuple #[]) ∧ (∃ pp', NAt w' d gb mp pp' G l es ck) ∧ Only (fun i => i = d) w w' := by
  have HP := Lib.hid (plan_any b A c gs w hr hl)
  have HK := Lib.hid k
  clear k hr
  go_enter Tryz.func25, Tryz.ntmps25
  go_wp2_with (fail)
  refine HP.out.mono ?_
  rintro e w1 ⟨pp', A', c', rfl, hp, hpl, hO⟩
  have HO := Lib.hid hO
  have hk := HK.out.quiet hO
  have y := hk.st.cell 6
  have yf := hk.st.frozen 6
  simp only [List.getElem?_toArray, List.getElem?_cons_zero, List.getElem?_cons_succ] at y
  have HK1 := Lib.hid hk
  clear hO hk hp hpl
  go_wp2
  refine bodyPost_end (results_none rfl _ _ _) rfl ?_
  have o := (Only.refl (fun i => i = d) w1).setCell (p := ⟨d, 6, none⟩) (fun _ => rfl) (.pointer (some ⟨pp', 0, none⟩))
  have hn1 : gb ≠ d := HK1.out.row.ne HK1.out.st (by decide)
  have hn2 : mp ≠ d := fun e => by have h1 := HK1.out.mp; have h2 : w1.heap[d]? = _ := HK1.out.st; rw [e, h2] at h1; cases h1
  refine ⟨rfl, ⟨pp', HK1.out.st.set 6 _, HK1.out.row.only o hn1, map_at HK1.out.mp o hn2, HK1.out.is, HK1.out.len⟩, (HO.out.mono (fun i _ e => e.elim)).trans o⟩
end Go.Proofs.YtjobaplioidogaaGreat
