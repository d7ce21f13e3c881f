/- Top: what a disk's parts do: who may, is it read only, a call's end, what a sector has. -/
import Derived.Test.YtjobaplioidogaaGreatAA
namespace Go.Proofs.YtjobaplioidogaaGreat
open Go.RowKit

/-- Elsewhere nothing has changed. -/
def Far (tb : Nat) (cs cs' : Array Value) : Prop := cs'.size = cs.size ∧ ∀ j, (j < tb ∨ tb + 13 ≤ j) → cs'[j]? = cs[j]?
/-- What a thread's cells hold. -/
def Thr (cs : Array Value) (tb : Nat) (v : List Value) : Prop := ∀ k, k < 13 → cs[tb + k]? = v[k]?
theorem Far.refl (tb : Nat) (cs : Array Value) : Far tb cs cs := ⟨rfl, fun _ _ => rfl⟩
theorem Far.trans {tb : Nat} {a b d : Array Value} (h : Far tb a b) (k : Far tb b d) : Far tb a d := ⟨k.1.trans h.1, fun j hj => (k.2 j hj).trans (h.2 j hj)⟩
theorem Far.set {tb : Nat} {a b : Array Value} (h : Far tb a b) (k : Nat) (hk : k < 13) (v : Value) : Far tb a (b.setIfInBounds (tb + k) v) :=
  ⟨by rw [Array.size_setIfInBounds]; exact h.1, fun j hj => by rw [set_get _ _ _ _ (by omega)]; exact h.2 j hj⟩
theorem Thr.set {cs : Array Value} {tb : Nat} {v : List Value} (h : Thr cs tb v) (hv : v.length = 13) (hs : tb + 13 ≤ cs.size) (k : Nat) (hk : k < 13) (x : Value) : Thr (cs.setIfInBounds (tb + k) x) tb (v.set k x) := by
  intro j hj
  by_cases hjk : j = k
  · subst hjk
    rw [set_self _ _ _ (by omega), List.getElem?_set_self (by omega)]
  · rw [set_get _ _ _ _ (by omega), List.getElem?_set_ne (by omega)]
    exact h j hj
theorem DOk.far {cs cs' : Array Value} {G : Ge} {s : Sg} {mb lb rb sb tb : Nat} (k : DOk cs G s mb lb rb sb) (h : Far tb cs cs') (h1 : 12 ≤ tb) (h2 : tb + 13 ≤ 129) : DOk cs' G s mb lb rb sb := by
  obtain ⟨hz, hf⟩ := h
  refine ⟨by rw [hz]; exact k.sz, ?_, ?_, ?_, ?_, ?_, ?_, ?_, ?_, ?_, ?_, ?_, ?_, ?_, ?_⟩
  · rw [hf _ (by omega)]; exact k.g1
  · rw [hf _ (by omega)]; exact k.g2
  · rw [hf _ (by omega)]; exact k.g3
  · rw [hf _ (by omega)]; exact k.g4
  · rw [hf _ (by omega)]; exact k.g5
  · rw [hf _ (by omega)]; exact k.n
  · rw [hf _ (by omega)]; exact k.m
  · rw [hf _ (by omega)]; exact k.l
  · rw [hf _ (by omega)]; exact k.rg
  · rw [hf _ (by omega)]; exact k.st
  · rw [hf _ (by omega)]; exact k.sp
  · rw [hf _ (by omega)]; exact k.off
  · rw [hf _ (by omega)]; exact k.cl
  · rw [hf _ (by omega)]; exact k.pe
section
variable {w w' : World} {db mb kt kw vb lb off c gb rb sb lo : Nat} {st sw : Nat → Sh} {G : Ge} {s : Sg} {l : List Ln} {cs cs' : Array Value}
theorem DAt.quiet (k : DAt w db G s l cs mb kt kw vb st sw lb off c gb rb sb lo) (o : Only (fun _ => False) w w') : DAt w' db G s l cs mb kt kw vb st sw lb off c gb rb sb lo :=
  ⟨k.at'.only o id, k.ok, k.map.quiet o, k.lns.quiet o, k.ring.only o id, map_at k.stp o id⟩
theorem DAt.put (k : DAt w db G s l cs mb kt kw vb st sw lb off c gb rb sb lo) (o : Only (fun i => i = db) w w') (h : At w' db 81 cs') (ok : DOk cs' G s mb lb rb sb) : DAt w' db G s l cs' mb kt kw vb st sw lb off c gb rb sb lo :=
  ⟨h, ok, k.map.far' k.at' o, k.lns.far' k.at' o, k.ring.only o (fun e => by obtain ⟨v, hv⟩ := k.ring; exact hv.ne k.at' (by decide) e), map_at k.stp o (fun e => by have h1 := k.at'; have h2 := k.stp; unfold At at h1; rw [e, h1] at h2; cases h2)⟩
theorem DAt.cell (k : DAt w db G s l cs mb kt kw vb st sw lb off c gb rb sb lo) (i : Nat) : w.cell? ⟨db, i, none⟩ = cs[i]? := k.at'.cell i
end

/-- Is a disk read only? -/
def roB (G : Ge) (s : Sg) (l : List Ln) : Bool := decide (capTo G l l.length < 2 * s.n + 5 * G.fl)

set_option maxHeartbeats 2000000 in
theorem actors_any (db mb kt kw vb lb off c gb rb sb lo : Nat) (st sw : Nat → Sh) (G : Ge) (s : Sg) (l : List Ln) (cs : Array Value) (w : World) (k : DAt w db G s l cs mb kt kw vb st sw lb off c gb rb sb lo) :
    Calls Tryz.prog 33 #[.pointer (some ⟨db, 0, none⟩)] w fun e w' => e = .returned (.int .i64 (8 + G.c + 1)) ∧ w' = w := by
  have c1 := (k.cell 1).trans k.ok.g1
  have hc := k.map.is.c
  have e1 : IntKind.i64.wrap (8 + G.c) = 8 + G.c := IntWalk.i64_in _ (by omega)
  have e1' : wrap64 (8 + G.c) = 8 + G.c := by rw [← IntWalk.i64_left]; exact e1
  have e2 : IntKind.i64.wrap (8 + G.c + 1) = 8 + G.c + 1 := IntWalk.i64_in _ (by omega)
  have e2' : wrap64 (8 + G.c + 1) = 8 + G.c + 1 := by rw [← IntWalk.i64_left]; exact e2
  clear k hc
  go_enter Tryz.func33, Tryz.ntmps33
  go_wp2
  go_ret
  exact ⟨rfl, rfl⟩

set_option maxHeartbeats 2000000 in
theorem settled_any (db mb kt kw vb lb off c gb rb sb lo : Nat) (st sw : Nat → Sh) (G : Ge) (s : Sg) (l : List Ln) (cs : Array Value) (z : Int) (w : World) (k : DAt w db G s l cs mb kt kw vb st sw lb off c gb rb sb lo) :
    Calls Tryz.prog 117 #[.pointer (some ⟨db, 0, none⟩), .int .i64 z] w fun e w' => e = .returned (.bool true) ∧ w' = w := by
  have c1 := (k.cell 135).trans k.ok.pe
  clear k
  go_enter Tryz.func117, Tryz.ntmps117
  go_wp2_with (fail)
  go_loopw [6, 12] (fun v6 v12 wr => v12 = .int .i64 0 ∧ wr = w) (fun _ _ _ => 0)
  case atStart => exact ⟨rfl, rfl⟩
  case round =>
    obtain ⟨rfl, rfl⟩ := hrel
    go_wp2
    go_ret
    exact ⟨rfl, rfl⟩

set_option maxRecDepth 100000 in
set_option maxHeartbeats 8000000 in
theorem readOnly_any (db mb kt kw vb lb off c gb rb sb lo : Nat) (st sw : Nat → Sh) (G : Ge) (s : Sg) (l : List Ln) (cs : Array Value) (hl : gOk l) (hn : 1 ≤ s.n ∧ s.n ≤ 4096) (w : World) (k : DAt w db G s l cs mb kt kw vb st sw lb off c gb rb sb lo) :
    Calls Tryz.prog 8 #[.pointer (some ⟨db, 0, none⟩)] w fun e w' => e = .returned (.bool (roB G s l)) ∧ Only (fun _ => False) w w' := by
  have hG := k.map.is
  have HCA := Lib.hid (fun W (o : Only (fun _ => False) w W) => capacity_any lb off c gb G hG l hl (-1) W (k.lns.quiet o))
  have HFU := Lib.hid (fun W => full_any G hG W)
  have hfl := hG.fl
  have hcap := capTo_bd hG hl l.length (Nat.le_refl _)
  unfold roB
  have HOs := Lib.hid ((Only.refl (fun _ => False) w).drew)
  have HKs := Lib.hid ((k.quiet HOs.out))
  clear k
  unfold Ge.val at *
  generalize capTo G l l.length = cap at *
  generalize G.fl = fl at *
  have e1 : IntKind.i64.wrap (2 * s.n) = 2 * s.n := IntWalk.i64_in _ (by omega)
  have e1' : wrap64 (2 * s.n) = 2 * s.n := by rw [← IntWalk.i64_left]; exact e1
  have e2 : IntKind.i64.wrap (5 * fl) = 5 * fl := IntWalk.i64_in _ (by omega)
  have e2' : wrap64 (5 * fl) = 5 * fl := by rw [← IntWalk.i64_left]; exact e2
  have e3 : IntKind.i64.wrap (2 * s.n + 5 * fl) = 2 * s.n + 5 * fl := IntWalk.i64_in _ (by omega)
  have e3' : wrap64 (2 * s.n + 5 * fl) = 2 * s.n + 5 * fl := by rw [← IntWalk.i64_left]; exact e3
  go_enter Tryz.func8, Tryz.ntmps8
  go_upto_region 1 with (fail)
  refine wp_region_held_drew (S := (fun W => (((W.cell? ⟨db, 130, none⟩ = some (.int .i64 0) ∧ W.cell? ⟨db, 9, none⟩ = some (.pointer (some ⟨lb, 0, none⟩))) ∧ (W.cell? ⟨db, 6, none⟩ = some (.int .i64 s.n) ∧ W.cell? ⟨db, 1, none⟩ = some (.int .i64 G.c))) ∧ ((W.cell? ⟨db, 2, none⟩ = some (.int .i64 G.l) ∧ W.cell? ⟨db, 3, none⟩ = some (.int .i64 G.b)) ∧ (W.cell? ⟨db, 4, none⟩ = some (.int .i64 G.p) ∧ W.cell? ⟨db, 5, none⟩ = some (.int .i64 G.s)))))) (by kernel_rfl) ?_ (fun hHeld => ?_)
  · exact ⟨⟨⟨(HKs.out.cell 130).trans HKs.out.ok.sp, (HKs.out.cell 9).trans HKs.out.ok.l⟩, ⟨(HKs.out.cell 6).trans HKs.out.ok.n, (HKs.out.cell 1).trans HKs.out.ok.g1⟩⟩, ⟨⟨(HKs.out.cell 2).trans HKs.out.ok.g2, (HKs.out.cell 3).trans HKs.out.ok.g3⟩, ⟨(HKs.out.cell 4).trans HKs.out.ok.g4, (HKs.out.cell 5).trans HKs.out.ok.g5⟩⟩⟩
  refine wpAnyH_take (i := 0) (oi := { dst := some 3, op := Op.move (Operand.tmp 0), type := 34, pos := "disk.go:141", after := #[], guard := none }) (v := ?_) rfl (by kernel_rfl) (by kernel_rfl) (by kernel_rfl) (fun _ _ _ h => h) (Or.inl ⟨by rfl, ?_⟩) (by assumption) ?_
  rotate_left
  · (intro w hSw; (try dsimp only at hSw); (try obtain ⟨hSa, hSb⟩ := hSw); go_simp; try with_reducible rfl)
  try simp only [Act.put, List.setIfInBounds_toArray, List.set_cons_zero, List.set_cons_succ]
  refine wpAnyH_take (i := 1) (oi := { dst := some 4, op := Op.nilCheck (Operand.tmp 3), type := 0, pos := "disk.go:141", after := #[{ on := 0, ground := Ground.data }], guard := none }) (v := ?_) rfl (by kernel_rfl) (by kernel_rfl) (by kernel_rfl) (fun _ _ _ h => h) (Or.inl ⟨by rfl, ?_⟩) (by assumption) ?_
  rotate_left
  · (intro w hSw; (try dsimp only at hSw); (try obtain ⟨hSa, hSb⟩ := hSw); go_simp; try with_reducible rfl)
  try simp only [Act.put, List.setIfInBounds_toArray, List.set_cons_zero, List.set_cons_succ]
  refine wpAnyH_take (i := 2) (oi := { dst := some 5, op := Op.fieldAddr 81 (Operand.tmp 4) 9, type := 0, pos := "disk.go:141", after := #[{ on := 1, ground := Ground.data }], guard := none }) (v := ?_) rfl (by kernel_rfl) (by kernel_rfl) (by kernel_rfl) (fun _ _ _ h => h) (Or.inl ⟨by rfl, ?_⟩) (by assumption) ?_
  rotate_left
  · (intro w hSw; (try dsimp only at hSw); (try obtain ⟨hSa, hSb⟩ := hSw); go_simp; try with_reducible rfl)
  try simp only [Act.put, List.setIfInBounds_toArray, List.set_cons_zero, List.set_cons_succ]
  refine wpAnyH_take (i := 3) (oi := { dst := some 6, op := Op.load 3 (Operand.tmp 5), type := 3, pos := "disk.go:141", after := #[{ on := 2, ground := Ground.data }], guard := none }) (v := ?_) rfl (by kernel_rfl) (by kernel_rfl) (by kernel_rfl) (fun _ _ _ h => h) (Or.inl ⟨by rfl, ?_⟩) (by assumption) ?_
  rotate_left
  · (intro w hSw; (try dsimp only at hSw); (try obtain ⟨hSa, hSb⟩ := hSw); go_simp; try with_reducible rfl)
  try simp only [Act.put, List.setIfInBounds_toArray, List.set_cons_zero, List.set_cons_succ]
  refine wpAnyH_take (i := 4) (oi := { dst := some 7, op := Op.binOp BinOp.geq 3 (Operand.tmp 6) (Operand.const (Value.int IntKind.i64 1125899906842624)) 3, type := 4, pos := "disk.go:141", after := #[{ on := 3, ground := Ground.data }], guard := none }) (v := ?_) rfl (by kernel_rfl) (by kernel_rfl) (by kernel_rfl) (fun _ _ _ h => h) (Or.inl ⟨by rfl, ?_⟩) (by assumption) ?_
  rotate_left
  · (intro w hSw; (try dsimp only at hSw); (try obtain ⟨hSa, hSb⟩ := hSw); go_simp; try with_reducible rfl)
  try simp only [Act.put, List.setIfInBounds_toArray, List.set_cons_zero, List.set_cons_succ]
  refine wpAnyH_take (i := 5) (oi := { dst := some 8, op := Op.move (Operand.tmp 7), type := 4, pos := "disk.go:141", after := #[{ on := 4, ground := Ground.data }], guard := none }) (v := ?_) rfl (by kernel_rfl) (by kernel_rfl) (by kernel_rfl) (fun _ _ _ h => h) (Or.inl ⟨by rfl, ?_⟩) (by assumption) ?_
  rotate_left
  · (intro w hSw; (try dsimp only at hSw); (try obtain ⟨hSa, hSb⟩ := hSw); go_simp; try with_reducible rfl)
  try simp only [Act.put, List.setIfInBounds_toArray, List.set_cons_zero, List.set_cons_succ]
  refine wpAnyH_take (i := 6) (oi := { dst := some 9, op := Op.move (Operand.tmp 0), type := 34, pos := "disk.go:141", after := #[{ on := 5, ground := Ground.guard }], guard := some (5, false) }) (v := ?_) rfl (by kernel_rfl) (by kernel_rfl) (by kernel_rfl) (fun _ _ _ h => h) (Or.inl ⟨by rfl, ?_⟩) (by assumption) ?_
  rotate_left
  · (intro w hSw; (try dsimp only at hSw); (try obtain ⟨hSa, hSb⟩ := hSw); go_simp; try with_reducible rfl)
  try simp only [Act.put, List.setIfInBounds_toArray, List.set_cons_zero, List.set_cons_succ]
  refine wpAnyH_take (i := 11) (oi := { dst := some 14, op := Op.move (Operand.tmp 0), type := 34, pos := "disk.go:141", after := #[{ on := 5, ground := Ground.guard }], guard := some (5, false) }) (v := ?_) rfl (by kernel_rfl) (by kernel_rfl) (by kernel_rfl) (fun _ _ _ h => h) (Or.inl ⟨by rfl, ?_⟩) (by assumption) ?_
  rotate_left
  · (intro w hSw; (try dsimp only at hSw); (try obtain ⟨hSa, hSb⟩ := hSw); go_simp; try with_reducible rfl)
  try simp only [Act.put, List.setIfInBounds_toArray, List.set_cons_zero, List.set_cons_succ]
  refine wpAnyH_take (i := 17) (oi := { dst := some 20, op := Op.move (Operand.tmp 0), type := 34, pos := "disk.go:141", after := #[{ on := 5, ground := Ground.guard }], guard := some (5, false) }) (v := ?_) rfl (by kernel_rfl) (by kernel_rfl) (by kernel_rfl) (fun _ _ _ h => h) (Or.inl ⟨by rfl, ?_⟩) (by assumption) ?_
  rotate_left
  · (intro w hSw; (try dsimp only at hSw); (try obtain ⟨hSa, hSb⟩ := hSw); go_simp; try with_reducible rfl)
  try simp only [Act.put, List.setIfInBounds_toArray, List.set_cons_zero, List.set_cons_succ]
  refine wpAnyH_take (i := 7) (oi := { dst := some 10, op := Op.nilCheck (Operand.tmp 9), type := 0, pos := "disk.go:141", after := #[{ on := 6, ground := Ground.data }, { on := 5, ground := Ground.guard }], guard := some (5, false) }) (v := ?_) rfl (by kernel_rfl) (by kernel_rfl) (by kernel_rfl) (fun _ _ _ h => h) (Or.inl ⟨by rfl, ?_⟩) (by assumption) ?_
  rotate_left
  · (intro w hSw; (try dsimp only at hSw); (try obtain ⟨hSa, hSb⟩ := hSw); go_simp; try with_reducible rfl)
  try simp only [Act.put, List.setIfInBounds_toArray, List.set_cons_zero, List.set_cons_succ]
  refine wpAnyH_take (i := 12) (oi := { dst := some 15, op := Op.nilCheck (Operand.tmp 14), type := 0, pos := "disk.go:141", after := #[{ on := 11, ground := Ground.data }, { on := 5, ground := Ground.guard }], guard := some (5, false) }) (v := ?_) rfl (by kernel_rfl) (by kernel_rfl) (by kernel_rfl) (fun _ _ _ h => h) (Or.inl ⟨by rfl, ?_⟩) (by assumption) ?_
  rotate_left
  · (intro w hSw; (try dsimp only at hSw); (try obtain ⟨hSa, hSb⟩ := hSw); go_simp; try with_reducible rfl)
  try simp only [Act.put, List.setIfInBounds_toArray, List.set_cons_zero, List.set_cons_succ]
  refine wpAnyH_take (i := 18) (oi := { dst := some 21, op := Op.nilCheck (Operand.tmp 20), type := 0, pos := "disk.go:141", after := #[{ on := 17, ground := Ground.data }, { on := 5, ground := Ground.guard }], guard := some (5, false) }) (v := ?_) rfl (by kernel_rfl) (by kernel_rfl) (by kernel_rfl) (fun _ _ _ h => h) (Or.inl ⟨by rfl, ?_⟩) (by assumption) ?_
  rotate_left
  · (intro w hSw; (try dsimp only at hSw); (try obtain ⟨hSa, hSb⟩ := hSw); go_simp; try with_reducible rfl)
  try simp only [Act.put, List.setIfInBounds_toArray, List.set_cons_zero, List.set_cons_succ]
  refine wpAnyH_take (i := 8) (oi := { dst := some 11, op := Op.fieldAddr 81 (Operand.tmp 10) 4, type := 0, pos := "disk.go:141", after := #[{ on := 7, ground := Ground.data }, { on := 5, ground := Ground.guard }], guard := some (5, false) }) (v := ?_) rfl (by kernel_rfl) (by kernel_rfl) (by kernel_rfl) (fun _ _ _ h => h) (Or.inl ⟨by rfl, ?_⟩) (by assumption) ?_
  rotate_left
  · (intro w hSw; (try dsimp only at hSw); (try obtain ⟨hSa, hSb⟩ := hSw); go_simp; try with_reducible rfl)
  try simp only [Act.put, List.setIfInBounds_toArray, List.set_cons_zero, List.set_cons_succ]
  refine wpAnyH_take (i := 13) (oi := { dst := some 16, op := Op.fieldAddr 81 (Operand.tmp 15) 2, type := 0, pos := "disk.go:141", after := #[{ on := 12, ground := Ground.data }, { on := 5, ground := Ground.guard }], guard := some (5, false) }) (v := ?_) rfl (by kernel_rfl) (by kernel_rfl) (by kernel_rfl) (fun _ _ _ h => h) (Or.inl ⟨by rfl, ?_⟩) (by assumption) ?_
  rotate_left
  · (intro w hSw; (try dsimp only at hSw); (try obtain ⟨hSa, hSb⟩ := hSw); go_simp; try with_reducible rfl)
  try simp only [Act.put, List.setIfInBounds_toArray, List.set_cons_zero, List.set_cons_succ]
  refine wpAnyH_take (i := 19) (oi := { dst := some 22, op := Op.fieldAddr 81 (Operand.tmp 21) 1, type := 0, pos := "disk.go:141", after := #[{ on := 18, ground := Ground.data }, { on := 5, ground := Ground.guard }], guard := some (5, false) }) (v := ?_) rfl (by kernel_rfl) (by kernel_rfl) (by kernel_rfl) (fun _ _ _ h => h) (Or.inl ⟨by rfl, ?_⟩) (by assumption) ?_
  rotate_left
  · (intro w hSw; (try dsimp only at hSw); (try obtain ⟨hSa, hSb⟩ := hSw); go_simp; try with_reducible rfl)
  try simp only [Act.put, List.setIfInBounds_toArray, List.set_cons_zero, List.set_cons_succ]
  refine wpAnyH_take (i := 9) (oi := { dst := some 12, op := Op.load 63 (Operand.tmp 11), type := 63, pos := "disk.go:141", after := #[{ on := 8, ground := Ground.data }, { on := 5, ground := Ground.guard }], guard := some (5, false) }) (v := ?_) rfl (by kernel_rfl) (by kernel_rfl) (by kernel_rfl) (fun _ _ _ h => h) (Or.inl ⟨by rfl, ?_⟩) (by assumption) ?_
  rotate_left
  · (intro w hSw; (try dsimp only at hSw); (try obtain ⟨hSa, hSb⟩ := hSw); go_simp; try with_reducible rfl)
  try simp only [Act.put, List.setIfInBounds_toArray, List.set_cons_zero, List.set_cons_succ]
  refine wpAnyH_take (i := 14) (oi := { dst := some 17, op := Op.fieldAddr 25 (Operand.tmp 16) 0, type := 0, pos := "disk.go:141", after := #[{ on := 13, ground := Ground.data }, { on := 5, ground := Ground.guard }], guard := some (5, false) }) (v := ?_) rfl (by kernel_rfl) (by kernel_rfl) (by kernel_rfl) (fun _ _ _ h => h) (Or.inl ⟨by rfl, ?_⟩) (by assumption) ?_
  rotate_left
  · (intro w hSw; (try dsimp only at hSw); (try obtain ⟨hSa, hSb⟩ := hSw); go_simp; try with_reducible rfl)
  try simp only [Act.put, List.setIfInBounds_toArray, List.set_cons_zero, List.set_cons_succ]
  refine wpAnyH_take (i := 20) (oi := { dst := some 23, op := Op.load 23 (Operand.tmp 22), type := 23, pos := "disk.go:141", after := #[{ on := 19, ground := Ground.data }, { on := 5, ground := Ground.guard }], guard := some (5, false) }) (v := ?_) rfl (by kernel_rfl) (by kernel_rfl) (by kernel_rfl) (fun _ _ _ h => h) (Or.inl ⟨by rfl, ?_⟩) (by assumption) ?_
  rotate_left
  · (intro w hSw; (try dsimp only at hSw); (try obtain ⟨hSa, hSb⟩ := hSw); go_simp; try with_reducible rfl)
  try simp only [Act.put, List.setIfInBounds_toArray, List.set_cons_zero, List.set_cons_succ]
  refine wpAnyH_take (i := 15) (oi := { dst := some 18, op := Op.load 3 (Operand.tmp 17), type := 3, pos := "disk.go:141", after := #[{ on := 14, ground := Ground.data }, { on := 5, ground := Ground.guard }], guard := some (5, false) }) (v := ?_) rfl (by kernel_rfl) (by kernel_rfl) (by kernel_rfl) (fun _ _ _ h => h) (Or.inl ⟨by rfl, ?_⟩) (by assumption) ?_
  rotate_left
  · (intro w hSw; (try dsimp only at hSw); (try obtain ⟨hSa, hSb⟩ := hSw); go_simp; try with_reducible rfl)
  try simp only [Act.put, List.setIfInBounds_toArray, List.set_cons_zero, List.set_cons_succ]
  refine wpAnyH_take (i := 16) (oi := { dst := some 19, op := Op.binOp BinOp.mul 3 (Operand.const (Value.int IntKind.i64 2)) (Operand.tmp 18) 3, type := 3, pos := "disk.go:141", after := #[{ on := 15, ground := Ground.data }, { on := 5, ground := Ground.guard }], guard := some (5, false) }) (v := ?_) rfl (by kernel_rfl) (by kernel_rfl) (by kernel_rfl) (fun _ _ _ h => h) (Or.inl ⟨by rfl, ?_⟩) (by assumption) ?_
  rotate_left
  · (intro w hSw; (try dsimp only at hSw); (try obtain ⟨hSa, hSb⟩ := hSw); go_simp; try with_reducible rfl)
  try simp only [Act.put, List.setIfInBounds_toArray, List.set_cons_zero, List.set_cons_succ]
  refine wpAnyH_ready (rs := [10]) (by kernel_rfl) (by simp) ?_
  refine AllReadyH.cons (o := { dst := some 13, op := Op.call { callee := Callee.value (Operand.func 27), args := #[Operand.tmp 12], argTypes := #[63] }, type := 3, pos := "disk.go:141", after := #[{ on := 9, ground := Ground.data }, { on := 5, ground := Ground.chain }, { on := 5, ground := Ground.guard }], guard := some (5, false) }) rfl (fun K hK => ?_) AllReadyH.nil
  go_simp
  refine (HCA.out _ HOs.out).mono ?_
  rintro e ww_1 ⟨rfl, hO⟩
  have HK_1 := Lib.hid (HKs.out.quiet hO)
  have HO_1 := Lib.hid (HOs.out.trans hO)
  try clear hO
  try simp only []
  refine hK.out _ _ ?_ (fun hHeld => ?_)
  · exact ⟨⟨⟨(HK_1.out.cell 130).trans HK_1.out.ok.sp, (HK_1.out.cell 9).trans HK_1.out.ok.l⟩, ⟨(HK_1.out.cell 6).trans HK_1.out.ok.n, (HK_1.out.cell 1).trans HK_1.out.ok.g1⟩⟩, ⟨⟨(HK_1.out.cell 2).trans HK_1.out.ok.g2, (HK_1.out.cell 3).trans HK_1.out.ok.g3⟩, ⟨(HK_1.out.cell 4).trans HK_1.out.ok.g4, (HK_1.out.cell 5).trans HK_1.out.ok.g5⟩⟩⟩
  clear hK K
  try simp only [Act.put, List.setIfInBounds_toArray, List.set_cons_zero, List.set_cons_succ]
  refine wpAnyH_ready (rs := [21]) (by kernel_rfl) (by simp) ?_
  refine AllReadyH.cons (o := { dst := some 24, op := Op.call { callee := Callee.value (Operand.func 28), args := #[Operand.tmp 23], argTypes := #[23] }, type := 3, pos := "disk.go:141", after := #[{ on := 20, ground := Ground.data }, { on := 10, ground := Ground.chain }, { on := 5, ground := Ground.guard }], guard := some (5, false) }) rfl (fun K hK => ?_) AllReadyH.nil
  go_simp
  refine (HFU.out _).mono ?_
  rintro e ww_2 ⟨rfl, hO⟩
  have HK_2 := Lib.hid (HK_1.out.quiet hO)
  have HO_2 := Lib.hid (HO_1.out.trans hO)
  try clear hO
  try simp only []
  refine hK.out _ _ ?_ (fun hHeld => ?_)
  · exact ⟨⟨⟨(HK_2.out.cell 130).trans HK_2.out.ok.sp, (HK_2.out.cell 9).trans HK_2.out.ok.l⟩, ⟨(HK_2.out.cell 6).trans HK_2.out.ok.n, (HK_2.out.cell 1).trans HK_2.out.ok.g1⟩⟩, ⟨⟨(HK_2.out.cell 2).trans HK_2.out.ok.g2, (HK_2.out.cell 3).trans HK_2.out.ok.g3⟩, ⟨(HK_2.out.cell 4).trans HK_2.out.ok.g4, (HK_2.out.cell 5).trans HK_2.out.ok.g5⟩⟩⟩
  clear hK K
  try simp only [Act.put, List.setIfInBounds_toArray, List.set_cons_zero, List.set_cons_succ]
  refine wpAnyH_take (i := 22) (oi := { dst := some 25, op := Op.binOp BinOp.mul 3 (Operand.const (Value.int IntKind.i64 5)) (Operand.tmp 24) 3, type := 3, pos := "disk.go:141", after := #[{ on := 21, ground := Ground.data }, { on := 5, ground := Ground.guard }], guard := some (5, false) }) (v := ?_) rfl (by kernel_rfl) (by kernel_rfl) (by kernel_rfl) (fun _ _ _ h => h) (Or.inl ⟨by rfl, ?_⟩) (by assumption) ?_
  rotate_left
  · (intro w hSw; (try dsimp only at hSw); (try obtain ⟨hSa, hSb⟩ := hSw); go_simp; try with_reducible rfl)
  try simp only [Act.put, List.setIfInBounds_toArray, List.set_cons_zero, List.set_cons_succ]
  refine wpAnyH_take (i := 23) (oi := { dst := some 26, op := Op.binOp BinOp.add 3 (Operand.tmp 19) (Operand.tmp 25) 3, type := 3, pos := "disk.go:141", after := #[{ on := 16, ground := Ground.data }, { on := 22, ground := Ground.data }, { on := 5, ground := Ground.guard }], guard := some (5, false) }) (v := ?_) rfl (by kernel_rfl) (by kernel_rfl) (by kernel_rfl) (fun _ _ _ h => h) (Or.inl ⟨by rfl, ?_⟩) (by assumption) ?_
  rotate_left
  · (intro w hSw; (try dsimp only at hSw); (try obtain ⟨hSa, hSb⟩ := hSw); go_simp; try with_reducible rfl)
  try simp only [Act.put, List.setIfInBounds_toArray, List.set_cons_zero, List.set_cons_succ]
  refine wpAnyH_take (i := 24) (oi := { dst := some 27, op := Op.binOp BinOp.lss 3 (Operand.tmp 13) (Operand.tmp 26) 3, type := 4, pos := "disk.go:141", after := #[{ on := 10, ground := Ground.data }, { on := 23, ground := Ground.data }, { on := 5, ground := Ground.guard }], guard := some (5, false) }) (v := ?_) rfl (by kernel_rfl) (by kernel_rfl) (by kernel_rfl) (fun _ _ _ h => h) (Or.inl ⟨by rfl, ?_⟩) (by assumption) ?_
  rotate_left
  · (intro w hSw; (try dsimp only at hSw); (try obtain ⟨hSa, hSb⟩ := hSw); go_simp; try with_reducible rfl)
  try simp only [Act.put, List.setIfInBounds_toArray, List.set_cons_zero, List.set_cons_succ]
  refine wpAnyH_take (i := 25) (oi := { dst := some 28, op := Op.pick (Operand.tmp 8) (Operand.const (Value.bool true)) (Operand.tmp 27), type := 4, pos := "disk.go:141", after := #[{ on := 5, ground := Ground.data }, { on := 24, ground := Ground.data }], guard := none }) (v := ?_) rfl (by kernel_rfl) (by kernel_rfl) (by kernel_rfl) (fun _ _ _ h => h) (Or.inl ⟨by rfl, ?_⟩) (by assumption) ?_
  rotate_left
  · (intro w hSw; (try dsimp only at hSw); (try obtain ⟨hSa, hSb⟩ := hSw); go_simp; try with_reducible rfl)
  try simp only [Act.put, List.setIfInBounds_toArray, List.set_cons_zero, List.set_cons_succ]
  refine wpAnyH_take (i := 26) (oi := { dst := some 2, op := Op.assign (Operand.tmp 28), type := 4, pos := "disk.go:141", after := #[{ on := 25, ground := Ground.data }, { on := 21, ground := Ground.chain }, { on := 0, ground := Ground.phase }, { on := 1, ground := Ground.phase }, { on := 2, ground := Ground.phase }, { on := 3, ground := Ground.phase }, { on := 4, ground := Ground.phase }, { on := 5, ground := Ground.phase }, { on := 6, ground := Ground.phase }, { on := 7, ground := Ground.phase }, { on := 8, ground := Ground.phase }, { on := 9, ground := Ground.phase }, { on := 10, ground := Ground.phase }, { on := 11, ground := Ground.phase }, { on := 12, ground := Ground.phase }, { on := 13, ground := Ground.phase }, { on := 14, ground := Ground.phase }, { on := 15, ground := Ground.phase }, { on := 16, ground := Ground.phase }, { on := 17, ground := Ground.phase }, { on := 18, ground := Ground.phase }, { on := 19, ground := Ground.phase }, { on := 20, ground := Ground.phase }, { on := 21, ground := Ground.phase }, { on := 22, ground := Ground.phase }, { on := 23, ground := Ground.phase }, { on := 24, ground := Ground.phase }, { on := 25, ground := Ground.phase }], guard := none }) (v := ?_) rfl (by kernel_rfl) (by kernel_rfl) (by kernel_rfl) (fun _ _ _ h => h) (Or.inl ⟨by rfl, ?_⟩) (by assumption) ?_
  rotate_left
  · (intro w hSw; (try dsimp only at hSw); (try obtain ⟨hSa, hSb⟩ := hSw); go_simp; try with_reducible rfl)
  try simp only [Act.put, List.setIfInBounds_toArray, List.set_cons_zero, List.set_cons_succ]
  refine wpAnyH_done (by kernel_rfl) ?_ _
  go_wp2
  go_ret
  exact ⟨rfl, HO_2.out⟩

end Go.Proofs.YtjobaplioidogaaGreat
