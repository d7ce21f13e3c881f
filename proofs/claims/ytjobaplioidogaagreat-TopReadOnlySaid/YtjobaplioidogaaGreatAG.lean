/- Top: a thread's step, whole. -/
import Derived.Test.YtjobaplioidogaaGreatAF
namespace Go.Proofs.YtjobaplioidogaaGreat
open Go.RowKit

set_option maxRecDepth 100000 in
set_option maxHeartbeats 8000000 in
theorem step2 (db mb kt kw vb lb off c gb rb sb lo : Nat) (st sw : Nat → Sh) (G : Ge) (s : Sg) (l : List Ln) (cs : Array Value) (hl : gOk l) (hn : 1 ≤ s.n ∧ s.n ≤ 4096) (hro : roB G s l = true) (a1 a2 a3 a6 a9 a10 a11 a12 : Value) (dn : Int) (A : Option Addr) (n c' : Nat) (ht : Thr cs 38 [.int .i64 2, a1, a2, a3, .bool true, .bool false, a6, .int .i64 dn, .slice A n c', a9, a10, a11, a12]) (w : World) (k : DAt w db G s l cs mb kt kw vb st sw lb off c gb rb sb lo) :
    Calls Tryz.prog 13 #[.pointer (some ⟨db, 0, none⟩), .int .i64 2] w fun e w' => e = .returned (.int .i64 0) ∧ ∃ cs', At w' db 81 cs' ∧ Thr cs' 38 [.int .i64 2, a1, a2, a3, .bool false, .bool false, a6, .int .i64 dn, .slice A n c', .bool true, .int .i64 17, .int .i64 dn, .slice A n c'] ∧ Far 38 cs cs' ∧ Only (fun i => i = db) w w' := by
  have HA := Lib.hid (fun W (k' : DAt W db G s l cs mb kt kw vb st sw lb off c gb rb sb lo) => actors_any db mb kt kw vb lb off c gb rb sb lo st sw G s l cs W k')
  have HM := Lib.hid (may2 db mb kt kw vb lb off c gb rb sb lo st sw G s l cs hl hn hro a1 a2 a3 a6 (.int .i64 dn) (.slice A n c') a9 a10 a11 a12 ht w k)
  have HC := Lib.hid (fun W (o : Only (fun _ => False) w W) => write_ro db mb kt kw vb lb off c gb rb sb lo st sw G s l cs hl hn hro 38 (by omega) (.int .i64 2) a1 a2 a3 (.bool true) (.bool false) a6 a9 a10 a11 a12 dn A n c' ht W (k.quiet o))
  unfold ThrP at HC
  have HK := Lib.hid k
  have HNE := Lib.hid (show ¬ sb = db from fun e => by have h1 := k.at'; have h2 := k.stp; unfold At at h1; rw [e, h1] at h2; cases h2)
  have c131 := (k.cell 131).trans k.ok.off
  have hc := k.map.is.c
  have d1 : decide (8 + G.c + 1 < 2) = false := decide_eq_false (by omega)
  have HOFF := Lib.hid k.ok.off
  have HC129 := Lib.hid (fun W (o : Only (fun _ => False) w W) => ((k.quiet o).cell 129).trans k.ok.st)
  have HC0 := Lib.hid (fun W (o : Only (fun _ => False) w W) => ((k.quiet o).cell (38 + 0)).trans (ht 0 (by omega)))
  have hlk := fun W (hb : W.heap[sb]? = some (.map (stepE 5) 5)) => look_step (W := W) (sb := sb) (z := 2) (i := 1) hb (by rfl)
  have HA0 := Lib.hid (actors_any db mb kt kw vb lb off c gb rb sb lo st sw G s l cs w k)
  clear k ht
  generalize G.c = gc at *
  go_enter Tryz.func13, Tryz.ntmps13
  go_wp2_with (fail)
  refine HA0.out.mono ?_
  rintro e w0 ⟨rfl, rfl⟩
  go_wp2_with (fail)
  refine HM.out.mono ?_
  rintro e w1 ⟨rfl, hO⟩
  have HO := Lib.hid hO
  clear hO
  clear c131
  go_upto_region 10 with (fail)
  have HOs := Lib.hid (HO.out.trans (Only.refl (fun _ => False) w1).drew)
  refine wp_region_held_drew (S := (fun W => W.heap[sb]? = some (.map (stepE 5) 5) ∧ W.cell? ⟨db, 129, none⟩ = some (.map (some sb)) ∧ W.cell? ⟨db, 38, none⟩ = some (.int .i64 2))) (by kernel_rfl) ?_ (fun hHeld => ?_)
  · exact ⟨map_at HK.out.stp HOs.out id, HC129.out _ HOs.out, HC0.out _ HOs.out⟩
  refine wpAnyH_take (i := 0) (oi := { dst := some 32, op := Op.move (Operand.tmp 0), type := 34, pos := "disk.go:195", after := #[], guard := none }) (v := ?_) rfl (by kernel_rfl) (by kernel_rfl) (by kernel_rfl) (fun _ _ _ h => h) (Or.inl ⟨by rfl, ?_⟩) (by assumption) ?_
  rotate_left
  · (intro w hSw; (try dsimp only at hSw); (try obtain ⟨hSa, hSb⟩ := hSw); go_simp; try with_reducible rfl)
  try simp only [Act.put, List.setIfInBounds_toArray, List.set_cons_zero, List.set_cons_succ]
  refine wpAnyH_take (i := 4) (oi := { dst := some 36, op := Op.move (Operand.tmp 5), type := 83, pos := "disk.go:195", after := #[], guard := none }) (v := ?_) rfl (by kernel_rfl) (by kernel_rfl) (by kernel_rfl) (fun _ _ _ h => h) (Or.inl ⟨by rfl, ?_⟩) (by assumption) ?_
  rotate_left
  · (intro w hSw; (try dsimp only at hSw); (try obtain ⟨hSa, hSb⟩ := hSw); go_simp; try with_reducible rfl)
  try simp only [Act.put, List.setIfInBounds_toArray, List.set_cons_zero, List.set_cons_succ]
  refine wpAnyH_take (i := 10) (oi := { dst := some 42, op := Op.move (Operand.tmp 0), type := 34, pos := "disk.go:195", after := #[], guard := none }) (v := ?_) rfl (by kernel_rfl) (by kernel_rfl) (by kernel_rfl) (fun _ _ _ h => h) (Or.inl ⟨by rfl, ?_⟩) (by assumption) ?_
  rotate_left
  · (intro w hSw; (try dsimp only at hSw); (try obtain ⟨hSa, hSb⟩ := hSw); go_simp; try with_reducible rfl)
  try simp only [Act.put, List.setIfInBounds_toArray, List.set_cons_zero, List.set_cons_succ]
  refine wpAnyH_take (i := 11) (oi := { dst := some 43, op := Op.move (Operand.tmp 5), type := 83, pos := "disk.go:195", after := #[], guard := none }) (v := ?_) rfl (by kernel_rfl) (by kernel_rfl) (by kernel_rfl) (fun _ _ _ h => h) (Or.inl ⟨by rfl, ?_⟩) (by assumption) ?_
  rotate_left
  · (intro w hSw; (try dsimp only at hSw); (try obtain ⟨hSa, hSb⟩ := hSw); go_simp; try with_reducible rfl)
  try simp only [Act.put, List.setIfInBounds_toArray, List.set_cons_zero, List.set_cons_succ]
  refine wpAnyH_take (i := 1) (oi := { dst := some 33, op := Op.nilCheck (Operand.tmp 32), type := 0, pos := "disk.go:195", after := #[{ on := 0, ground := Ground.data }], guard := none }) (v := ?_) rfl (by kernel_rfl) (by kernel_rfl) (by kernel_rfl) (fun _ _ _ h => h) (Or.inl ⟨by rfl, ?_⟩) (by assumption) ?_
  rotate_left
  · (intro w hSw; (try dsimp only at hSw); (try obtain ⟨hSa, hSb⟩ := hSw); go_simp; try with_reducible rfl)
  try simp only [Act.put, List.setIfInBounds_toArray, List.set_cons_zero, List.set_cons_succ]
  refine wpAnyH_take (i := 5) (oi := { dst := some 37, op := Op.nilCheck (Operand.tmp 36), type := 0, pos := "disk.go:195", after := #[{ on := 4, ground := Ground.data }], guard := none }) (v := ?_) rfl (by kernel_rfl) (by kernel_rfl) (by kernel_rfl) (fun _ _ _ h => h) (Or.inl ⟨by rfl, ?_⟩) (by assumption) ?_
  rotate_left
  · (intro w hSw; (try dsimp only at hSw); (try obtain ⟨hSa, hSb⟩ := hSw); go_simp; try with_reducible rfl)
  try simp only [Act.put, List.setIfInBounds_toArray, List.set_cons_zero, List.set_cons_succ]
  refine wpAnyH_take (i := 2) (oi := { dst := some 34, op := Op.fieldAddr 81 (Operand.tmp 33) 8, type := 0, pos := "disk.go:195", after := #[{ on := 1, ground := Ground.data }], guard := none }) (v := ?_) rfl (by kernel_rfl) (by kernel_rfl) (by kernel_rfl) (fun _ _ _ h => h) (Or.inl ⟨by rfl, ?_⟩) (by assumption) ?_
  rotate_left
  · (intro w hSw; (try dsimp only at hSw); (try obtain ⟨hSa, hSb⟩ := hSw); go_simp; try with_reducible rfl)
  try simp only [Act.put, List.setIfInBounds_toArray, List.set_cons_zero, List.set_cons_succ]
  refine wpAnyH_take (i := 6) (oi := { dst := some 38, op := Op.fieldAddr 74 (Operand.tmp 37) 0, type := 0, pos := "disk.go:195", after := #[{ on := 5, ground := Ground.data }], guard := none }) (v := ?_) rfl (by kernel_rfl) (by kernel_rfl) (by kernel_rfl) (fun _ _ _ h => h) (Or.inl ⟨by rfl, ?_⟩) (by assumption) ?_
  rotate_left
  · (intro w hSw; (try dsimp only at hSw); (try obtain ⟨hSa, hSb⟩ := hSw); go_simp; try with_reducible rfl)
  try simp only [Act.put, List.setIfInBounds_toArray, List.set_cons_zero, List.set_cons_succ]
  refine wpAnyH_take (i := 3) (oi := { dst := some 35, op := Op.load 76 (Operand.tmp 34), type := 76, pos := "disk.go:195", after := #[{ on := 2, ground := Ground.data }], guard := none }) (v := ?_) rfl (by kernel_rfl) (by kernel_rfl) (by kernel_rfl) (fun _ _ _ h => h) (Or.inl ⟨by rfl, ?_⟩) (by assumption) ?_
  rotate_left
  · (intro w hSw; (try dsimp only at hSw); (try obtain ⟨hSa, hSb⟩ := hSw); go_simp; try with_reducible rfl)
  try simp only [Act.put, List.setIfInBounds_toArray, List.set_cons_zero, List.set_cons_succ]
  refine wpAnyH_take (i := 7) (oi := { dst := some 39, op := Op.fieldAddr 45 (Operand.tmp 38) 0, type := 0, pos := "disk.go:195", after := #[{ on := 6, ground := Ground.data }], guard := none }) (v := ?_) rfl (by kernel_rfl) (by kernel_rfl) (by kernel_rfl) (fun _ _ _ h => h) (Or.inl ⟨by rfl, ?_⟩) (by assumption) ?_
  rotate_left
  · (intro w hSw; (try dsimp only at hSw); (try obtain ⟨hSa, hSb⟩ := hSw); go_simp; try with_reducible rfl)
  try simp only [Act.put, List.setIfInBounds_toArray, List.set_cons_zero, List.set_cons_succ]
  refine wpAnyH_take (i := 8) (oi := { dst := some 40, op := Op.load 3 (Operand.tmp 39), type := 3, pos := "disk.go:195", after := #[{ on := 7, ground := Ground.data }], guard := none }) (v := ?_) rfl (by kernel_rfl) (by kernel_rfl) (by kernel_rfl) (fun _ _ _ h => h) (Or.inl ⟨by rfl, ?_⟩) (by assumption) ?_
  rotate_left
  · (intro w hSw; (try dsimp only at hSw); (try obtain ⟨hSa, hSb⟩ := hSw); go_simp; try with_reducible rfl)
  try simp only [Act.put, List.setIfInBounds_toArray, List.set_cons_zero, List.set_cons_succ]
  refine wpAnyH_take (i := 9) (oi := { dst := some 41, op := Op.lookup 76 (Operand.tmp 35) (Operand.tmp 40) false, type := 87, pos := "disk.go:195", after := #[{ on := 3, ground := Ground.data }, { on := 8, ground := Ground.data }], guard := none }) (v := ?_) rfl (by kernel_rfl) (by kernel_rfl) (by kernel_rfl) (fun _ _ _ h => h) (Or.inl ⟨by rfl, ?_⟩) (by assumption) ?_
  rotate_left
  · (intro w hSw; (try dsimp only at hSw); (try obtain ⟨hSa, hSb⟩ := hSw); go_simp; try with_reducible rfl)
  try simp only [Act.put, List.setIfInBounds_toArray, List.set_cons_zero, List.set_cons_succ]
  refine wpAnyH_ready (rs := [12]) (by kernel_rfl) (by simp) ?_
  refine AllReadyH.cons (o := { dst := some 44, op := Op.call { callee := Callee.value (Operand.tmp 41), args := #[Operand.tmp 42, Operand.tmp 43], argTypes := #[34, 83] }, type := 0, pos := "disk.go:195", after := #[{ on := 9, ground := Ground.data }, { on := 10, ground := Ground.data }, { on := 11, ground := Ground.data }], guard := none }) rfl (fun K hK => ?_) AllReadyH.nil
  go_simp
  refine (HC.out _ HOs.out).mono ?_
  rintro e ww ⟨rfl, cs2, h2, t2, r2, hO⟩
  have H2 := Lib.hid h2
  have T2 := Lib.hid t2
  have R2 := Lib.hid r2
  have O2 := Lib.hid ((HOs.out.mono (T := fun i => i = db) (fun _ _ h => h.elim)).trans hO)
  have c131 := (h2.cell 131).trans ((r2.2 131 (by omega)).trans HOFF.out)
  clear hO
  try clear hO
  try simp only []
  refine hK.out _ _ ?_ (fun hHeld => ?_)
  · exact ⟨map_at HK.out.stp O2.out HNE.out, (h2.cell 129).trans ((r2.2 129 (by omega)).trans HK.out.ok.st), (h2.cell (38 + 0)).trans (t2 0 (by omega))⟩
  clear hK K
  try simp only [Act.put, List.setIfInBounds_toArray, List.set_cons_zero, List.set_cons_succ]
  refine wpAnyH_done (by kernel_rfl) ?_ _
  go_wp2
  go_ret
  exact ⟨rfl, cs2, H2.out, T2.out, R2.out, O2.out⟩

set_option maxRecDepth 100000 in
set_option maxHeartbeats 8000000 in
theorem step3 (db mb kt kw vb lb off c gb rb sb lo : Nat) (st sw : Nat → Sh) (G : Ge) (s : Sg) (l : List Ln) (cs : Array Value) (i : Nat) (hi : i < s.n.toNat) (hn : s.n ≤ 4096) (a3 a6 a9 a10 a11 a12 : Value) (ht : Thr cs 51 [.int .i64 1, .int .i64 i, .int .i64 1, a3, .bool true, .bool false, a6, .int .i64 0, .slice none 0 0, a9, a10, a11, a12]) (w : World) (k : DAt w db G s l cs mb kt kw vb st sw lb off c gb rb sb lo) :
    Calls Tryz.prog 13 #[.pointer (some ⟨db, 0, none⟩), .int .i64 3] w fun e w' => e = .returned (.int .i64 0) ∧ ∃ cs' A c' g, At w' db 81 cs' ∧ Thr cs' 51 [.int .i64 1, .int .i64 i, .int .i64 1, a3, .bool false, .bool false, a6, .int .i64 1, .slice A 16 c', .bool true, .int .i64 0, .int .i64 1, .slice A 16 c'] ∧ Far 51 cs cs' ∧ w.heap.size ≤ g ∧ Rd w' g A z16 ∧ Only (fun i => i = db) w w' := by
  have HA := Lib.hid (fun W (k' : DAt W db G s l cs mb kt kw vb st sw lb off c gb rb sb lo) => actors_any db mb kt kw vb lb off c gb rb sb lo st sw G s l cs W k')
  have HM := Lib.hid (may3 db mb kt kw vb lb off c gb rb sb lo st sw G s l cs (.int .i64 i) (.int .i64 1) a3 a6 (.int .i64 0) (.slice none 0 0) a9 a10 a11 a12 ht w k)
  have HC := Lib.hid (fun W (o : Only (fun _ => False) w W) => read_nothing db mb kt kw vb lb off c gb rb sb lo st sw G s l cs 51 i (by omega) (by omega) hi hn a3 (.bool true) (.bool false) a6 a9 a10 a11 a12 ht W (k.quiet o))
  unfold ReadP at HC
  have HK := Lib.hid k
  have HNE := Lib.hid (show ¬ sb = db from fun e => by have h1 := k.at'; have h2 := k.stp; unfold At at h1; rw [e, h1] at h2; cases h2)
  have c131 := (k.cell 131).trans k.ok.off
  have hc := k.map.is.c
  have d1 : decide (8 + G.c + 1 < 3) = false := decide_eq_false (by omega)
  have HOFF := Lib.hid k.ok.off
  have HC129 := Lib.hid (fun W (o : Only (fun _ => False) w W) => ((k.quiet o).cell 129).trans k.ok.st)
  have HC0 := Lib.hid (fun W (o : Only (fun _ => False) w W) => ((k.quiet o).cell (51 + 0)).trans (ht 0 (by omega)))
  have hlk := fun W (hb : W.heap[sb]? = some (.map (stepE 5) 5)) => look_step (W := W) (sb := sb) (z := 1) (i := 0) hb (by rfl)
  have HA0 := Lib.hid (actors_any db mb kt kw vb lb off c gb rb sb lo st sw G s l cs w k)
  clear k ht
  generalize G.c = gc at *
  go_enter Tryz.func13, Tryz.ntmps13
  go_wp2_with (fail)
  refine HA0.out.mono ?_
  rintro e w0 ⟨rfl, rfl⟩
  go_wp2_with (fail)
  refine HM.out.mono ?_
  rintro e w1 ⟨rfl, hO⟩
  have HO := Lib.hid hO
  clear hO
  clear c131
  go_upto_region 10 with (fail)
  have HOs := Lib.hid (HO.out.trans (Only.refl (fun _ => False) w1).drew)
  refine wp_region_held_drew (S := (fun W => W.heap[sb]? = some (.map (stepE 5) 5) ∧ W.cell? ⟨db, 129, none⟩ = some (.map (some sb)) ∧ W.cell? ⟨db, 51, none⟩ = some (.int .i64 1))) (by kernel_rfl) ?_ (fun hHeld => ?_)
  · exact ⟨map_at HK.out.stp HOs.out id, HC129.out _ HOs.out, HC0.out _ HOs.out⟩
  refine wpAnyH_take (i := 0) (oi := { dst := some 32, op := Op.move (Operand.tmp 0), type := 34, pos := "disk.go:195", after := #[], guard := none }) (v := ?_) rfl (by kernel_rfl) (by kernel_rfl) (by kernel_rfl) (fun _ _ _ h => h) (Or.inl ⟨by rfl, ?_⟩) (by assumption) ?_
  rotate_left
  · (intro w hSw; (try dsimp only at hSw); (try obtain ⟨hSa, hSb⟩ := hSw); go_simp; try with_reducible rfl)
  try simp only [Act.put, List.setIfInBounds_toArray, List.set_cons_zero, List.set_cons_succ]
  refine wpAnyH_take (i := 4) (oi := { dst := some 36, op := Op.move (Operand.tmp 5), type := 83, pos := "disk.go:195", after := #[], guard := none }) (v := ?_) rfl (by kernel_rfl) (by kernel_rfl) (by kernel_rfl) (fun _ _ _ h => h) (Or.inl ⟨by rfl, ?_⟩) (by assumption) ?_
  rotate_left
  · (intro w hSw; (try dsimp only at hSw); (try obtain ⟨hSa, hSb⟩ := hSw); go_simp; try with_reducible rfl)
  try simp only [Act.put, List.setIfInBounds_toArray, List.set_cons_zero, List.set_cons_succ]
  refine wpAnyH_take (i := 10) (oi := { dst := some 42, op := Op.move (Operand.tmp 0), type := 34, pos := "disk.go:195", after := #[], guard := none }) (v := ?_) rfl (by kernel_rfl) (by kernel_rfl) (by kernel_rfl) (fun _ _ _ h => h) (Or.inl ⟨by rfl, ?_⟩) (by assumption) ?_
  rotate_left
  · (intro w hSw; (try dsimp only at hSw); (try obtain ⟨hSa, hSb⟩ := hSw); go_simp; try with_reducible rfl)
  try simp only [Act.put, List.setIfInBounds_toArray, List.set_cons_zero, List.set_cons_succ]
  refine wpAnyH_take (i := 11) (oi := { dst := some 43, op := Op.move (Operand.tmp 5), type := 83, pos := "disk.go:195", after := #[], guard := none }) (v := ?_) rfl (by kernel_rfl) (by kernel_rfl) (by kernel_rfl) (fun _ _ _ h => h) (Or.inl ⟨by rfl, ?_⟩) (by assumption) ?_
  rotate_left
  · (intro w hSw; (try dsimp only at hSw); (try obtain ⟨hSa, hSb⟩ := hSw); go_simp; try with_reducible rfl)
  try simp only [Act.put, List.setIfInBounds_toArray, List.set_cons_zero, List.set_cons_succ]
  refine wpAnyH_take (i := 1) (oi := { dst := some 33, op := Op.nilCheck (Operand.tmp 32), type := 0, pos := "disk.go:195", after := #[{ on := 0, ground := Ground.data }], guard := none }) (v := ?_) rfl (by kernel_rfl) (by kernel_rfl) (by kernel_rfl) (fun _ _ _ h => h) (Or.inl ⟨by rfl, ?_⟩) (by assumption) ?_
  rotate_left
  · (intro w hSw; (try dsimp only at hSw); (try obtain ⟨hSa, hSb⟩ := hSw); go_simp; try with_reducible rfl)
  try simp only [Act.put, List.setIfInBounds_toArray, List.set_cons_zero, List.set_cons_succ]
  refine wpAnyH_take (i := 5) (oi := { dst := some 37, op := Op.nilCheck (Operand.tmp 36), type := 0, pos := "disk.go:195", after := #[{ on := 4, ground := Ground.data }], guard := none }) (v := ?_) rfl (by kernel_rfl) (by kernel_rfl) (by kernel_rfl) (fun _ _ _ h => h) (Or.inl ⟨by rfl, ?_⟩) (by assumption) ?_
  rotate_left
  · (intro w hSw; (try dsimp only at hSw); (try obtain ⟨hSa, hSb⟩ := hSw); go_simp; try with_reducible rfl)
  try simp only [Act.put, List.setIfInBounds_toArray, List.set_cons_zero, List.set_cons_succ]
  refine wpAnyH_take (i := 2) (oi := { dst := some 34, op := Op.fieldAddr 81 (Operand.tmp 33) 8, type := 0, pos := "disk.go:195", after := #[{ on := 1, ground := Ground.data }], guard := none }) (v := ?_) rfl (by kernel_rfl) (by kernel_rfl) (by kernel_rfl) (fun _ _ _ h => h) (Or.inl ⟨by rfl, ?_⟩) (by assumption) ?_
  rotate_left
  · (intro w hSw; (try dsimp only at hSw); (try obtain ⟨hSa, hSb⟩ := hSw); go_simp; try with_reducible rfl)
  try simp only [Act.put, List.setIfInBounds_toArray, List.set_cons_zero, List.set_cons_succ]
  refine wpAnyH_take (i := 6) (oi := { dst := some 38, op := Op.fieldAddr 74 (Operand.tmp 37) 0, type := 0, pos := "disk.go:195", after := #[{ on := 5, ground := Ground.data }], guard := none }) (v := ?_) rfl (by kernel_rfl) (by kernel_rfl) (by kernel_rfl) (fun _ _ _ h => h) (Or.inl ⟨by rfl, ?_⟩) (by assumption) ?_
  rotate_left
  · (intro w hSw; (try dsimp only at hSw); (try obtain ⟨hSa, hSb⟩ := hSw); go_simp; try with_reducible rfl)
  try simp only [Act.put, List.setIfInBounds_toArray, List.set_cons_zero, List.set_cons_succ]
  refine wpAnyH_take (i := 3) (oi := { dst := some 35, op := Op.load 76 (Operand.tmp 34), type := 76, pos := "disk.go:195", after := #[{ on := 2, ground := Ground.data }], guard := none }) (v := ?_) rfl (by kernel_rfl) (by kernel_rfl) (by kernel_rfl) (fun _ _ _ h => h) (Or.inl ⟨by rfl, ?_⟩) (by assumption) ?_
  rotate_left
  · (intro w hSw; (try dsimp only at hSw); (try obtain ⟨hSa, hSb⟩ := hSw); go_simp; try with_reducible rfl)
  try simp only [Act.put, List.setIfInBounds_toArray, List.set_cons_zero, List.set_cons_succ]
  refine wpAnyH_take (i := 7) (oi := { dst := some 39, op := Op.fieldAddr 45 (Operand.tmp 38) 0, type := 0, pos := "disk.go:195", after := #[{ on := 6, ground := Ground.data }], guard := none }) (v := ?_) rfl (by kernel_rfl) (by kernel_rfl) (by kernel_rfl) (fun _ _ _ h => h) (Or.inl ⟨by rfl, ?_⟩) (by assumption) ?_
  rotate_left
  · (intro w hSw; (try dsimp only at hSw); (try obtain ⟨hSa, hSb⟩ := hSw); go_simp; try with_reducible rfl)
  try simp only [Act.put, List.setIfInBounds_toArray, List.set_cons_zero, List.set_cons_succ]
  refine wpAnyH_take (i := 8) (oi := { dst := some 40, op := Op.load 3 (Operand.tmp 39), type := 3, pos := "disk.go:195", after := #[{ on := 7, ground := Ground.data }], guard := none }) (v := ?_) rfl (by kernel_rfl) (by kernel_rfl) (by kernel_rfl) (fun _ _ _ h => h) (Or.inl ⟨by rfl, ?_⟩) (by assumption) ?_
  rotate_left
  · (intro w hSw; (try dsimp only at hSw); (try obtain ⟨hSa, hSb⟩ := hSw); go_simp; try with_reducible rfl)
  try simp only [Act.put, List.setIfInBounds_toArray, List.set_cons_zero, List.set_cons_succ]
  refine wpAnyH_take (i := 9) (oi := { dst := some 41, op := Op.lookup 76 (Operand.tmp 35) (Operand.tmp 40) false, type := 87, pos := "disk.go:195", after := #[{ on := 3, ground := Ground.data }, { on := 8, ground := Ground.data }], guard := none }) (v := ?_) rfl (by kernel_rfl) (by kernel_rfl) (by kernel_rfl) (fun _ _ _ h => h) (Or.inl ⟨by rfl, ?_⟩) (by assumption) ?_
  rotate_left
  · (intro w hSw; (try dsimp only at hSw); (try obtain ⟨hSa, hSb⟩ := hSw); go_simp; try with_reducible rfl)
  try simp only [Act.put, List.setIfInBounds_toArray, List.set_cons_zero, List.set_cons_succ]
  refine wpAnyH_ready (rs := [12]) (by kernel_rfl) (by simp) ?_
  refine AllReadyH.cons (o := { dst := some 44, op := Op.call { callee := Callee.value (Operand.tmp 41), args := #[Operand.tmp 42, Operand.tmp 43], argTypes := #[34, 83] }, type := 0, pos := "disk.go:195", after := #[{ on := 9, ground := Ground.data }, { on := 10, ground := Ground.data }, { on := 11, ground := Ground.data }], guard := none }) rfl (fun K hK => ?_) AllReadyH.nil
  go_simp
  refine (HC.out _ HOs.out).mono ?_
  rintro e ww ⟨rfl, cs2, A, c', g, h2, t2, r2, hgl, hrd, hO⟩
  have H2 := Lib.hid h2
  have T2 := Lib.hid t2
  have R2 := Lib.hid r2
  have HGL := Lib.hid (Nat.le_trans HO.out.size hgl)
  have HRD := Lib.hid hrd
  have O2 := Lib.hid ((HOs.out.mono (T := fun i => i = db) (fun _ _ h => h.elim)).trans hO)
  have c131 := (h2.cell 131).trans ((r2.2 131 (by omega)).trans HOFF.out)
  clear hO
  try clear hO
  try simp only []
  refine hK.out _ _ ?_ (fun hHeld => ?_)
  · exact ⟨map_at HK.out.stp O2.out HNE.out, (h2.cell 129).trans ((r2.2 129 (by omega)).trans HK.out.ok.st), (h2.cell (51 + 0)).trans (t2 0 (by omega))⟩
  clear hK K
  try simp only [Act.put, List.setIfInBounds_toArray, List.set_cons_zero, List.set_cons_succ]
  refine wpAnyH_done (by kernel_rfl) ?_ _
  go_wp2
  go_ret
  exact ⟨rfl, cs2, A, c', g, H2.out, T2.out, R2.out, HGL.out, HRD.out, O2.out⟩

set_option maxRecDepth 100000 in
set_option maxHeartbeats 8000000 in
theorem step4 (db mb kt kw vb lb off c gb rb sb lo : Nat) (st sw : Nat → Sh) (G : Ge) (s : Sg) (l : List Ln) (cs : Array Value) (a1 a2 a3 a6 a9 a10 a11 a12 : Value) (dn : Int) (A : Option Addr) (n c' : Nat) (ht : Thr cs 64 [.int .i64 4, a1, a2, a3, .bool true, .bool false, a6, .int .i64 dn, .slice A n c', a9, a10, a11, a12]) (w : World) (k : DAt w db G s l cs mb kt kw vb st sw lb off c gb rb sb lo) :
    Calls Tryz.prog 13 #[.pointer (some ⟨db, 0, none⟩), .int .i64 4] w fun e w' => e = .returned (.int .i64 0) ∧ ∃ cs', At w' db 81 cs' ∧ Thr cs' 64 [.int .i64 4, a1, a2, a3, .bool false, .bool true, .int .i64 0, .int .i64 dn, .slice A n c', .bool true, .int .i64 0, .int .i64 dn, .slice A n c'] ∧ DOk cs' G s mb lb rb sb ∧ Only (fun i => i = db) w w' := by
  have HA := Lib.hid (fun W (k' : DAt W db G s l cs mb kt kw vb st sw lb off c gb rb sb lo) => actors_any db mb kt kw vb lb off c gb rb sb lo st sw G s l cs W k')
  have HM := Lib.hid (may4 db mb kt kw vb lb off c gb rb sb lo st sw G s l cs a1 a2 a3 a6 (.int .i64 dn) (.slice A n c') a9 a10 a11 a12 ht w k)
  have HC := Lib.hid (fun W (o : Only (fun _ => False) w W) => flush_done db mb kt kw vb lb off c gb rb sb lo st sw G s l cs 64 (by omega) (by omega) a1 a2 a3 (.bool true) a6 a9 a10 a11 a12 dn A n c' ht W (k.quiet o))
  have HK := Lib.hid k
  have HNE := Lib.hid (show ¬ sb = db from fun e => by have h1 := k.at'; have h2 := k.stp; unfold At at h1; rw [e, h1] at h2; cases h2)
  have c131 := (k.cell 131).trans k.ok.off
  have hc := k.map.is.c
  have d1 : decide (8 + G.c + 1 < 4) = false := decide_eq_false (by omega)
  have HOFF := Lib.hid k.ok.off
  have HC129 := Lib.hid (fun W (o : Only (fun _ => False) w W) => ((k.quiet o).cell 129).trans k.ok.st)
  have HC0 := Lib.hid (fun W (o : Only (fun _ => False) w W) => ((k.quiet o).cell (64 + 0)).trans (ht 0 (by omega)))
  have hlk := fun W (hb : W.heap[sb]? = some (.map (stepE 5) 5)) => look_step (W := W) (sb := sb) (z := 4) (i := 3) hb (by rfl)
  have HA0 := Lib.hid (actors_any db mb kt kw vb lb off c gb rb sb lo st sw G s l cs w k)
  clear k ht
  generalize G.c = gc at *
  go_enter Tryz.func13, Tryz.ntmps13
  go_wp2_with (fail)
  refine HA0.out.mono ?_
  rintro e w0 ⟨rfl, rfl⟩
  go_wp2_with (fail)
  refine HM.out.mono ?_
  rintro e w1 ⟨rfl, hO⟩
  have HO := Lib.hid hO
  clear hO
  clear c131
  go_upto_region 10 with (fail)
  have HOs := Lib.hid (HO.out.trans (Only.refl (fun _ => False) w1).drew)
  refine wp_region_held_drew (S := (fun W => W.heap[sb]? = some (.map (stepE 5) 5) ∧ W.cell? ⟨db, 129, none⟩ = some (.map (some sb)) ∧ W.cell? ⟨db, 64, none⟩ = some (.int .i64 4))) (by kernel_rfl) ?_ (fun hHeld => ?_)
  · exact ⟨map_at HK.out.stp HOs.out id, HC129.out _ HOs.out, HC0.out _ HOs.out⟩
  refine wpAnyH_take (i := 0) (oi := { dst := some 32, op := Op.move (Operand.tmp 0), type := 34, pos := "disk.go:195", after := #[], guard := none }) (v := ?_) rfl (by kernel_rfl) (by kernel_rfl) (by kernel_rfl) (fun _ _ _ h => h) (Or.inl ⟨by rfl, ?_⟩) (by assumption) ?_
  rotate_left
  · (intro w hSw; (try dsimp only at hSw); (try obtain ⟨hSa, hSb⟩ := hSw); go_simp; try with_reducible rfl)
  try simp only [Act.put, List.setIfInBounds_toArray, List.set_cons_zero, List.set_cons_succ]
  refine wpAnyH_take (i := 4) (oi := { dst := some 36, op := Op.move (Operand.tmp 5), type := 83, pos := "disk.go:195", after := #[], guard := none }) (v := ?_) rfl (by kernel_rfl) (by kernel_rfl) (by kernel_rfl) (fun _ _ _ h => h) (Or.inl ⟨by rfl, ?_⟩) (by assumption) ?_
  rotate_left
  · (intro w hSw; (try dsimp only at hSw); (try obtain ⟨hSa, hSb⟩ := hSw); go_simp; try with_reducible rfl)
  try simp only [Act.put, List.setIfInBounds_toArray, List.set_cons_zero, List.set_cons_succ]
  refine wpAnyH_take (i := 10) (oi := { dst := some 42, op := Op.move (Operand.tmp 0), type := 34, pos := "disk.go:195", after := #[], guard := none }) (v := ?_) rfl (by kernel_rfl) (by kernel_rfl) (by kernel_rfl) (fun _ _ _ h => h) (Or.inl ⟨by rfl, ?_⟩) (by assumption) ?_
  rotate_left
  · (intro w hSw; (try dsimp only at hSw); (try obtain ⟨hSa, hSb⟩ := hSw); go_simp; try with_reducible rfl)
  try simp only [Act.put, List.setIfInBounds_toArray, List.set_cons_zero, List.set_cons_succ]
  refine wpAnyH_take (i := 11) (oi := { dst := some 43, op := Op.move (Operand.tmp 5), type := 83, pos := "disk.go:195", after := #[], guard := none }) (v := ?_) rfl (by kernel_rfl) (by kernel_rfl) (by kernel_rfl) (fun _ _ _ h => h) (Or.inl ⟨by rfl, ?_⟩) (by assumption) ?_
  rotate_left
  · (intro w hSw; (try dsimp only at hSw); (try obtain ⟨hSa, hSb⟩ := hSw); go_simp; try with_reducible rfl)
  try simp only [Act.put, List.setIfInBounds_toArray, List.set_cons_zero, List.set_cons_succ]
  refine wpAnyH_take (i := 1) (oi := { dst := some 33, op := Op.nilCheck (Operand.tmp 32), type := 0, pos := "disk.go:195", after := #[{ on := 0, ground := Ground.data }], guard := none }) (v := ?_) rfl (by kernel_rfl) (by kernel_rfl) (by kernel_rfl) (fun _ _ _ h => h) (Or.inl ⟨by rfl, ?_⟩) (by assumption) ?_
  rotate_left
  · (intro w hSw; (try dsimp only at hSw); (try obtain ⟨hSa, hSb⟩ := hSw); go_simp; try with_reducible rfl)
  try simp only [Act.put, List.setIfInBounds_toArray, List.set_cons_zero, List.set_cons_succ]
  refine wpAnyH_take (i := 5) (oi := { dst := some 37, op := Op.nilCheck (Operand.tmp 36), type := 0, pos := "disk.go:195", after := #[{ on := 4, ground := Ground.data }], guard := none }) (v := ?_) rfl (by kernel_rfl) (by kernel_rfl) (by kernel_rfl) (fun _ _ _ h => h) (Or.inl ⟨by rfl, ?_⟩) (by assumption) ?_
  rotate_left
  · (intro w hSw; (try dsimp only at hSw); (try obtain ⟨hSa, hSb⟩ := hSw); go_simp; try with_reducible rfl)
  try simp only [Act.put, List.setIfInBounds_toArray, List.set_cons_zero, List.set_cons_succ]
  refine wpAnyH_take (i := 2) (oi := { dst := some 34, op := Op.fieldAddr 81 (Operand.tmp 33) 8, type := 0, pos := "disk.go:195", after := #[{ on := 1, ground := Ground.data }], guard := none }) (v := ?_) rfl (by kernel_rfl) (by kernel_rfl) (by kernel_rfl) (fun _ _ _ h => h) (Or.inl ⟨by rfl, ?_⟩) (by assumption) ?_
  rotate_left
  · (intro w hSw; (try dsimp only at hSw); (try obtain ⟨hSa, hSb⟩ := hSw); go_simp; try with_reducible rfl)
  try simp only [Act.put, List.setIfInBounds_toArray, List.set_cons_zero, List.set_cons_succ]
  refine wpAnyH_take (i := 6) (oi := { dst := some 38, op := Op.fieldAddr 74 (Operand.tmp 37) 0, type := 0, pos := "disk.go:195", after := #[{ on := 5, ground := Ground.data }], guard := none }) (v := ?_) rfl (by kernel_rfl) (by kernel_rfl) (by kernel_rfl) (fun _ _ _ h => h) (Or.inl ⟨by rfl, ?_⟩) (by assumption) ?_
  rotate_left
  · (intro w hSw; (try dsimp only at hSw); (try obtain ⟨hSa, hSb⟩ := hSw); go_simp; try with_reducible rfl)
  try simp only [Act.put, List.setIfInBounds_toArray, List.set_cons_zero, List.set_cons_succ]
  refine wpAnyH_take (i := 3) (oi := { dst := some 35, op := Op.load 76 (Operand.tmp 34), type := 76, pos := "disk.go:195", after := #[{ on := 2, ground := Ground.data }], guard := none }) (v := ?_) rfl (by kernel_rfl) (by kernel_rfl) (by kernel_rfl) (fun _ _ _ h => h) (Or.inl ⟨by rfl, ?_⟩) (by assumption) ?_
  rotate_left
  · (intro w hSw; (try dsimp only at hSw); (try obtain ⟨hSa, hSb⟩ := hSw); go_simp; try with_reducible rfl)
  try simp only [Act.put, List.setIfInBounds_toArray, List.set_cons_zero, List.set_cons_succ]
  refine wpAnyH_take (i := 7) (oi := { dst := some 39, op := Op.fieldAddr 45 (Operand.tmp 38) 0, type := 0, pos := "disk.go:195", after := #[{ on := 6, ground := Ground.data }], guard := none }) (v := ?_) rfl (by kernel_rfl) (by kernel_rfl) (by kernel_rfl) (fun _ _ _ h => h) (Or.inl ⟨by rfl, ?_⟩) (by assumption) ?_
  rotate_left
  · (intro w hSw; (try dsimp only at hSw); (try obtain ⟨hSa, hSb⟩ := hSw); go_simp; try with_reducible rfl)
  try simp only [Act.put, List.setIfInBounds_toArray, List.set_cons_zero, List.set_cons_succ]
  refine wpAnyH_take (i := 8) (oi := { dst := some 40, op := Op.load 3 (Operand.tmp 39), type := 3, pos := "disk.go:195", after := #[{ on := 7, ground := Ground.data }], guard := none }) (v := ?_) rfl (by kernel_rfl) (by kernel_rfl) (by kernel_rfl) (fun _ _ _ h => h) (Or.inl ⟨by rfl, ?_⟩) (by assumption) ?_
  rotate_left
  · (intro w hSw; (try dsimp only at hSw); (try obtain ⟨hSa, hSb⟩ := hSw); go_simp; try with_reducible rfl)
  try simp only [Act.put, List.setIfInBounds_toArray, List.set_cons_zero, List.set_cons_succ]
  refine wpAnyH_take (i := 9) (oi := { dst := some 41, op := Op.lookup 76 (Operand.tmp 35) (Operand.tmp 40) false, type := 87, pos := "disk.go:195", after := #[{ on := 3, ground := Ground.data }, { on := 8, ground := Ground.data }], guard := none }) (v := ?_) rfl (by kernel_rfl) (by kernel_rfl) (by kernel_rfl) (fun _ _ _ h => h) (Or.inl ⟨by rfl, ?_⟩) (by assumption) ?_
  rotate_left
  · (intro w hSw; (try dsimp only at hSw); (try obtain ⟨hSa, hSb⟩ := hSw); go_simp; try with_reducible rfl)
  try simp only [Act.put, List.setIfInBounds_toArray, List.set_cons_zero, List.set_cons_succ]
  refine wpAnyH_ready (rs := [12]) (by kernel_rfl) (by simp) ?_
  refine AllReadyH.cons (o := { dst := some 44, op := Op.call { callee := Callee.value (Operand.tmp 41), args := #[Operand.tmp 42, Operand.tmp 43], argTypes := #[34, 83] }, type := 0, pos := "disk.go:195", after := #[{ on := 9, ground := Ground.data }, { on := 10, ground := Ground.data }, { on := 11, ground := Ground.data }], guard := none }) rfl (fun K hK => ?_) AllReadyH.nil
  go_simp
  refine (HC.out _ HOs.out).mono ?_
  rintro e ww ⟨rfl, cs2, h2, t2, r2, hO⟩
  have H2 := Lib.hid h2
  have T2 := Lib.hid t2
  have R2 := Lib.hid r2
  have O2 := Lib.hid ((HOs.out.mono (T := fun i => i = db) (fun _ _ h => h.elim)).trans hO)
  have c131 := (h2.cell 131).trans r2.off
  clear hO
  try clear hO
  try simp only []
  refine hK.out _ _ ?_ (fun hHeld => ?_)
  · exact ⟨map_at HK.out.stp O2.out HNE.out, (h2.cell 129).trans (r2.st), (h2.cell (64 + 0)).trans (t2 0 (by omega))⟩
  clear hK K
  try simp only [Act.put, List.setIfInBounds_toArray, List.set_cons_zero, List.set_cons_succ]
  refine wpAnyH_done (by kernel_rfl) ?_ _
  go_wp2
  go_ret
  exact ⟨rfl, cs2, H2.out, T2.out, R2.out, O2.out⟩

end Go.Proofs.YtjobaplioidogaaGreat
