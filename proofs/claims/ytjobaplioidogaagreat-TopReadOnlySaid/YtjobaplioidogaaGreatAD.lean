/- Top: what a sector has; a call's write, flush over a disk that is read only. -/
import Derived.Test.YtjobaplioidogaaGreatAC
namespace Go.Proofs.YtjobaplioidogaaGreat
open Go.RowKit

set_option maxRecDepth 100000 in
theorem make_bytes (W : World) : (Instr.makeSlice 27 (.int .i64 16) (.int .i64 16)).run Tryz.prog W = .ok (.slice (some ⟨W.heap.size, 0, none⟩) 16 16) (W.alloc (.cells (zeros (.int .u8 0) 16) 5)) := by
  obtain ⟨i0, hi⟩ : ∃ i, Tryz.prog.info? 5 = some i := ⟨_, rfl⟩
  have h1 : i0.zero = some (.int .u8 0) := by cases hi; rfl
  have h2 : i0.size = 1 := by cases hi; rfl
  have h3 : i0.bytes = 1 := by cases hi; rfl
  exact run_make_one Tryz.underlying27 hi h1 rfl h2 16 (by rw [h3]; omega) (by omega) W

set_option maxRecDepth 100000 in
set_option maxHeartbeats 8000000 in
theorem value_none (db mb kt kw vb lb off c gb rb sb lo : Nat) (st sw : Nat → Sh) (G : Ge) (s : Sg) (l : List Ln) (cs : Array Value) (i : Nat) (hi : i < s.n.toNat) (hn : s.n ≤ 4096) (w : World) (k : DAt w db G s l cs mb kt kw vb st sw lb off c gb rb sb lo) :
    Calls Tryz.prog 114 #[.pointer (some ⟨db, 0, none⟩), .int .i64 i] w fun e w' => ∃ g, e = .returned (.tuple #[.slice (some ⟨g, 0, none⟩) 16 16, .int .i64 0]) ∧ At w' g 5 (zeros (.int .u8 0) 16) ∧ w.heap.size ≤ g ∧ Only (fun _ => False) w w' := by
  have hmk := make_bytes w
  have oa := (Only.refl (fun _ => False) w).alloc (.cells (zeros (.int .u8 0) 16) 5)
  have HN := Lib.hid (At.new w 5 (zeros (.int .u8 0) 16))
  have k1 := k.quiet oa
  have HO := Lib.hid oa
  have HF := Lib.hid (ringFind_none rb i _ k1.ring)
  have HG := Lib.hid (mapGet_any mb kt kw vb s.n.toNat i lo G st sw _ _ _ _ k1.map hi (by omega))
  have c10 := (k1.cell 10).trans k1.ok.rg
  have c8 := (k1.cell 8).trans k1.ok.m
  unfold En.val at HG
  simp only at HG
  clear k k1 oa
  go_enter Tryz.func114, Tryz.ntmps114
  go_wp2_with (fail)
  refine HF.out.mono ?_
  rintro e w1 ⟨rfl, rfl⟩
  clear hmk
  go_wp2_with (fail)
  refine HG.out.mono ?_
  rintro e w2 ⟨rfl, hO⟩
  have HN2 := Lib.hid ((HN.out.only hO id).alloc (.cells #[.int .i64 (-1), .int .i64 0, .int .i64 0] 163))
  have HO2 := Lib.hid ((HO.out.trans hO).alloc (.cells #[.int .i64 (-1), .int .i64 0, .int .i64 0] 163))
  clear hO HN HO c8 c10
  go_wp2
  go_ret2
  exact ⟨_, rfl, HN2.out, Nat.le_refl _, HO2.out⟩

set_option maxRecDepth 100000 in
set_option maxHeartbeats 8000000 in
theorem count_one (db tb : Nat) (cs : Array Value) (a0 a1 a3 a4 a5 a6 a9 a10 a11 a12 : Value) (A : Option Addr) (n c : Nat) (w : World) (h : At w db 81 cs) (hs : tb + 13 ≤ cs.size) (ht : Thr cs tb [a0, a1, .int .i64 1, a3, a4, a5, a6, .int .i64 0, .slice A n c, a9, a10, a11, a12]) :
    Calls Tryz.prog 115 #[.pointer (some ⟨db, 0, none⟩), .pointer (some ⟨db, tb, none⟩)] w (ThrP db tb cs [a0, a1, .int .i64 1, a3, .bool false, a5, a6, .int .i64 1, .slice A n c, .bool true, .int .i64 0, .int .i64 1, .slice A n c] w) := by
  have g7 := (h.cell (tb + 7)).trans (ht 7 (by omega))
  simp only [List.getElem?_cons_zero, List.getElem?_cons_succ] at g7
  have f7 := h.frozen (tb + 7)
  have h1 := h.set (tb + 7) (.int .i64 1)
  have t1 := ht.set rfl hs 7 (by omega) (.int .i64 1)
  have s1 : tb + 13 ≤ (cs.setIfInBounds (tb + 7) (.int .i64 1)).size := by rw [Array.size_setIfInBounds]; exact hs
  simp only [List.set_cons_zero, List.set_cons_succ] at t1
  have R1 := Lib.hid ((Far.refl tb cs).set 7 (by omega) (.int .i64 1))
  have O1 := Lib.hid ((Only.refl (fun i => i = db) w).setCell (p := ⟨db, tb + 7, none⟩) (fun _ => rfl) (.int .i64 1))
  have H1 := Lib.hid h1
  have T1 := Lib.hid t1
  have S1 := Lib.hid s1
  unfold ThrP
  clear h ht h1 t1 s1
  generalize (cs.setIfInBounds (tb + 7) (.int .i64 1)) = cs1 at *
  have HE := Lib.hid (end_any db tb cs1 a0 a1 (.int .i64 1) a3 a4 a5 a6 a9 a10 a11 a12 1 0 A n c _ H1.out.drew S1.out T1.out)
  unfold ThrP at HE
  go_enter Tryz.func115, Tryz.ntmps115
  go_upto_region 1 with (fail)
  clear g7 f7
  refine wp_region_held_drew (S := (fun W => W.cell? ⟨db, tb + 7, none⟩ = some (.int .i64 1) ∧ W.cell? ⟨db, tb + 2, none⟩ = some (.int .i64 1))) (by kernel_rfl) ?_ (fun hHeld => ?_)
  · exact ⟨(H1.out.cell (tb + 7)).trans (T1.out 7 (by omega)), (H1.out.cell (tb + 2)).trans (T1.out 2 (by omega))⟩
  refine wpAnyH_take (i := 0) (oi := { dst := some 11, op := Op.move (Operand.tmp 1), type := 83, pos := "disk.go:224", after := #[], guard := none }) (v := ?_) rfl (by kernel_rfl) (by kernel_rfl) (by kernel_rfl) (fun _ _ _ h => h) (Or.inl ⟨by rfl, ?_⟩) (by assumption) ?_
  rotate_left
  · (intro w hSw; (try dsimp only at hSw); (try obtain ⟨hSa, hSb⟩ := hSw); go_simp; try with_reducible rfl)
  try simp only [Act.put, List.setIfInBounds_toArray, List.set_cons_zero, List.set_cons_succ]
  refine wpAnyH_take (i := 4) (oi := { dst := some 15, op := Op.move (Operand.tmp 1), type := 83, pos := "disk.go:224", after := #[], guard := none }) (v := ?_) rfl (by kernel_rfl) (by kernel_rfl) (by kernel_rfl) (fun _ _ _ h => h) (Or.inl ⟨by rfl, ?_⟩) (by assumption) ?_
  rotate_left
  · (intro w hSw; (try dsimp only at hSw); (try obtain ⟨hSa, hSb⟩ := hSw); go_simp; try with_reducible rfl)
  try simp only [Act.put, List.setIfInBounds_toArray, List.set_cons_zero, List.set_cons_succ]
  refine wpAnyH_take (i := 1) (oi := { dst := some 12, op := Op.nilCheck (Operand.tmp 11), type := 0, pos := "disk.go:224", after := #[{ on := 0, ground := Ground.data }], guard := none }) (v := ?_) rfl (by kernel_rfl) (by kernel_rfl) (by kernel_rfl) (fun _ _ _ h => h) (Or.inl ⟨by rfl, ?_⟩) (by assumption) ?_
  rotate_left
  · (intro w hSw; (try dsimp only at hSw); (try obtain ⟨hSa, hSb⟩ := hSw); go_simp; try with_reducible rfl)
  try simp only [Act.put, List.setIfInBounds_toArray, List.set_cons_zero, List.set_cons_succ]
  refine wpAnyH_take (i := 5) (oi := { dst := some 16, op := Op.nilCheck (Operand.tmp 15), type := 0, pos := "disk.go:224", after := #[{ on := 4, ground := Ground.data }], guard := none }) (v := ?_) rfl (by kernel_rfl) (by kernel_rfl) (by kernel_rfl) (fun _ _ _ h => h) (Or.inl ⟨by rfl, ?_⟩) (by assumption) ?_
  rotate_left
  · (intro w hSw; (try dsimp only at hSw); (try obtain ⟨hSa, hSb⟩ := hSw); go_simp; try with_reducible rfl)
  try simp only [Act.put, List.setIfInBounds_toArray, List.set_cons_zero, List.set_cons_succ]
  refine wpAnyH_take (i := 2) (oi := { dst := some 13, op := Op.fieldAddr 74 (Operand.tmp 12) 4, type := 0, pos := "disk.go:224", after := #[{ on := 1, ground := Ground.data }], guard := none }) (v := ?_) rfl (by kernel_rfl) (by kernel_rfl) (by kernel_rfl) (fun _ _ _ h => h) (Or.inl ⟨by rfl, ?_⟩) (by assumption) ?_
  rotate_left
  · (intro w hSw; (try dsimp only at hSw); (try obtain ⟨hSa, hSb⟩ := hSw); go_simp; try with_reducible rfl)
  try simp only [Act.put, List.setIfInBounds_toArray, List.set_cons_zero, List.set_cons_succ]
  refine wpAnyH_take (i := 6) (oi := { dst := some 17, op := Op.fieldAddr 74 (Operand.tmp 16) 0, type := 0, pos := "disk.go:224", after := #[{ on := 5, ground := Ground.data }], guard := none }) (v := ?_) rfl (by kernel_rfl) (by kernel_rfl) (by kernel_rfl) (fun _ _ _ h => h) (Or.inl ⟨by rfl, ?_⟩) (by assumption) ?_
  rotate_left
  · (intro w hSw; (try dsimp only at hSw); (try obtain ⟨hSa, hSb⟩ := hSw); go_simp; try with_reducible rfl)
  try simp only [Act.put, List.setIfInBounds_toArray, List.set_cons_zero, List.set_cons_succ]
  refine wpAnyH_take (i := 3) (oi := { dst := some 14, op := Op.load 3 (Operand.tmp 13), type := 3, pos := "disk.go:224", after := #[{ on := 2, ground := Ground.data }], guard := none }) (v := ?_) rfl (by kernel_rfl) (by kernel_rfl) (by kernel_rfl) (fun _ _ _ h => h) (Or.inl ⟨by rfl, ?_⟩) (by assumption) ?_
  rotate_left
  · (intro w hSw; (try dsimp only at hSw); (try obtain ⟨hSa, hSb⟩ := hSw); go_simp; try with_reducible rfl)
  try simp only [Act.put, List.setIfInBounds_toArray, List.set_cons_zero, List.set_cons_succ]
  refine wpAnyH_take (i := 7) (oi := { dst := some 18, op := Op.fieldAddr 45 (Operand.tmp 17) 2, type := 0, pos := "disk.go:224", after := #[{ on := 6, ground := Ground.data }], guard := none }) (v := ?_) rfl (by kernel_rfl) (by kernel_rfl) (by kernel_rfl) (fun _ _ _ h => h) (Or.inl ⟨by rfl, ?_⟩) (by assumption) ?_
  rotate_left
  · (intro w hSw; (try dsimp only at hSw); (try obtain ⟨hSa, hSb⟩ := hSw); go_simp; try with_reducible rfl)
  try simp only [Act.put, List.setIfInBounds_toArray, List.set_cons_zero, List.set_cons_succ]
  refine wpAnyH_take (i := 8) (oi := { dst := some 19, op := Op.load 3 (Operand.tmp 18), type := 3, pos := "disk.go:224", after := #[{ on := 7, ground := Ground.data }], guard := none }) (v := ?_) rfl (by kernel_rfl) (by kernel_rfl) (by kernel_rfl) (fun _ _ _ h => h) (Or.inl ⟨by rfl, ?_⟩) (by assumption) ?_
  rotate_left
  · (intro w hSw; (try dsimp only at hSw); (try obtain ⟨hSa, hSb⟩ := hSw); go_simp; try with_reducible rfl)
  try simp only [Act.put, List.setIfInBounds_toArray, List.set_cons_zero, List.set_cons_succ]
  refine wpAnyH_take (i := 9) (oi := { dst := some 20, op := Op.binOp BinOp.eql 3 (Operand.tmp 14) (Operand.tmp 19) 3, type := 4, pos := "disk.go:224", after := #[{ on := 3, ground := Ground.data }, { on := 8, ground := Ground.data }], guard := none }) (v := ?_) rfl (by kernel_rfl) (by kernel_rfl) (by kernel_rfl) (fun _ _ _ h => h) (Or.inl ⟨by rfl, ?_⟩) (by assumption) ?_
  rotate_left
  · (intro w hSw; (try dsimp only at hSw); (try obtain ⟨hSa, hSb⟩ := hSw); go_simp; try with_reducible rfl)
  try simp only [Act.put, List.setIfInBounds_toArray, List.set_cons_zero, List.set_cons_succ]
  refine wpAnyH_done (by kernel_rfl) ?_ _
  go_wp2_with (fail)
  refine HE.out.mono ?_
  rintro e w2 ⟨rfl, cs2, h2, t2, r2, o2⟩
  go_wp2
  refine bodyPost_end (results_none rfl _ _ _) rfl ?_
  exact ⟨rfl, cs2, h2, t2, R1.out.trans r2, O1.out.drew.trans o2⟩

set_option maxRecDepth 100000 in
set_option maxHeartbeats 8000000 in
theorem write_ro (db mb kt kw vb lb off c gb rb sb lo : Nat) (st sw : Nat → Sh) (G : Ge) (s : Sg) (l : List Ln) (cs : Array Value) (hl : gOk l) (hn : 1 ≤ s.n ∧ s.n ≤ 4096) (hro : roB G s l = true) (tb : Nat) (htb : tb + 13 ≤ 139) (a0 a1 a2 a3 a4 a5 a6 a9 a10 a11 a12 : Value) (dn : Int) (A : Option Addr) (n c' : Nat) (ht : Thr cs tb [a0, a1, a2, a3, a4, a5, a6, .int .i64 dn, .slice A n c', a9, a10, a11, a12]) (w : World) (k : DAt w db G s l cs mb kt kw vb st sw lb off c gb rb sb lo) :
    Calls Tryz.prog 67 #[.pointer (some ⟨db, 0, none⟩), .pointer (some ⟨db, tb, none⟩)] w (ThrP db tb cs [a0, a1, a2, a3, .bool false, a5, a6, .int .i64 dn, .slice A n c', .bool true, .int .i64 17, .int .i64 dn, .slice A n c'] w) := by
  have HR := Lib.hid (readOnly_any db mb kt kw vb lb off c gb rb sb lo st sw G s l cs hl hn w k)
  have HE := Lib.hid (fun W (o : Only (fun _ => False) w W) => end_any db tb cs a0 a1 a2 a3 a4 a5 a6 a9 a10 a11 a12 dn 17 A n c' W (k.quiet o).at' (by rw [k.ok.sz]; exact htb) ht)
  unfold ThrP at *
  rw [hro] at HR
  clear k ht hl hn hro
  go_enter Tryz.func67, Tryz.ntmps67
  go_wp2_with (fail)
  refine HR.out.mono ?_
  rintro e w1 ⟨rfl, hO⟩
  have HO := Lib.hid hO
  clear hO
  go_wp2_with (fail)
  refine (HE.out _ HO.out).mono ?_
  rintro e w2 ⟨rfl, cs2, h2, t2, r2, o2⟩
  go_wp2
  (try simp only [Exit.inBlock, Exit.then])
  refine bodyPost_ret (results_none rfl _ _ _) rfl ?_
  exact ⟨rfl, cs2, h2, t2, r2, (HO.out.mono (fun _ _ h => h.elim)).trans o2⟩

set_option maxRecDepth 100000 in
set_option maxHeartbeats 8000000 in
theorem flush_done (db mb kt kw vb lb off c gb rb sb lo : Nat) (st sw : Nat → Sh) (G : Ge) (s : Sg) (l : List Ln) (cs : Array Value) (tb : Nat) (h12 : 12 ≤ tb) (htb : tb + 13 ≤ 129) (a1 a2 a3 a4 a6 a9 a10 a11 a12 : Value) (dn : Int) (A : Option Addr) (n c' : Nat) (ht : Thr cs tb [.int .i64 4, a1, a2, a3, a4, .bool false, a6, .int .i64 dn, .slice A n c', a9, a10, a11, a12]) (w : World) (k : DAt w db G s l cs mb kt kw vb st sw lb off c gb rb sb lo) :
    Calls Tryz.prog 68 #[.pointer (some ⟨db, 0, none⟩), .pointer (some ⟨db, tb, none⟩)] w fun e w' => e = .returned (.tuple #[]) ∧ ∃ cs', At w' db 81 cs' ∧ Thr cs' tb [.int .i64 4, a1, a2, a3, .bool false, .bool true, .int .i64 0, .int .i64 dn, .slice A n c', .bool true, .int .i64 0, .int .i64 dn, .slice A n c'] ∧ DOk cs' G s mb lb rb sb ∧ Only (fun i => i = db) w w' := by
  have hs : tb + 13 ≤ cs.size := by rw [k.ok.sz]; omega
  have g5 := (k.cell (tb + 5)).trans (ht 5 (by omega))
  have g6 := (k.cell (tb + 6)).trans (ht 6 (by omega))
  simp only [List.getElem?_cons_zero, List.getElem?_cons_succ] at g5 g6
  have b0 := (k.cell (tb + 0)).trans (ht 0 (by omega))
  rw [Nat.add_zero] at b0
  simp only [List.getElem?_cons_zero] at b0
  have f5 := k.at'.frozen (tb + 5)
  have h1 := k.at'.set (tb + 5) (.bool true)
  have t1 := ht.set rfl hs 5 (by omega) (.bool true)
  have s1 : tb + 13 ≤ (cs.setIfInBounds (tb + 5) (.bool true)).size := by rw [Array.size_setIfInBounds]; exact hs
  have r1 := (Far.refl tb cs).set 5 (by omega) (.bool true)
  have o1 := (Only.refl (fun i => i = db) w).setCell (p := ⟨db, tb + 5, none⟩) (fun _ => rfl) (.bool true)
  have k1 := k.put o1 h1 (k.ok.far r1 h12 htb)
  have d10 := (k1.cell 10).trans k1.ok.rg
  have d6 := (k1.cell (tb + 6)).trans (t1 6 (by omega))
  simp only [List.set_cons_zero, List.set_cons_succ, List.getElem?_cons_zero, List.getElem?_cons_succ] at d6 t1
  have HHD := Lib.hid (ringHead_any rb _ k1.ring)
  have f6 := h1.frozen (tb + 6)
  have h2 := h1.set (tb + 6) (.int .i64 0)
  have t2 := t1.set rfl s1 6 (by omega) (.int .i64 0)
  have s2 : tb + 13 ≤ ((cs.setIfInBounds (tb + 5) (.bool true)).setIfInBounds (tb + 6) (.int .i64 0)).size := by rw [Array.size_setIfInBounds]; exact s1
  have r2 := r1.set 6 (by omega) (.int .i64 0)
  have o2 := o1.setCell (p := ⟨db, tb + 6, none⟩) (fun _ => rfl) (.int .i64 0)
  have k2 := k.put o2 h2 (k.ok.far r2 h12 htb)
  have e6 := (k2.cell (tb + 6)).trans (t2 6 (by omega))
  have e0 := (k2.cell (tb + 0)).trans (t2 0 (by omega))
  rw [Nat.add_zero] at e0
  simp only [List.set_cons_zero, List.set_cons_succ, List.getElem?_cons_zero, List.getElem?_cons_succ] at e6 t2 e0
  have HST := Lib.hid (settled_any db mb kt kw vb lb off c gb rb sb lo st sw G s l _ 0 _ k2)
  have e132 := (k2.cell 132).trans k2.ok.cl
  have f132 := k2.at'.frozen 132
  have h3 := k2.at'.set 132 (.bool false)
  have r3 : ((cs.setIfInBounds (tb + 5) (.bool true)).setIfInBounds (tb + 6) (.int .i64 0)).setIfInBounds 132 (.bool false) = ((cs.setIfInBounds (tb + 5) (.bool true)).setIfInBounds (tb + 6) (.int .i64 0)) := by
    apply Array.ext_getElem?
    intro j
    by_cases hj : 132 = j
    · subst hj; rw [set_self _ _ _ (by rw [k2.ok.sz]; omega), k2.ok.cl]
    · rw [set_get _ _ _ _ hj]
  rw [r3] at h3
  have o3 := o2.setCell (p := ⟨db, 132, none⟩) (fun _ => rfl) (.bool false)
  have HE := Lib.hid (end_any db tb _ (.int .i64 4) a1 a2 a3 a4 (.bool true) (.int .i64 0) a9 a10 a11 a12 dn 0 A n c' _ h3 s2 t2)
  have HK2 := Lib.hid k2
  have O3 := Lib.hid o3
  unfold ThrP at HE
  clear k ht h1 t1 s1 r1 o1 k1 h2 t2 s2 r2 o2 k2 h3 r3 o3 g6
  go_enter Tryz.func68, Tryz.ntmps68
  go_wp2_with (fail)
  refine HHD.out.mono ?_
  rintro e w1 ⟨rfl, rfl⟩
  go_wp2_with (fail)
  refine HST.out.mono ?_
  rintro e w2 ⟨rfl, rfl⟩
  go_wp2_with (fail)
  refine HE.out.mono ?_
  rintro e w3 ⟨rfl, cs3, h3, t3, r3, o3⟩
  go_wp2
  refine bodyPost_end (results_none rfl _ _ _) rfl ?_
  exact ⟨rfl, cs3, h3, t3, HK2.out.ok.far r3 h12 htb, O3.out.trans o3⟩
end Go.Proofs.YtjobaplioidogaaGreat
