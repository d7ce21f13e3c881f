/- Top: a call's read, of what was never written. -/
import Derived.Test.YtjobaplioidogaaGreatAD
namespace Go.Proofs.YtjobaplioidogaaGreat
open Go.RowKit

/-- Sixteen bytes of nothing. -/
def z16 : List Value := List.replicate 16 (.int .u8 0)
theorem z16_one : ∀ u ∈ z16, u.oneCell' = true := by
  intro u hu
  rw [List.eq_of_mem_replicate hu]; rfl
theorem At.rdZ {w : World} {g : Nat} (h : At w g 5 (zeros (.int .u8 0) 16)) : Rd w g (some ⟨g, 0, none⟩) z16 :=
  .inr ⟨0, rfl, h.lt, fun j u hu => by
    have e : zeros (.int .u8 0) 16 = z16.toArray := by apply Array.ext'; simp only [zeros, z16, Array.toList_replicate]
    rw [Nat.zero_add, h.cell, e, List.getElem?_toArray]; exact hu⟩
theorem Rd.of_row' {w : World} {base : Nat} {e : TypeId} {size n c : Nat} {A : Option Addr} {xs : List Value} (h : w.ownsRow base e size (.slice A n c) n xs) (hx : xs ≠ []) : ∃ g, base ≤ g ∧ g < w.heap.size ∧ Rd w g A xs := by
  rcases h.2 with ⟨he, rfl⟩ | ⟨g, cap, cur, he, hb, hg, _, _, hs, hx⟩
  · exact absurd (List.eq_nil_of_length_eq_zero (by simpa using h.1)) hx
  · injection he with hA _ _
    subst hA
    refine ⟨g, hb, (Array.getElem?_eq_some_iff.1 hg).1, .inr ⟨0, rfl, (Array.getElem?_eq_some_iff.1 hg).1, fun j u hu => ?_⟩⟩
    rw [Nat.zero_add, cell_of_row w g j cur e (0, 0) hg]
    rw [← hx, List.getElem?_take] at hu
    split at hu
    · simpa using hu
    · cases hu

def ReadP (db tb : Nat) (cs : Array Value) (i : Int) (a3 a5 a6 : Value) (w : World) (e : Ending) (w' : World) : Prop :=
  e = .returned (.tuple #[]) ∧ ∃ cs' A c g, At w' db 81 cs' ∧ Thr cs' tb [.int .i64 1, .int .i64 i, .int .i64 1, a3, .bool false, a5, a6, .int .i64 1, .slice A 16 c, .bool true, .int .i64 0, .int .i64 1, .slice A 16 c] ∧ Far tb cs cs' ∧ w.heap.size ≤ g ∧ Rd w' g A z16 ∧ Only (fun i => i = db) w w'

set_option maxRecDepth 100000 in
set_option maxHeartbeats 8000000 in
theorem read_nothing (db mb kt kw vb lb off c gb rb sb lo : Nat) (st sw : Nat → Sh) (G : Ge) (s : Sg) (l : List Ln) (cs : Array Value) (tb i : Nat) (h12 : 12 ≤ tb) (htb : tb + 13 ≤ 129) (hi : i < s.n.toNat) (hn : s.n ≤ 4096) (a3 a4 a5 a6 a9 a10 a11 a12 : Value) (ht : Thr cs tb [.int .i64 1, .int .i64 i, .int .i64 1, a3, a4, a5, a6, .int .i64 0, .slice none 0 0, a9, a10, a11, a12]) (w : World) (k : DAt w db G s l cs mb kt kw vb st sw lb off c gb rb sb lo) :
    Calls Tryz.prog 66 #[.pointer (some ⟨db, 0, none⟩), .pointer (some ⟨db, tb, none⟩)] w (ReadP db tb cs i a3 a5 a6 w) := by
  have hs : tb + 13 ≤ cs.size := by rw [k.ok.sz]; omega
  have HS := Lib.hid hs
  have HT := Lib.hid ht
  have HV := Lib.hid (fun W (o : Only (fun _ => False) w W) => value_none db mb kt kw vb lb off c gb rb sb lo st sw G s l cs i hi hn W (k.quiet o))
  have HXs := Lib.hid k.at'.drew
  have HOs := Lib.hid (Only.refl (fun _ => False) w).drew
  have HLT := Lib.hid k.at'.lt
  have e1 : IntKind.i64.wrap (i : Int) = i := IntWalk.i64_in _ (by omega)
  have e1' : wrap64 (i : Int) = i := by rw [← IntWalk.i64_left]; exact e1
  obtain ⟨i0, hi0⟩ : ∃ i, Tryz.prog.info? 5 = some i := ⟨_, rfl⟩
  have HI := Lib.hid (And.intro hi0 (And.intro (show i0.zero = some (.int .u8 0) by cases hi0; rfl) (And.intro (show i0.size = 1 by cases hi0; rfl) (show i0.bytes = 1 by cases hi0; rfl))))
  unfold ReadP
  clear k ht hs hi0 h12 htb hi hn
  go_enter Tryz.func66, Tryz.ntmps66
  go_upto_region 0 with (fail)
  refine wp_region_held_drew (S := (fun W => W.cell? ⟨db, tb + 7, none⟩ = some (.int .i64 0) ∧ W.cell? ⟨db, tb + 1, none⟩ = some (.int .i64 i))) (by kernel_rfl) ?_ (fun hHeld => ?_)
  · exact ⟨(HXs.out.cell (tb + 7)).trans (HT.out 7 (by omega)), (HXs.out.cell (tb + 1)).trans (HT.out 1 (by omega))⟩
  refine wpAnyH_take (i := 0) (oi := { dst := some 7, op := Op.move (Operand.tmp 0), type := 34, pos := "disk.go:212", after := #[], guard := none }) (v := ?_) rfl (by kernel_rfl) (by kernel_rfl) (by kernel_rfl) (fun _ _ _ h => h) (Or.inl ⟨by rfl, ?_⟩) (by assumption) ?_
  rotate_left
  · (intro w hSw; (try dsimp only at hSw); (try obtain ⟨hSa, hSb⟩ := hSw); go_simp; try with_reducible rfl)
  try simp only [Act.put, List.setIfInBounds_toArray, List.set_cons_zero, List.set_cons_succ]
  refine wpAnyH_take (i := 1) (oi := { dst := some 8, op := Op.move (Operand.tmp 1), type := 83, pos := "disk.go:212", after := #[], guard := none }) (v := ?_) rfl (by kernel_rfl) (by kernel_rfl) (by kernel_rfl) (fun _ _ _ h => h) (Or.inl ⟨by rfl, ?_⟩) (by assumption) ?_
  rotate_left
  · (intro w hSw; (try dsimp only at hSw); (try obtain ⟨hSa, hSb⟩ := hSw); go_simp; try with_reducible rfl)
  try simp only [Act.put, List.setIfInBounds_toArray, List.set_cons_zero, List.set_cons_succ]
  refine wpAnyH_take (i := 6) (oi := { dst := some 13, op := Op.move (Operand.tmp 1), type := 83, pos := "disk.go:212", after := #[], guard := none }) (v := ?_) rfl (by kernel_rfl) (by kernel_rfl) (by kernel_rfl) (fun _ _ _ h => h) (Or.inl ⟨by rfl, ?_⟩) (by assumption) ?_
  rotate_left
  · (intro w hSw; (try dsimp only at hSw); (try obtain ⟨hSa, hSb⟩ := hSw); go_simp; try with_reducible rfl)
  try simp only [Act.put, List.setIfInBounds_toArray, List.set_cons_zero, List.set_cons_succ]
  refine wpAnyH_take (i := 2) (oi := { dst := some 9, op := Op.nilCheck (Operand.tmp 8), type := 0, pos := "disk.go:212", after := #[{ on := 1, ground := Ground.data }], guard := none }) (v := ?_) rfl (by kernel_rfl) (by kernel_rfl) (by kernel_rfl) (fun _ _ _ h => h) (Or.inl ⟨by rfl, ?_⟩) (by assumption) ?_
  rotate_left
  · (intro w hSw; (try dsimp only at hSw); (try obtain ⟨hSa, hSb⟩ := hSw); go_simp; try with_reducible rfl)
  try simp only [Act.put, List.setIfInBounds_toArray, List.set_cons_zero, List.set_cons_succ]
  refine wpAnyH_take (i := 7) (oi := { dst := some 14, op := Op.nilCheck (Operand.tmp 13), type := 0, pos := "disk.go:212", after := #[{ on := 6, ground := Ground.data }], guard := none }) (v := ?_) rfl (by kernel_rfl) (by kernel_rfl) (by kernel_rfl) (fun _ _ _ h => h) (Or.inl ⟨by rfl, ?_⟩) (by assumption) ?_
  rotate_left
  · (intro w hSw; (try dsimp only at hSw); (try obtain ⟨hSa, hSb⟩ := hSw); go_simp; try with_reducible rfl)
  try simp only [Act.put, List.setIfInBounds_toArray, List.set_cons_zero, List.set_cons_succ]
  refine wpAnyH_take (i := 3) (oi := { dst := some 10, op := Op.fieldAddr 74 (Operand.tmp 9) 0, type := 0, pos := "disk.go:212", after := #[{ on := 2, ground := Ground.data }], guard := none }) (v := ?_) rfl (by kernel_rfl) (by kernel_rfl) (by kernel_rfl) (fun _ _ _ h => h) (Or.inl ⟨by rfl, ?_⟩) (by assumption) ?_
  rotate_left
  · (intro w hSw; (try dsimp only at hSw); (try obtain ⟨hSa, hSb⟩ := hSw); go_simp; try with_reducible rfl)
  try simp only [Act.put, List.setIfInBounds_toArray, List.set_cons_zero, List.set_cons_succ]
  refine wpAnyH_take (i := 8) (oi := { dst := some 15, op := Op.fieldAddr 74 (Operand.tmp 14) 4, type := 0, pos := "disk.go:212", after := #[{ on := 7, ground := Ground.data }], guard := none }) (v := ?_) rfl (by kernel_rfl) (by kernel_rfl) (by kernel_rfl) (fun _ _ _ h => h) (Or.inl ⟨by rfl, ?_⟩) (by assumption) ?_
  rotate_left
  · (intro w hSw; (try dsimp only at hSw); (try obtain ⟨hSa, hSb⟩ := hSw); go_simp; try with_reducible rfl)
  try simp only [Act.put, List.setIfInBounds_toArray, List.set_cons_zero, List.set_cons_succ]
  refine wpAnyH_take (i := 4) (oi := { dst := some 11, op := Op.fieldAddr 45 (Operand.tmp 10) 1, type := 0, pos := "disk.go:212", after := #[{ on := 3, ground := Ground.data }], guard := none }) (v := ?_) rfl (by kernel_rfl) (by kernel_rfl) (by kernel_rfl) (fun _ _ _ h => h) (Or.inl ⟨by rfl, ?_⟩) (by assumption) ?_
  rotate_left
  · (intro w hSw; (try dsimp only at hSw); (try obtain ⟨hSa, hSb⟩ := hSw); go_simp; try with_reducible rfl)
  try simp only [Act.put, List.setIfInBounds_toArray, List.set_cons_zero, List.set_cons_succ]
  refine wpAnyH_take (i := 9) (oi := { dst := some 16, op := Op.load 3 (Operand.tmp 15), type := 3, pos := "disk.go:212", after := #[{ on := 8, ground := Ground.data }], guard := none }) (v := ?_) rfl (by kernel_rfl) (by kernel_rfl) (by kernel_rfl) (fun _ _ _ h => h) (Or.inl ⟨by rfl, ?_⟩) (by assumption) ?_
  rotate_left
  · (intro w hSw; (try dsimp only at hSw); (try obtain ⟨hSa, hSb⟩ := hSw); go_simp; try with_reducible rfl)
  try simp only [Act.put, List.setIfInBounds_toArray, List.set_cons_zero, List.set_cons_succ]
  refine wpAnyH_take (i := 5) (oi := { dst := some 12, op := Op.load 3 (Operand.tmp 11), type := 3, pos := "disk.go:212", after := #[{ on := 4, ground := Ground.data }], guard := none }) (v := ?_) rfl (by kernel_rfl) (by kernel_rfl) (by kernel_rfl) (fun _ _ _ h => h) (Or.inl ⟨by rfl, ?_⟩) (by assumption) ?_
  rotate_left
  · (intro w hSw; (try dsimp only at hSw); (try obtain ⟨hSa, hSb⟩ := hSw); go_simp; try with_reducible rfl)
  try simp only [Act.put, List.setIfInBounds_toArray, List.set_cons_zero, List.set_cons_succ]
  refine wpAnyH_take (i := 10) (oi := { dst := some 17, op := Op.binOp BinOp.add 3 (Operand.tmp 12) (Operand.tmp 16) 3, type := 3, pos := "disk.go:212", after := #[{ on := 5, ground := Ground.data }, { on := 9, ground := Ground.data }], guard := none }) (v := ?_) rfl (by kernel_rfl) (by kernel_rfl) (by kernel_rfl) (fun _ _ _ h => h) (Or.inl ⟨by rfl, ?_⟩) (by assumption) ?_
  rotate_left
  · (intro w hSw; (try dsimp only at hSw); (try obtain ⟨hSa, hSb⟩ := hSw); go_simp; try with_reducible rfl)
  try simp only [Act.put, List.setIfInBounds_toArray, List.set_cons_zero, List.set_cons_succ]
  refine wpAnyH_ready (rs := [11]) (by kernel_rfl) (by simp) ?_
  refine AllReadyH.cons (o := { dst := some 18, op := Op.call { callee := Callee.value (Operand.func 114), args := #[Operand.tmp 7, Operand.tmp 17], argTypes := #[34, 3] }, type := 102, pos := "disk.go:212", after := #[{ on := 0, ground := Ground.data }, { on := 10, ground := Ground.data }], guard := none }) rfl (fun K hK => ?_) AllReadyH.nil
  go_simp
  refine (HV.out _ HOs.out).mono ?_
  rintro e ww_1 ⟨g, rfl, hg, hgl, hO⟩
  have HG_1 := Lib.hid hg
  have HGL := Lib.hid hgl
  clear hg hgl
  have HX_1 := Lib.hid (HXs.out.only hO id)
  have HO_1 := Lib.hid (HOs.out.trans hO)
  try clear hO
  try simp only []
  refine hK.out _ _ ?_ (fun hHeld => ?_)
  · exact ⟨(HX_1.out.cell (tb + 7)).trans (HT.out 7 (by omega)), (HX_1.out.cell (tb + 1)).trans (HT.out 1 (by omega))⟩
  clear hK K
  try simp only [Act.put, List.setIfInBounds_toArray, List.set_cons_zero, List.set_cons_succ]
  refine wpAnyH_take (i := 12) (oi := { dst := some 6, op := Op.move (Operand.tmp 18), type := 102, pos := "disk.go:212", after := #[{ on := 11, ground := Ground.data }], guard := none }) (v := ?_) rfl (by kernel_rfl) (by kernel_rfl) (by kernel_rfl) (fun _ _ _ h => h) (Or.inl ⟨by rfl, ?_⟩) (by assumption) ?_
  rotate_left
  · (intro w hSw; (try dsimp only at hSw); (try obtain ⟨hSa, hSb⟩ := hSw); go_simp; try with_reducible rfl)
  try simp only [Act.put, List.setIfInBounds_toArray, List.set_cons_zero, List.set_cons_succ]
  refine wpAnyH_take (i := 13) (oi := { dst := some 19, op := Op.extract (Operand.tmp 6) 0, type := 27, pos := "disk.go:212", after := #[{ on := 12, ground := Ground.data }], guard := none }) (v := ?_) rfl (by kernel_rfl) (by kernel_rfl) (by kernel_rfl) (fun _ _ _ h => h) (Or.inl ⟨by rfl, ?_⟩) (by assumption) ?_
  rotate_left
  · (intro w hSw; (try dsimp only at hSw); (try obtain ⟨hSa, hSb⟩ := hSw); go_simp; try with_reducible rfl)
  try simp only [Act.put, List.setIfInBounds_toArray, List.set_cons_zero, List.set_cons_succ]
  refine wpAnyH_take (i := 14) (oi := { dst := some 20, op := Op.extract (Operand.tmp 6) 1, type := 41, pos := "disk.go:212", after := #[{ on := 12, ground := Ground.data }, { on := 15, ground := Ground.gcOnly Departure.lateStores }], guard := none }) (v := ?_) rfl (by kernel_rfl) (by kernel_rfl) (by kernel_rfl) (fun _ _ _ h => h) (Or.inl ⟨by rfl, ?_⟩) (by assumption) ?_
  rotate_left
  · (intro w hSw; (try dsimp only at hSw); (try obtain ⟨hSa, hSb⟩ := hSw); go_simp; try with_reducible rfl)
  try simp only [Act.put, List.setIfInBounds_toArray, List.set_cons_zero, List.set_cons_succ]
  refine wpAnyH_take (i := 15) (oi := { dst := some 4, op := Op.assign (Operand.tmp 19), type := 27, pos := "disk.go:212", after := #[{ on := 13, ground := Ground.data }, { on := 11, ground := Ground.chain }, { on := 0, ground := Ground.phase }, { on := 1, ground := Ground.phase }, { on := 2, ground := Ground.phase }, { on := 3, ground := Ground.phase }, { on := 4, ground := Ground.phase }, { on := 5, ground := Ground.phase }, { on := 6, ground := Ground.phase }, { on := 7, ground := Ground.phase }, { on := 8, ground := Ground.phase }, { on := 9, ground := Ground.phase }, { on := 10, ground := Ground.phase }, { on := 11, ground := Ground.phase }, { on := 12, ground := Ground.phase }, { on := 13, ground := Ground.phase }, { on := 14, ground := Ground.textOnly Departure.lateStores }], guard := none }) (v := ?_) rfl (by kernel_rfl) (by kernel_rfl) (by kernel_rfl) (fun _ _ _ h => h) (Or.inl ⟨by rfl, ?_⟩) (by assumption) ?_
  rotate_left
  · (intro w hSw; (try dsimp only at hSw); (try obtain ⟨hSa, hSb⟩ := hSw); go_simp; try with_reducible rfl)
  try simp only [Act.put, List.setIfInBounds_toArray, List.set_cons_zero, List.set_cons_succ]
  refine wpAnyH_take (i := 16) (oi := { dst := some 5, op := Op.assign (Operand.tmp 20), type := 41, pos := "disk.go:212", after := #[{ on := 14, ground := Ground.data }, { on := 15, ground := Ground.chain }, { on := 0, ground := Ground.phase }, { on := 1, ground := Ground.phase }, { on := 2, ground := Ground.phase }, { on := 3, ground := Ground.phase }, { on := 4, ground := Ground.phase }, { on := 5, ground := Ground.phase }, { on := 6, ground := Ground.phase }, { on := 7, ground := Ground.phase }, { on := 8, ground := Ground.phase }, { on := 9, ground := Ground.phase }, { on := 10, ground := Ground.phase }, { on := 11, ground := Ground.phase }, { on := 12, ground := Ground.phase }, { on := 13, ground := Ground.phase }, { on := 14, ground := Ground.phase }, { on := 15, ground := Ground.phase }], guard := none }) (v := ?_) rfl (by kernel_rfl) (by kernel_rfl) (by kernel_rfl) (fun _ _ _ h => h) (Or.inl ⟨by rfl, ?_⟩) (by assumption) ?_
  rotate_left
  · (intro w hSw; (try dsimp only at hSw); (try obtain ⟨hSa, hSb⟩ := hSw); go_simp; try with_reducible rfl)
  try simp only [Act.put, List.setIfInBounds_toArray, List.set_cons_zero, List.set_cons_succ]
  refine wpAnyH_done (by kernel_rfl) ?_ _
  have c8 := (HX_1.out.cell (tb + 8)).trans (HT.out 8 (by omega))
  simp only [List.getElem?_cons_zero, List.getElem?_cons_succ] at c8
  have HRD := Lib.hid HG_1.out.rdZ
  have HW := HX_1
  have HO := HO_1
  obtain ⟨W, hW⟩ : ∃ W, W = ww_1 := ⟨_, rfl⟩
  subst hW
  have HOWN := Lib.hid (World.ownsRow_nil W W.heap.size 5 1)
  clear HX_1 HG_1 HO_1 HXs HOs
  go_wp2_with (at_builtin; go_loud (refine wpList_append_src _ rfl (.tmp 30) (.tmp 31) 27 rfl W.heap.size 5 i0 (.int .u8 0) 1 1 Tryz.underlying27 HI.out.1 HI.out.2.1 HI.out.2.2.1 HI.out.2.2.2 rfl (by decide) (.slice none 0 0) 0 [] rfl HOWN.out g (some ⟨g, 0, none⟩) 16 16 z16 rfl (by simp [z16]) HRD.out z16_one (by unfold maxLen; omega) (by omega) (Nat.le_refl _) ?_); intro A1 c1 w2 hc1 hown1 hg1 hat; have HOW := Lib.hid hown1; have hO2 := Only.of_grown hg1; have HX2 := Lib.hid (HW.out.only hO2 (fun e => by simp [Value.ownBlock] at e)); have HO2 := Lib.hid (HO.out.trans' hO2 (S := fun _ => False) (fun i hi e => by simp [Value.ownBlock] at e)); have d8 := (HX2.out.cell (tb + 8)).trans (HT.out 8 (by omega)); simp only [List.getElem?_cons_zero, List.getElem?_cons_succ] at d8; have f8 := HX2.out.frozen (tb + 8); have HSZ := Lib.hid (hO2.size); have h3 := HX2.out.set (tb + 8) (.slice A1 (0 + 16) c1); have t3 := HT.out.set rfl HS.out 8 (by omega) (.slice A1 (0 + 16) c1); simp only [List.set_cons_zero, List.set_cons_succ] at t3; have HCO := Lib.hid (count_one db tb _ (.int .i64 1) (.int .i64 i) a3 a4 a5 a6 a9 a10 a11 a12 A1 (0 + 16) c1 _ h3 (by rw [Array.size_setIfInBounds]; exact HS.out) t3); clear hown1 hg1 hat hc1 hO2 h3 t3)
  unfold ThrP at HCO
  refine HCO.out.mono ?_
  rintro e w3 ⟨rfl, cs3, h3, t3, r3, o3⟩
  have ho := (HO2.out.mono (T := fun i => i = db) (fun _ _ h => h.elim)).setCell (p := ⟨db, tb + 8, none⟩) (fun _ => rfl) (.slice A1 (0 + 16) c1)
  obtain ⟨g1, hg1, hgl1, hrd1⟩ := Rd.of_row' HOW.out (by simp [z16])
  have hq : w.heap.size ≤ g1 := Nat.le_trans HO.out.size hg1
  have hdb : ¬ g1 = db := by have := HLT.out; omega
  have hrd2 := (hrd1.only ((Only.refl (fun i => i = db) w2).setCell (p := ⟨db, tb + 8, none⟩) (fun _ => rfl) (.slice A1 (0 + 16) c1)) hdb).only o3 hdb
  go_wp2
  refine bodyPost_end (results_none rfl _ _ _) rfl ?_
  exact ⟨rfl, cs3, A1, c1, g1, h3, t3, ((Far.refl tb cs).set 8 (by omega) _).trans r3, hq, hrd2, ho.trans o3⟩

end Go.Proofs.YtjobaplioidogaaGreat
