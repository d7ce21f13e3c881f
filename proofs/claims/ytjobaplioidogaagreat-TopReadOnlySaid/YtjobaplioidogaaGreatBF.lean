/- Top: how often each line was erased, where nothing says so. -/
import Derived.Test.YtjobaplioidogaaGreatBE
namespace Go.Proofs.YtjobaplioidogaaGreat
open Go.RowKit

theorem wp_nopanic {P : Program} {c : Code} {Q : Exit → Act → World → Prop} {a : Act} {w : World} (h : c.wp P (fun e a w => (∀ x, e ≠ Exit.panic x) ∧ Q e a w) a w) : c.wp P Q a w := wp_mono h (fun _ _ _ h => h.2)

set_option maxRecDepth 100000 in
set_option maxHeartbeats 4000000 in
theorem markRead_one (p q : Nat) (w : World) (hr : Rd w p (some ⟨p, 0, none⟩) (bv datL)) :
    Calls Tryz.prog 164 #[.slice (some ⟨p, 0, none⟩) 16 q] w fun e w' => e = .returned (.tuple #[.agg #[.int .i64 0, .int .i64 0, .int .i64 0], .int .i64 3]) ∧ Only (fun _ => False) w w' := by
  have ob := (Only.refl (fun _ => False) w).alloc (.cells #[.int .i64 0, .int .i64 0, .int .i64 0] 200)
  have c0 : (w.alloc (.cells #[.int .i64 0, .int .i64 0, .int .i64 0] 200)).cell? ⟨p, 0, none⟩ = some (.int .u8 9) := Rd.c0 (xs := (bv datL).drop 1) (hr.only ob id)
  have hX := At.new w 200 #[.int .i64 0, .int .i64 0, .int .i64 0]
  have HX := Lib.hid hX
  have x0 := hX.cell 0
  have x1 := hX.cell 1
  have x2 := hX.cell 2
  have f0 := hX.frozen 0
  have f1 := hX.frozen 1
  have f2 := hX.frozen 2
  simp only [List.getElem?_toArray, List.getElem?_cons_zero, List.getElem?_cons_succ] at x0 x1 x2
  have HO := Lib.hid ob
  clear hr ob hX
  go_enter Tryz.func164, Tryz.ntmps164
  go_wp2
  refine bodyPost_ret (v := .tuple #[.agg #[.int .i64 0, .int .i64 0, .int .i64 0], .int .i64 3]) (results_row_tmp (p := 2) (u := 3) (ty := 200) rfl _ _ w.heap.size 200 #[.int .i64 0, .int .i64 0, .int .i64 0] (0, 0) _ rfl (At.new w 200 _) Tryz.underlying200 rfl (by kernel_rfl)) rfl ?_
  exact ⟨rfl, HO.out⟩

set_option maxRecDepth 100000 in
set_option maxHeartbeats 4000000 in
theorem marked_one (p q : Nat) (w : World) (hr : Rd w p (some ⟨p, 0, none⟩) (bv datL)) :
    Calls Tryz.prog 111 #[.agg #[.int .i64 0, .int .i64 1, .int .i64 1, .int .i64 5, .slice (some ⟨p, 0, none⟩) 16 q], .int .i64 0] w fun e w' => e = .returned (.tuple #[.agg #[.int .i64 0, .int .i64 0, .int .i64 0], .bool false]) ∧ Only (fun _ => False) w w' := by
  have hX := (At.new w 192 #[.int .i64 0, .int .i64 1, .int .i64 1, .int .i64 5, .slice (some ⟨p, 0, none⟩) 16 q]).alloc (.cells #[.int .i64 0, .int .i64 0, .int .i64 0] 200)
  have x4 := hX.cell 4
  have ob := ((Only.refl (fun _ => False) w).alloc (.cells #[.int .i64 0, .int .i64 1, .int .i64 1, .int .i64 5, .slice (some ⟨p, 0, none⟩) 16 q] 192)).alloc (.cells #[.int .i64 0, .int .i64 0, .int .i64 0] 200)
  have HR : Hid (At ((w.alloc (.cells #[.int .i64 0, .int .i64 1, .int .i64 1, .int .i64 5, .slice (some ⟨p, 0, none⟩) 16 q] 192)).alloc (.cells #[.int .i64 0, .int .i64 0, .int .i64 0] 200)) (w.heap.size + 1) 200 #[.int .i64 0, .int .i64 0, .int .i64 0]) := Lib.hid (At.new' (by simp) 200 _)
  have HM := Lib.hid (markRead_one p q _ (hr.only ob id))
  have HO := Lib.hid ob
  simp only [List.getElem?_toArray, List.getElem?_cons_zero, List.getElem?_cons_succ] at x4
  clear hr ob hX
  go_enter Tryz.func111, Tryz.ntmps111
  go_wp2_with (fail)
  refine HM.out.mono ?_
  rintro e w1 ⟨rfl, hO⟩
  have oa := hO.alloc (.cells #[.int .i64 0, .int .i64 0, .int .i64 0] 200)
  have hR := HR.out.only oa id
  have HR1 := Lib.hid hR
  have r0 := hR.cell 0
  have r1 := hR.cell 1
  have r2 := hR.cell 2
  have f0 := hR.frozen 0
  have f1 := hR.frozen 1
  have f2 := hR.frozen 2
  simp only [List.getElem?_toArray, List.getElem?_cons_zero, List.getElem?_cons_succ] at r0 r1 r2
  have hR2 := ((hR.set 0 (.int .i64 0)).set 1 (.int .i64 0)).set 2 (.int .i64 0)
  simp only [List.setIfInBounds_toArray, List.set_cons_zero, List.set_cons_succ] at hR2
  have HR2 := Lib.hid hR2
  have HO2 := Lib.hid ((((HO.out.trans oa).setCell (p := ⟨w.heap.size + 1, 0, none⟩) (fun e => absurd (show w.heap.size + 1 < w.heap.size from e) (by omega)) (.int .i64 0)).setCell (p := ⟨w.heap.size + 1, 1, none⟩) (fun e => absurd (show w.heap.size + 1 < w.heap.size from e) (by omega)) (.int .i64 0)).setCell (p := ⟨w.heap.size + 1, 2, none⟩) (fun e => absurd (show w.heap.size + 1 < w.heap.size from e) (by omega)) (.int .i64 0))
  clear oa hO hR hR2 x4
  go_wp2
  refine bodyPost_ret (v := .tuple #[.agg #[.int .i64 0, .int .i64 0, .int .i64 0], .bool false]) (results_row_tmp (p := 4) (u := 5) (ty := 200) rfl _ _ (w.heap.size + 1) 200 #[.int .i64 0, .int .i64 0, .int .i64 0] (0, 0) _ rfl HR2.out Tryz.underlying200 rfl (by kernel_rfl)) rfl ?_
  exact ⟨rfl, HO2.out⟩

set_option maxRecDepth 100000 in
set_option maxHeartbeats 16000000 in
theorem wears_one (S0 S : Int) (h0 : crcL 0 oobL = S0) (h1 : crcL S0 datL = S) (hS : takeL (S % 256) (S / 256 % 256) (S / 65536 % 256) (S / 16777216 % 256) = S) (d gb mp pp : Nat) (l : List Bk) (A B : Option Addr) (c c' g3 g4 : Nat) (w : World) (k : NAt w d gb mp pp gq l (oneE A B c c') 1) (hr3 : Rd w g3 A (bv datL)) (hr4 : Rd w g4 B (lob S)) :
    Calls Tryz.prog 56 #[.pointer (some ⟨d, 0, none⟩)] w (WearsP 2 w) := by
  have HAL := Lib.hid (fun W (o : Only (fun _ => False) w W) => all_one S0 S h0 h1 hS d gb mp pp l A B c c' g3 g4 W (k.quiet o) (hr3.only o id) (hr4.only o id))
  have HGE : Hid (∀ W, Only (fun _ => False) w W → Calls Tryz.prog 51 #[.pointer (some ⟨d, 0, none⟩)] W fun e w' => e = .returned (.agg #[.int .i64 1, .int .i64 1, .int .i64 2, .int .i64 2, .int .i64 1]) ∧ Only (fun _ => False) W w') := Lib.hid (fun W o => geometry_any d gb mp pp gq l _ 1 W (k.quiet o))
  have HMA := Lib.hid (fun p q W h => marked_one p q W h)
  have HLN : Hid (∀ W, Calls Tryz.prog 83 #[.agg #[.int .i64 1, .int .i64 1, .int .i64 2, .int .i64 2, .int .i64 1]] W fun e w' => e = .returned (.int .i64 2) ∧ Only (fun _ => False) W w') := Lib.hid (fun W => line_any gq gq_is W)
  have hmf : ∀ (fn : Fn) (first cap : Array Value) (w : World), (Instr.makeFunc fn first cap).run Tryz.prog w = .ok (.func fn first cap) w := fun _ _ _ _ => rfl
  clear k h0 h1 hS hr3 hr4
  unfold WearsP
  have hmk : ∀ W : World, (Instr.makeSlice 26 (.int .i64 2) (.int .i64 2)).run Tryz.prog W = .ok (.slice (some ⟨W.heap.size, 0, none⟩) 2 2) (W.alloc (.cells (zeros (.int .i64 0) 2) 3)) := fun W => make_ints 2 (by omega) W
  have hmb : ∀ W : World, (Instr.makeSlice 198 (.int .i64 2) (.int .i64 2)).run Tryz.prog W = .ok (.slice (some ⟨W.heap.size, 0, none⟩) 2 2) (W.alloc (.cells (zeros (.bool false) 2) 4)) := fun W => make_bools 2 (by omega) W
  have HMK := Lib.hid hmk
  have HMB := Lib.hid hmb
  clear hmk hmb
  go_enter_defers Tryz.func56, Tryz.ntmps56
  have HB := Lib.hid (((Only.refl (fun _ => False) w).alloc (.cells #[.slice none 0 0] 26)).alloc (.cells #[.int .i64 0] 41))
  have HA1 := Lib.hid ((At.new w 26 #[.slice none 0 0]).alloc (.cells #[.int .i64 0] 41))
  have HA2 : Hid (At ((w.alloc (.cells #[.slice none 0 0] 26)).alloc (.cells #[.int .i64 0] 41)) (w.heap.size + 1) 41 #[.int .i64 0]) := Lib.hid (At.new' (w := w.alloc (.cells #[.slice none 0 0] 26)) (by simp) 41 #[.int .i64 0])
  go_wp2_with (fail)
  refine (HAL.out _ HB.out).mono ?_
  rintro e w2 ⟨A1, c1, rfl, hF, hO⟩
  obtain ⟨g, p, q, hr1, hq, hc1, hr2, hge⟩ := hF
  simp at hge
  have HFR := Lib.hid hr1
  have HFD := Lib.hid hr2
  have HFG := Lib.hid (show w.heap.size + 2 ≤ g ∧ w.heap.size + 2 ≤ p by omega)
  clear hr1 hq hc1 hr2 hge
  have HB2 := Lib.hid (HB.out.trans hO)
  have HA1b := Lib.hid (HA1.out.only hO id)
  have HA2b := Lib.hid (HA2.out.only hO id)
  clear hO HB HA1 HA2
  go_wp2_with (fail)
  refine (HGE.out _ HB2.out).mono ?_
  rintro e w3 ⟨rfl, hO⟩
  have oa := hO.alloc (.cells #[.int .i64 1, .int .i64 1, .int .i64 2, .int .i64 2, .int .i64 1] 23)
  have HO3 := Lib.hid (HB2.out.trans oa)
  have HX1 := Lib.hid (HA1b.out.only oa id)
  have HX2 := Lib.hid (HA2b.out.only oa id)
  have HX3 := Lib.hid (At.new w3 23 #[.int .i64 1, .int .i64 1, .int .i64 2, .int .i64 2, .int .i64 1])
  have HFR3 := Lib.hid (HFR.out.only oa id)
  have HFD3 := Lib.hid (HFD.out.only oa id)
  have HSZ : Hid (w.heap.size + 1 < w3.heap.size) := Lib.hid (by have := HA2b.out.lt; have := hO.size; omega)
  clear oa hO HB2 HA1b HA2b
  go_upto_region 4 with (fail)
  generalize w3.heap.size = q3 at *
  generalize w3.alloc (.cells #[.int .i64 1, .int .i64 1, .int .i64 2, .int .i64 2, .int .i64 1] 23) = W at *
  have c2 := HX3.out.cell 2
  have c1 := HX1.out.cell 0
  simp only [List.getElem?_toArray, List.getElem?_cons_zero, List.getElem?_cons_succ] at c1 c2
  have f1 := (HX1.out.alloc (.cells (zeros (.int .i64 0) 2) 3)).frozen 0
  have d1 := (HX1.out.alloc (.cells (zeros (.int .i64 0) 2) 3)).cell 0
  simp only [List.getElem?_toArray, List.getElem?_cons_zero, List.getElem?_cons_succ] at d1
  have o1 := ((Only.refl (fun i => i = w.heap.size) W).alloc (.cells (zeros (.int .i64 0) 2) 3)).setCell (p := ⟨w.heap.size, 0, none⟩) (fun _ => rfl) (.slice (some ⟨W.heap.size, 0, none⟩) 2 2)
  have HY1 : Hid (At ((W.alloc (.cells (zeros (.int .i64 0) 2) 3)).setCell ⟨w.heap.size, 0, none⟩ (.slice (some ⟨W.heap.size, 0, none⟩) 2 2)) w.heap.size 26 #[.slice (some ⟨W.heap.size, 0, none⟩) 2 2]) := Lib.hid ((HX1.out.alloc (.cells (zeros (.int .i64 0) 2) 3)).set 0 _)
  have HY2 := Lib.hid (HX2.out.only o1 (by omega))
  have HY3 := Lib.hid (HX3.out.only o1 (by have := HSZ.out; omega))
  have HY4 := Lib.hid ((At.new W 3 (zeros (.int .i64 0) 2)).only ((Only.refl (fun i => i = w.heap.size) _).setCell (p := ⟨w.heap.size, 0, none⟩) (fun _ => rfl) (.slice (some ⟨W.heap.size, 0, none⟩) 2 2)) (by have := HX1.out.lt; omega))
  have HO4 := Lib.hid ((HO3.out.alloc (.cells (zeros (.int .i64 0) 2) 3)).setCell (p := ⟨w.heap.size, 0, none⟩) (fun h => by simp at h) (.slice (some ⟨W.heap.size, 0, none⟩) 2 2))
  have HFR4 := Lib.hid (HFR3.out.only o1 (by have := HFG.out; omega))
  have HFD4 := Lib.hid (HFD3.out.only o1 (by have := HFG.out; omega))
  have HWS := Lib.hid HX1.out.lt
  have hmk := HMK.out
  clear o1 HX1 HX2 HX3
  go_upto_region 5 with (fail)
  clear hmk c1 c2 d1 f1
  generalize W.heap.size = q4 at *
  generalize (W.alloc (.cells (zeros (.int .i64 0) 2) 3)).setCell ⟨w.heap.size, 0, none⟩ (.slice (some ⟨q4, 0, none⟩) 2 2) = V at *
  have c2 := HY3.out.cell 2
  simp only [List.getElem?_toArray, List.getElem?_cons_zero, List.getElem?_cons_succ] at c2
  have hmb := HMB.out
  go_upto_region 6 with (fail)
  clear hmb c2
  have ob := (Only.refl (fun _ => False) V).alloc (.cells (zeros (.bool false) 2) 4)
  have HZ1 := Lib.hid (HY1.out.only ob id)
  have HZ2 := Lib.hid (HY2.out.only ob id)
  have HZ4 := Lib.hid (HY4.out.only ob id)
  have HO5 := Lib.hid (HO4.out.trans ob)
  have HZ3 := Lib.hid (HY3.out.only ob id)
  have HFR5 := Lib.hid (HFR4.out.only ob id)
  have HFD5 := Lib.hid (HFD4.out.only ob id)
  clear ob HY1 HY2 HY3 HY4 HO4 HO3
  generalize V.heap.size = q5 at *
  generalize V.alloc (.cells (zeros (.bool false) 2) 4) = U at *
  obtain ⟨U0, hU0⟩ : ∃ U0, U0 = U := ⟨_, rfl⟩
  subst hU0
  go_wp2_with (fail)
  go_loopw [8, 9, 10, 11, 25] (fun v8 v9 v10 v11 v25 wr => (v25 = .int .i64 0 ∨ v25 = .int .i64 1) ∧ Only (fun _ => False) U0 wr) (fun _ _ _ _ v25 _ => (1 - intOf v25).toNat)
  case atStart => exact ⟨.inl rfl, Only.refl _ _⟩
  case round =>
    obtain ⟨rfl | rfl, hO⟩ := hrel
    · have HOr := Lib.hid hO
      obtain ⟨o, rfl, hgl, hc⟩ := (HFR5.out.only hO id).at (by simp [fnd])
      have s0 := hc 0 _ rfl
      have s1 := hc 1 _ rfl
      have s2 := hc 2 _ rfl
      have s3 := hc 3 _ rfl
      have s4 := hc 4 _ rfl
      rw [Nat.add_zero] at s0
      have hN := At.new wr 192 #[.int .i64 0, .int .i64 1, .int .i64 1, .int .i64 5, .slice (some ⟨p, 0, none⟩) 16 q]
      have oa := (Only.refl (fun _ => False) wr).alloc (.cells #[.int .i64 0, .int .i64 1, .int .i64 1, .int .i64 5, .slice (some ⟨p, 0, none⟩) 16 q] 192)
      have hD := (HFD5.out.only hO id).only oa id
      have hG := (HZ3.out.only hO id).only oa id
      have HOa := Lib.hid (hO.trans oa)
      clear hO hgl hc oa
      go_upto_region 9 with (fail)
      clear s0 s1 s2 s3 s4
      have HNs := Lib.hid hN.drew
      have HGs := Lib.hid hG.drew
      have HDs := Lib.hid (hD.only (Only.refl (fun _ => False) _).drew id)
      have HOs := Lib.hid HOa.out.drew
      clear hN hD hG
      generalize hq9 : wr.heap.size = q9 at *
      refine wp_nopanic ?_
      refine wp_region_held_drew (S := (fun W' => ((W'.cell? ⟨q3, 0, none⟩ = some (.int .i64 1) ∧ W'.cell? ⟨q3, 1, none⟩ = some (.int .i64 1)) ∧ (W'.cell? ⟨q3, 2, none⟩ = some (.int .i64 2) ∧ W'.cell? ⟨q3, 3, none⟩ = some (.int .i64 2)) ∧ W'.cell? ⟨q3, 4, none⟩ = some (.int .i64 1)) ∧ W'.cell? ⟨q9, 0, none⟩ = some (.int .i64 0))) (by kernel_rfl) ?_ (fun hHeld => ?_)
      · exact ⟨⟨⟨HGs.out.cell 0, HGs.out.cell 1⟩, ⟨HGs.out.cell 2, HGs.out.cell 3⟩, HGs.out.cell 4⟩, HNs.out.cell 0⟩
      refine wpAnyH_take (i := 0) (oi := { dst := some 29, op := Op.fieldAddr 192 (Operand.tmp 8) 0, type := 0, pos := "scan.go:92", after := #[], guard := none }) (v := ?_) rfl (by kernel_rfl) (by kernel_rfl) (by kernel_rfl) (fun c _ _ h => absurd rfl (h.1 c)) (Or.inl ⟨by rfl, ?_⟩) (by assumption) ?_
      rotate_left
      · (intro w hSw; (try dsimp only at hSw); (try obtain ⟨hSa, hSb⟩ := hSw); go_simp; try with_reducible rfl)
      try simp only [Act.put, List.setIfInBounds_toArray, List.set_cons_zero, List.set_cons_succ]
      refine wpAnyH_take (i := 2) (oi := { dst := some 31, op := Op.load 23 (Operand.tmp 5), type := 23, pos := "scan.go:92", after := #[], guard := none }) (v := ?_) rfl (by kernel_rfl) (by kernel_rfl) (by kernel_rfl) (fun c _ _ h => absurd rfl (h.1 c)) (Or.inl ⟨by rfl, ?_⟩) (by assumption) ?_
      rotate_left
      · (intro w hSw; (try dsimp only at hSw); (try obtain ⟨hSa, hSb⟩ := hSw); go_simp; try with_reducible rfl)
      try simp only [Act.put, List.setIfInBounds_toArray, List.set_cons_zero, List.set_cons_succ]
      refine wpAnyH_take (i := 1) (oi := { dst := some 30, op := Op.load 3 (Operand.tmp 29), type := 3, pos := "scan.go:92", after := #[{ on := 0, ground := Ground.data }], guard := none }) (v := ?_) rfl (by kernel_rfl) (by kernel_rfl) (by kernel_rfl) (fun c _ _ h => absurd rfl (h.1 c)) (Or.inl ⟨by rfl, ?_⟩) (by assumption) ?_
      rotate_left
      · (intro w hSw; (try dsimp only at hSw); (try obtain ⟨hSa, hSb⟩ := hSw); go_simp; try with_reducible rfl)
      try simp only [Act.put, List.setIfInBounds_toArray, List.set_cons_zero, List.set_cons_succ]
      refine wpAnyH_ready (rs := [3]) (by kernel_rfl) (by simp) ?_
      refine AllReadyH.cons (o := { dst := some 32, op := Op.call { callee := Callee.value (Operand.func 83), args := #[Operand.tmp 31], argTypes := #[23] }, type := 3, pos := "scan.go:92", after := #[{ on := 2, ground := Ground.data }], guard := none }) rfl (fun K hK => ?_) AllReadyH.nil
      go_simp
      refine (HLN.out _).mono ?_
      rintro e ww_1 ⟨rfl, hO⟩
      have HN_1 := Lib.hid (HNs.out.only hO id)
      have HG_1 := Lib.hid (HGs.out.only hO id)
      have HD_1 := Lib.hid (HDs.out.only hO id)
      have HO_1 := Lib.hid (HOs.out.trans hO)
      try clear hO
      try simp only []
      refine hK.out _ _ ?_ (fun hHeld => ?_)
      · exact ⟨⟨⟨HG_1.out.cell 0, HG_1.out.cell 1⟩, ⟨HG_1.out.cell 2, HG_1.out.cell 3⟩, HG_1.out.cell 4⟩, HN_1.out.cell 0⟩
      clear hK K
      try simp only [Act.put, List.setIfInBounds_toArray, List.set_cons_zero, List.set_cons_succ]
      refine wpAnyH_take (i := 4) (oi := { dst := some 33, op := Op.binOp BinOp.quo 3 (Operand.tmp 30) (Operand.tmp 32) 3, type := 3, pos := "scan.go:92", after := #[{ on := 1, ground := Ground.data }, { on := 3, ground := Ground.data }], guard := none }) (v := ?_) rfl (by kernel_rfl) (by kernel_rfl) (by kernel_rfl) (fun c _ _ h => absurd rfl (h.1 c)) (Or.inl ⟨by rfl, ?_⟩) (by assumption) ?_
      rotate_left
      · (intro w hSw; (try dsimp only at hSw); (try obtain ⟨hSa, hSb⟩ := hSw); go_simp; try with_reducible rfl)
      try simp only [Act.put, List.setIfInBounds_toArray, List.set_cons_zero, List.set_cons_succ]
      refine wpAnyH_take (i := 5) (oi := { dst := some 9, op := Op.assign (Operand.tmp 33), type := 3, pos := "scan.go:92", after := #[{ on := 4, ground := Ground.data }, { on := 3, ground := Ground.chain }, { on := 0, ground := Ground.phase }, { on := 1, ground := Ground.phase }, { on := 2, ground := Ground.phase }, { on := 3, ground := Ground.phase }, { on := 4, ground := Ground.phase }], guard := none }) (v := ?_) rfl (by kernel_rfl) (by kernel_rfl) (by kernel_rfl) (fun c _ _ h => absurd rfl (h.1 c)) (Or.inl ⟨by rfl, ?_⟩) (by assumption) ?_
      rotate_left
      · (intro w hSw; (try dsimp only at hSw); (try obtain ⟨hSa, hSb⟩ := hSw); go_simp; try with_reducible rfl)
      try simp only [Act.put, List.setIfInBounds_toArray, List.set_cons_zero, List.set_cons_succ]
      refine wpAnyH_done (by kernel_rfl) ?_ _
      refine ⟨fun x h => (by cases h), ?_⟩
      have n0 := HN_1.out.cell 0
      have n1 := HN_1.out.cell 1
      have n2 := HN_1.out.cell 2
      have n3 := HN_1.out.cell 3
      have n4 := HN_1.out.cell 4
      simp only [List.getElem?_toArray, List.getElem?_cons_zero, List.getElem?_cons_succ] at n0 n1 n2 n3 n4
      go_wp2_with (fail)
      refine (HMA.out p q _ HD_1.out).mono ?_
      rintro e w7 ⟨rfl, hO⟩
      have HO7 := Lib.hid ((HO_1.out.trans hO).alloc (.cells #[.int .i64 0, .int .i64 0, .int .i64 0] 200))
      clear hO n0 n1 n2 n3 n4
      go_wp2_with (fail)
      go_roundw
      case rel => exact ⟨.inr (by simp), HO7.out⟩
      case measure => simp [intOf]
    · have HOr := Lib.hid hO
      have HZ1 := Lib.hid (HZ1.out.only hO id)
      have HZ2 := Lib.hid (HZ2.out.only hO id)
      have HZ4 := Lib.hid (HZ4.out.only hO id)
      have HO5 := Lib.hid (HO5.out.trans hO)
      clear hO
      have d0 := HZ1.out.cell 0
      have d1 := HZ2.out.cell 0
      simp only [List.getElem?_toArray, List.getElem?_cons_zero, List.getElem?_cons_succ] at d0 d1
      have f1 := HZ1.out.frozen 0
      have f2 := HZ2.out.frozen 0
      have b1 := ((HZ1.out.set 0 (.slice (some ⟨q4, 0, none⟩) 2 2)).far (p := ⟨w.heap.size + 1, 0, none⟩) (by simp) (.int .i64 0)).cell 0
      have b2 := ((HZ2.out.far (p := ⟨w.heap.size, 0, none⟩) (by simp) (.slice (some ⟨q4, 0, none⟩) 2 2)).set 0 (.int .i64 0)).cell 0
      simp only [List.setIfInBounds_toArray, List.set_cons_zero, List.getElem?_toArray, List.getElem?_cons_zero] at b1 b2
      have HY := Lib.hid ((HZ4.out.far (p := ⟨w.heap.size, 0, none⟩) (by have := HWS.out; have := HSZ.out; simp; omega) (.slice (some ⟨q4, 0, none⟩) 2 2)).far (p := ⟨w.heap.size + 1, 0, none⟩) (by have := HSZ.out; have := HZ4.out.ne HZ2.out (by decide); exact this) (.int .i64 0))
      have HO6 := Lib.hid ((HO5.out.setCell (p := ⟨w.heap.size, 0, none⟩) (fun h => by simp at h) (.slice (some ⟨q4, 0, none⟩) 2 2)).setCell (p := ⟨w.heap.size + 1, 0, none⟩) (fun h => by simp at h; omega) (.int .i64 0))
      go_wp2
      refine leaves_cons (f := 110) (args := #[.pointer (some ⟨w.heap.size, 0, none⟩), .pointer (some ⟨w.heap.size + 1, 0, none⟩)]) (by simp) (by simp [go_sem]) ?_
      refine (cut_wears _ _ _).mono ?_
      rintro e u' w'' ⟨rfl, rfl, rfl⟩
      simp [Leaves, settle, results, Tryz.results56, go_sem, b1, b2]
      exact ⟨HY.out, by have := HWS.out; omega, HO6.out⟩
end Go.Proofs.YtjobaplioidogaaGreat
