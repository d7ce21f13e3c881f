/- Top: a sector is put into the map. -/
import Derived.Test.YtjobaplioidogaaGreatBC
namespace Go.Proofs.YtjobaplioidogaaGreat
open Go.RowKit

theorem RowAt.at' {w : World} {A : Option Addr} {n c g : Nat} {e : TypeId} {sz : Nat} {xs : List Value} (h : RowAt w A n c g e sz xs) (hA : A ≠ none) : ∃ cells, At w g e cells := by
  rcases h with ⟨h, _⟩ | ⟨_, cells, _, h, _⟩
  · exact absurd h hA
  · exact ⟨cells, h⟩
set_option maxHeartbeats 4000000 in
theorem atE_sh (kb n i lo : Nat) (sh : Nat → Sh) (E : Nat → En) (w : World) (k : KAt w kb 256 163 3 sh (fun s => colE E (sh s).n s) lo) (hn : ∀ s, s < 4 → (sh s).n = (n + 3 - s) / 4) (hi : i < n) (hb : n ≤ 100000) :
    Calls Tryz.prog 156 #[.pointer (some ⟨kb, 0, none⟩), .int .i64 i] w fun e w' => ∃ s o, s < 4 ∧ (sh s).A ≠ none ∧ e = .returned (.pointer (some ⟨(sh s).g, o, none⟩)) ∧ (∀ j u, (E i).cells[j]? = some u → w.cell? ⟨(sh s).g, o + j, none⟩ = some u) ∧ w' = w := by
  obtain ⟨s, q, off, hs, h1, h2, h3, hq, hA, hc⟩ := k.spot n i hn hi
  have HC : Hid (∀ j u, (E i).cells[j]? = some u → w.cell? ⟨(sh s).g, off + q * 3 + j, none⟩ = some u) := Lib.hid (fun j u hu => by
    have hj : j < 3 := by
      by_cases h : j < 3
      · exact h
      · rw [List.getElem?_eq_none (by simp [En.cells]; omega)] at hu; cases hu
    rw [Nat.add_assoc]
    refine hc j u ?_
    rw [colE_get E _ s q j hq hj, ← h3]
    exact hu)
  have hAn : (sh s).A ≠ none := by rw [hA]; simp
  have HAN := Lib.hid (show ∃ t, t = s ∧ t < 4 ∧ (sh t).A ≠ none ∧ (sh t).g = (sh s).g from ⟨s, rfl, hs, hAn, rfl⟩)
  clear hAn
  have cs := k.cell s hs
  rw [hA] at cs
  have hqn : (q : Int) < (sh s).n := by omega
  have q0 : (0 : Int) ≤ q := by omega
  have s0 : (0 : Int) ≤ s := by omega
  have s4 : (s : Int) < 4 := by omega
  have w1 : IntKind.i64.wrap (q : Int) = q := IntWalk.i64_in _ (by omega)
  have w1' : wrap64 (q : Int) = q := by rw [← IntWalk.i64_left]; exact w1
  have w2 : IntKind.i64.wrap (s : Int) = s := IntWalk.i64_in _ (by omega)
  have w2' : wrap64 (s : Int) = s := by rw [← IntWalk.i64_left]; exact w2
  generalize (sh s).n = m at *
  obtain ⟨t, -, ht4, htA, htg⟩ := HAN.out
  have HTT := Lib.hid (And.intro ht4 (And.intro htA htg))
  clear HAN ht4 htA htg
  generalize hgg : (sh s).g = g at *
  clear hgg
  generalize (sh s).c = c at *
  have h2' : (i : Int) / 4 = q := by omega
  have h1' : (i : Int) % 4 = s := by omega
  clear k hn hc hA h3
  go_enter Tryz.func156, Tryz.ntmps156
  go_wp2
  go_ret
  refine ⟨t, off + q * 3, HTT.out.1, HTT.out.2.1, ?_, ?_, rfl⟩
  · rw [HTT.out.2.2]; rfl
  · rw [HTT.out.2.2]; exact HC.out

set_option maxHeartbeats 4000000 in
theorem atI_sh (kb n i lo : Nat) (sh : Nat → Sh) (E : Nat → Int) (w : World) (k : KAt w kb 261 3 1 sh (fun s => colI E (sh s).n s) lo) (hn : ∀ s, s < 4 → (sh s).n = (n + 3 - s) / 4) (hi : i < n) (hb : n ≤ 100000) :
    Calls Tryz.prog 155 #[.pointer (some ⟨kb, 0, none⟩), .int .i64 i] w fun e w' => ∃ s o, s < 4 ∧ (sh s).A ≠ none ∧ e = .returned (.pointer (some ⟨(sh s).g, o, none⟩)) ∧ (∀ j u, ([Value.int .i64 (E i)] : List Value)[j]? = some u → w.cell? ⟨(sh s).g, o + j, none⟩ = some u) ∧ w' = w := by
  obtain ⟨s, q, off, hs, h1, h2, h3, hq, hA, hc⟩ := k.spot n i hn hi
  have HC : Hid (∀ j u, ([Value.int .i64 (E i)] : List Value)[j]? = some u → w.cell? ⟨(sh s).g, off + q + j, none⟩ = some u) := Lib.hid (fun j u hu => by
    have hj : j < 1 := by
      by_cases h : j < 1
      · exact h
      · rw [List.getElem?_eq_none (by simp; omega)] at hu; cases hu
    obtain rfl : j = 0 := by omega
    have h9 := hc 0 u (by rw [Nat.mul_one, Nat.add_zero, colI_get E _ s q hq, ← h3]; exact hu)
    rw [Nat.mul_one] at h9
    exact h9)
  have hAn : (sh s).A ≠ none := by rw [hA]; simp
  have HAN := Lib.hid (show ∃ t, t = s ∧ t < 4 ∧ (sh t).A ≠ none ∧ (sh t).g = (sh s).g from ⟨s, rfl, hs, hAn, rfl⟩)
  clear hAn
  have cs := k.cell s hs
  rw [hA] at cs
  have hqn : (q : Int) < (sh s).n := by omega
  have q0 : (0 : Int) ≤ q := by omega
  have s0 : (0 : Int) ≤ s := by omega
  have s4 : (s : Int) < 4 := by omega
  have w1 : IntKind.i64.wrap (q : Int) = q := IntWalk.i64_in _ (by omega)
  have w1' : wrap64 (q : Int) = q := by rw [← IntWalk.i64_left]; exact w1
  have w2 : IntKind.i64.wrap (s : Int) = s := IntWalk.i64_in _ (by omega)
  have w2' : wrap64 (s : Int) = s := by rw [← IntWalk.i64_left]; exact w2
  generalize (sh s).n = m at *
  obtain ⟨t, -, ht4, htA, htg⟩ := HAN.out
  have HTT := Lib.hid (And.intro ht4 (And.intro htA htg))
  clear HAN ht4 htA htg
  generalize hgg : (sh s).g = g at *
  clear hgg
  generalize (sh s).c = c at *
  have h2' : (i : Int) / 4 = q := by omega
  have h1' : (i : Int) % 4 = s := by omega
  clear k hn hc hA h3
  go_enter Tryz.func155, Tryz.ntmps155
  go_wp2
  go_ret
  refine ⟨t, off + q, HTT.out.1, HTT.out.2.1, ?_, ?_, rfl⟩
  · rw [HTT.out.2.2]; rfl
  · rw [HTT.out.2.2]; exact HC.out


set_option maxRecDepth 100000 in
set_option maxHeartbeats 16000000 in
theorem put_one (mb kt kw vb lo : Nat) (st sw : Nat → Sh) (w : World) (k : MAt w mb kt kw vb gq 2 st sw (fun _ => ⟨-1, 0, 0⟩) (fun _ => 0) [0, 0] lo) (hsep : ∀ s, s < 4 → (sw s).A ≠ none → (sw s).g ≠ vb) :
    Calls Tryz.prog 187 #[.pointer (some ⟨mb, 0, none⟩), .int .i64 1, .agg #[.int .i64 0, .int .i64 5, .int .i64 1]] w fun e w' => e = .returned (.tuple #[]) ∧ At w' mb 142 #[.int .i64 1, .int .i64 1, .int .i64 2, .int .i64 2, .int .i64 1, .int .i64 2, .pointer (some ⟨kt, 0, none⟩), .pointer (some ⟨kw, 0, none⟩), .slice (some ⟨vb, 0, none⟩) 2 2] ∧ At w' vb 3 #[.int .i64 1, .int .i64 0] ∧ Only (fun i => lo ≤ i) w w' := by
  have ob := (Only.refl (fun _ => False) w).alloc (.cells #[.int .i64 0, .int .i64 5, .int .i64 1] 163)
  have k1 := k.quiet ob
  have HLO := Lib.hid (show lo ≤ vb ∧ lo ≤ w.heap.size from ⟨k.ge.2.2.2, Nat.le_trans k.ge.1 (Nat.le_of_lt k.hd.lt)⟩)
  have HE := Lib.hid (atE_sh kt 2 1 lo st _ _ k1.tt k1.nt (by omega) (by omega))
  have HI := Lib.hid (fun W (q : KAt W kw 261 3 1 sw (fun s => colI (fun _ => 0) (sw s).n s) lo) => atI_sh kw 4 0 lo sw _ W q k.nw (by omega) (by omega))
  have HLN : Hid (∀ W, Calls Tryz.prog 83 #[.agg #[.int .i64 1, .int .i64 1, .int .i64 2, .int .i64 2, .int .i64 1]] W fun e w' => e = .returned (.int .i64 2) ∧ Only (fun _ => False) W w') := Lib.hid (fun W => line_any gq gq_is W)
  have HSEP := Lib.hid hsep
  have HBX := Lib.hid (At.new w 163 #[.int .i64 0, .int .i64 5, .int .i64 1])
  have HH : Hid (At (w.alloc (.cells #[.int .i64 0, .int .i64 5, .int .i64 1] 163)) mb 142 #[.int .i64 1, .int .i64 1, .int .i64 2, .int .i64 2, .int .i64 1, .int .i64 2, .pointer (some ⟨kt, 0, none⟩), .pointer (some ⟨kw, 0, none⟩), .slice (some ⟨vb, 0, none⟩) 2 2]) := Lib.hid k1.hd
  have HV : Hid (At (w.alloc (.cells #[.int .i64 0, .int .i64 5, .int .i64 1] 163)) vb 3 #[.int .i64 0, .int .i64 0]) := Lib.hid k1.val
  have HW := Lib.hid k1.who
  have HT := Lib.hid k1.tt
  have HO := Lib.hid (ob.mono (T := fun i => lo ≤ i) (fun _ _ h => h.elim))
  have HTLT := Lib.hid (show ∀ s, s < 4 → (st s).A ≠ none → (st s).g < w.heap.size from fun s hs hA => (k.tt.row s hs).lt hA)
  clear k k1 ob hsep
  have x6 := HH.out.cell 6
  simp only [List.getElem?_toArray, List.getElem?_cons_zero, List.getElem?_cons_succ] at x6
  go_enter Tryz.func187, Tryz.ntmps187
  go_wp2_with (fail)
  refine HE.out.mono ?_
  rintro e w1 ⟨s, o, hs, hA, rfl, hc, rfl⟩
  have y0 := hc 0 _ rfl
  have y1 := hc 1 _ rfl
  have y2 := hc 2 _ rfl
  rw [Nat.add_zero] at y0
  obtain ⟨cells, hg⟩ := (HT.out.row s hs).at' hA
  have hgl := HTLT.out s hs hA
  have hglo := HT.out.ge s hs hA
  have HW1 := Lib.hid (show ∃ W1, W1 = w.alloc (.cells #[.int .i64 0, .int .i64 5, .int .i64 1] 163) from ⟨_, rfl⟩)
  obtain ⟨W1, hW1⟩ := HW1.out
  rw [← hW1] at HH HV HW HT HO HBX hg y0 y1 y2 ⊢
  clear hW1 HW1 HE hc
  generalize (st s).g = g at *
  have f0 := hg.frozen o
  have f1 := hg.frozen (o + 1)
  have f2 := hg.frozen (o + 2)
  have b0 := HBX.out.cell 0
  have b1 := HBX.out.cell 1
  have b2 := HBX.out.cell 2
  simp only [List.getElem?_toArray, List.getElem?_cons_zero, List.getElem?_cons_succ] at b0 b1 b2
  have o2 := ((((Only.refl (fun i => i = g) W1).setCell (p := ⟨g, o, none⟩) (fun _ => rfl) (.int .i64 0)).setCell (p := ⟨g, o + 1, none⟩) (fun _ => rfl) (.int .i64 5)).setCell (p := ⟨g, o + 2, none⟩) (fun _ => rfl) (.int .i64 1))
  have HH2 := Lib.hid (HH.out.only o2 (HH.out.ne hg (by decide)))
  have HV2 := Lib.hid (HV.out.only o2 (HV.out.ne hg (by decide)))
  have HW2 := Lib.hid (HW.out.far hg (by decide) (by decide) o2)
  have HBX2 := Lib.hid (HBX.out.only o2 (by omega))
  have HO2 := Lib.hid (HO.out.trans (o2.mono (fun i _ e => by rw [e]; exact hglo)))
  have HGW : Hid (w.heap.size < W1.heap.size) := Lib.hid HBX.out.lt
  clear o2 hgl hglo hg x6 hs hA HT
  have hw0 : IntKind.i64.wrap 0 = 0 := by decide
  have hw1 : IntKind.i64.wrap 1 = 1 := by decide
  have hw2 : IntKind.i64.wrap 2 = 2 := by decide
  go_upto_region 6 with (fail)
  clear y0 y1 y2 f0 f1 f2 b0 b1 b2
  obtain ⟨W2, hW2⟩ : ∃ W2, W2 = ((W1.setCell ⟨g, o, none⟩ (.int .i64 0)).setCell ⟨g, o + 1, none⟩ (.int .i64 5)).setCell ⟨g, o + 2, none⟩ (.int .i64 1) := ⟨_, rfl⟩
  rw [← hW2] at HH2 HV2 HW2 HBX2 HO2 ⊢
  clear hW2
  have HHs := Lib.hid HH2.out.drew
  have HVs := Lib.hid HV2.out.drew
  have HWs := Lib.hid (HW2.out.quiet (Only.refl (fun _ => False) W2).drew)
  have HBs := Lib.hid HBX2.out.drew
  have HOs := Lib.hid HO2.out.drew
  refine wp_region_held_drew (S := (fun W' => W'.cell? ⟨mb, 7, none⟩ = some (.pointer (some ⟨kw, 0, none⟩)) ∧ W'.cell? ⟨w.heap.size, 0, none⟩ = some (.int .i64 0))) (by kernel_rfl) ?_ (fun hHeld => ?_)
  · exact ⟨HHs.out.cell 7, HBs.out.cell 0⟩
  refine wpAnyH_take (i := 0) (oi := { dst := some 49, op := Op.move (Operand.tmp 0), type := 62, pos := "l2p.go:66", after := #[], guard := none }) (v := ?_) rfl (by kernel_rfl) (by kernel_rfl) (by kernel_rfl) (fun _ _ _ h => h) (Or.inl ⟨by rfl, ?_⟩) (by assumption) ?_
  rotate_left
  · (intro w hSw; (try dsimp only at hSw); (try obtain ⟨hSa, hSb⟩ := hSw); go_simp; try with_reducible rfl)
  try simp only [Act.put, List.setIfInBounds_toArray, List.set_cons_zero, List.set_cons_succ]
  refine wpAnyH_take (i := 4) (oi := { dst := some 53, op := Op.fieldAddr 163 (Operand.tmp 5) 0, type := 0, pos := "l2p.go:66", after := #[], guard := none }) (v := ?_) rfl (by kernel_rfl) (by kernel_rfl) (by kernel_rfl) (fun _ _ _ h => h) (Or.inl ⟨by rfl, ?_⟩) (by assumption) ?_
  rotate_left
  · (intro w hSw; (try dsimp only at hSw); (try obtain ⟨hSa, hSb⟩ := hSw); go_simp; try with_reducible rfl)
  try simp only [Act.put, List.setIfInBounds_toArray, List.set_cons_zero, List.set_cons_succ]
  refine wpAnyH_take (i := 7) (oi := { dst := some 56, op := Op.move (Operand.tmp 1), type := 3, pos := "l2p.go:66", after := #[], guard := none }) (v := ?_) rfl (by kernel_rfl) (by kernel_rfl) (by kernel_rfl) (fun _ _ _ h => h) (Or.inl ⟨by rfl, ?_⟩) (by assumption) ?_
  rotate_left
  · (intro w hSw; (try dsimp only at hSw); (try obtain ⟨hSa, hSb⟩ := hSw); go_simp; try with_reducible rfl)
  try simp only [Act.put, List.setIfInBounds_toArray, List.set_cons_zero, List.set_cons_succ]
  refine wpAnyH_take (i := 1) (oi := { dst := some 50, op := Op.nilCheck (Operand.tmp 49), type := 0, pos := "l2p.go:66", after := #[{ on := 0, ground := Ground.data }], guard := none }) (v := ?_) rfl (by kernel_rfl) (by kernel_rfl) (by kernel_rfl) (fun _ _ _ h => h) (Or.inl ⟨by rfl, ?_⟩) (by assumption) ?_
  rotate_left
  · (intro w hSw; (try dsimp only at hSw); (try obtain ⟨hSa, hSb⟩ := hSw); go_simp; try with_reducible rfl)
  try simp only [Act.put, List.setIfInBounds_toArray, List.set_cons_zero, List.set_cons_succ]
  refine wpAnyH_take (i := 5) (oi := { dst := some 54, op := Op.load 3 (Operand.tmp 53), type := 3, pos := "l2p.go:66", after := #[{ on := 4, ground := Ground.data }], guard := none }) (v := ?_) rfl (by kernel_rfl) (by kernel_rfl) (by kernel_rfl) (fun _ _ _ h => h) (Or.inl ⟨by rfl, ?_⟩) (by assumption) ?_
  rotate_left
  · (intro w hSw; (try dsimp only at hSw); (try obtain ⟨hSa, hSb⟩ := hSw); go_simp; try with_reducible rfl)
  try simp only [Act.put, List.setIfInBounds_toArray, List.set_cons_zero, List.set_cons_succ]
  refine wpAnyH_take (i := 8) (oi := { dst := some 57, op := Op.binOp BinOp.add 3 (Operand.tmp 56) (Operand.const (Value.int IntKind.i64 1)) 3, type := 3, pos := "l2p.go:66", after := #[{ on := 7, ground := Ground.data }], guard := none }) (v := ?_) rfl (by kernel_rfl) (by kernel_rfl) (by kernel_rfl) (fun _ _ _ h => h) (Or.inl ⟨by rfl, ?_⟩) (by assumption) ?_
  rotate_left
  · (intro w hSw; (try dsimp only at hSw); (try obtain ⟨hSa, hSb⟩ := hSw); go_simp; try with_reducible rfl)
  try simp only [Act.put, List.setIfInBounds_toArray, List.set_cons_zero, List.set_cons_succ]
  refine wpAnyH_take (i := 2) (oi := { dst := some 51, op := Op.fieldAddr 142 (Operand.tmp 50) 3, type := 0, pos := "l2p.go:66", after := #[{ on := 1, ground := Ground.data }], guard := none }) (v := ?_) rfl (by kernel_rfl) (by kernel_rfl) (by kernel_rfl) (fun _ _ _ h => h) (Or.inl ⟨by rfl, ?_⟩) (by assumption) ?_
  rotate_left
  · (intro w hSw; (try dsimp only at hSw); (try obtain ⟨hSa, hSb⟩ := hSw); go_simp; try with_reducible rfl)
  try simp only [Act.put, List.setIfInBounds_toArray, List.set_cons_zero, List.set_cons_succ]
  refine wpAnyH_take (i := 3) (oi := { dst := some 52, op := Op.load 140 (Operand.tmp 51), type := 140, pos := "l2p.go:66", after := #[{ on := 2, ground := Ground.data }], guard := none }) (v := ?_) rfl (by kernel_rfl) (by kernel_rfl) (by kernel_rfl) (fun _ _ _ h => h) (Or.inl ⟨by rfl, ?_⟩) (by assumption) ?_
  rotate_left
  · (intro w hSw; (try dsimp only at hSw); (try obtain ⟨hSa, hSb⟩ := hSw); go_simp; try with_reducible rfl)
  try simp only [Act.put, List.setIfInBounds_toArray, List.set_cons_zero, List.set_cons_succ]
  refine wpAnyH_ready (rs := [6]) (by kernel_rfl) (by simp) ?_
  refine AllReadyH.cons (o := { dst := some 55, op := Op.call { callee := Callee.value (Operand.func 155), args := #[Operand.tmp 52, Operand.tmp 54], argTypes := #[140, 3] }, type := 241, pos := "l2p.go:66", after := #[{ on := 3, ground := Ground.data }, { on := 5, ground := Ground.data }], guard := none }) rfl (fun K hK => ?_) AllReadyH.nil
  go_simp
  refine (HI.out _ HWs.out).mono ?_
  rintro e ww_1 ⟨s2, o2, hs2, hA2, rfl, hc2, rfl⟩
  have HC2 := Lib.hid (hc2 0 _ rfl)
  obtain ⟨cells2, hg2⟩ := (HWs.out.row s2 hs2).at' hA2
  have HG2 := Lib.hid hg2
  have HN2 := Lib.hid (HSEP.out s2 hs2 hA2)
  have HL2 := Lib.hid (HWs.out.ge s2 hs2 hA2)
  generalize (sw s2).g = g2 at *
  clear hc2 hs2 hA2 hg2
  have hO := Only.refl (fun _ => False) W2.drew
  have HH_1 := Lib.hid (HHs.out.only hO id)
  have HV_1 := Lib.hid (HVs.out.only hO id)
  have HB_1 := Lib.hid (HBs.out.only hO id)
  have HW_1 := Lib.hid (HWs.out.quiet hO)
  have HO_1 := Lib.hid (HOs.out.trans (hO.mono (fun _ _ h => h.elim)))
  try clear hO
  try simp only []
  refine hK.out _ _ ?_ (fun hHeld => ?_)
  · exact ⟨HH_1.out.cell 7, HB_1.out.cell 0⟩
  clear hK K
  try simp only [Act.put, List.setIfInBounds_toArray, List.set_cons_zero, List.set_cons_succ]
  refine wpAnyH_take (i := 9) (oi := { dst := some 58, op := Op.nilCheck (Operand.tmp 55), type := 0, pos := "l2p.go:66", after := #[{ on := 6, ground := Ground.data }, { on := 0, ground := Ground.phase }, { on := 1, ground := Ground.phase }, { on := 2, ground := Ground.phase }, { on := 3, ground := Ground.phase }, { on := 4, ground := Ground.phase }, { on := 5, ground := Ground.phase }, { on := 6, ground := Ground.phase }, { on := 7, ground := Ground.phase }, { on := 8, ground := Ground.phase }], guard := none }) (v := ?_) rfl (by kernel_rfl) (by kernel_rfl) (by kernel_rfl) (fun _ _ _ h => h) (Or.inl ⟨by rfl, ?_⟩) (by assumption) ?_
  rotate_left
  · (intro w hSw; (try dsimp only at hSw); (try obtain ⟨hSa, hSb⟩ := hSw); go_simp; try with_reducible rfl)
  try simp only [Act.put, List.setIfInBounds_toArray, List.set_cons_zero, List.set_cons_succ]
  refine wpAnyH_ready (rs := [10]) (by kernel_rfl) (by simp) ?_
  refine AllReadyH.cons (o := { dst := none, op := Op.store 3 (Operand.tmp 58) (Operand.tmp 57), type := 0, pos := "l2p.go:66", after := #[{ on := 9, ground := Ground.data }, { on := 8, ground := Ground.data }, { on := 6, ground := Ground.chain }, { on := 0, ground := Ground.phase }, { on := 1, ground := Ground.phase }, { on := 2, ground := Ground.phase }, { on := 3, ground := Ground.phase }, { on := 4, ground := Ground.phase }, { on := 5, ground := Ground.phase }, { on := 6, ground := Ground.phase }, { on := 7, ground := Ground.phase }, { on := 8, ground := Ground.phase }], guard := none }) rfl (fun K hK => ?_) AllReadyH.nil
  have v0 := HC2.out
  rw [Nat.add_zero] at v0
  have v1 := HG2.out.frozen o2
  go_simp
  clear v0 v1
  try simp only [show IntKind.i64.wrap 2 = 2 from by decide]
  have oq := ((Only.refl (fun i => i = g2) W2).setCell (p := ⟨g2, o2, none⟩) (fun _ => rfl) (.int .i64 2)).drew
  have HH_2 := Lib.hid (HH2.out.only oq (HH_1.out.ne HG2.out (by decide)))
  have HV_2 := Lib.hid (HV2.out.only oq (fun e => HN2.out e.symm))
  have HB_2 := Lib.hid (HBX2.out.only oq (HB_1.out.ne HG2.out (by decide)))
  have HO_2 := Lib.hid (HO2.out.trans (oq.mono (fun i _ e => by rw [e]; exact HL2.out)))
  clear oq
  try clear hO
  try simp only []
  refine hK.out _ _ ?_ (fun hHeld => ?_)
  · exact ⟨HH_2.out.cell 7, HB_2.out.cell 0⟩
  clear hK K
  try simp only [Act.put, List.setIfInBounds_toArray, List.set_cons_zero, List.set_cons_succ]
  refine wpAnyH_done (by kernel_rfl) ?_ _
  obtain ⟨W3, hW3⟩ : ∃ W3, W3 = (W2.setCell ⟨g2, o2, none⟩ (.int .i64 2)).drew := ⟨_, rfl⟩
  rw [← hW3] at HH_2 HV_2 HB_2 HO_2 ⊢
  clear hW3
  go_upto_region 7 with (fail)
  clear HHs HVs HWs HBs HOs
  have HHs := Lib.hid HH_2.out.drew
  have HVs := Lib.hid HV_2.out.drew
  have HBs := Lib.hid HB_2.out.drew
  have HOs := Lib.hid HO_2.out.drew
  refine wp_region_held_drew (S := (fun W' => ((W'.cell? ⟨mb, 0, none⟩ = some (.int .i64 1) ∧ W'.cell? ⟨mb, 1, none⟩ = some (.int .i64 1)) ∧ (W'.cell? ⟨mb, 2, none⟩ = some (.int .i64 2) ∧ W'.cell? ⟨mb, 3, none⟩ = some (.int .i64 2)) ∧ W'.cell? ⟨mb, 4, none⟩ = some (.int .i64 1)) ∧ W'.cell? ⟨mb, 8, none⟩ = some (.slice (some ⟨vb, 0, none⟩) 2 2) ∧ W'.cell? ⟨w.heap.size, 0, none⟩ = some (.int .i64 0))) (by kernel_rfl) ?_ (fun hHeld => ?_)
  · exact ⟨⟨⟨HHs.out.cell 0, HHs.out.cell 1⟩, ⟨HHs.out.cell 2, HHs.out.cell 3⟩, HHs.out.cell 4⟩, HHs.out.cell 8, HBs.out.cell 0⟩
  refine wpAnyH_take (i := 0) (oi := { dst := some 59, op := Op.move (Operand.tmp 0), type := 62, pos := "l2p.go:67", after := #[], guard := none }) (v := ?_) rfl (by kernel_rfl) (by kernel_rfl) (by kernel_rfl) (fun _ _ _ h => h) (Or.inl ⟨by rfl, ?_⟩) (by assumption) ?_
  rotate_left
  · (intro w hSw; (try dsimp only at hSw); (try obtain ⟨hSa, hSb⟩ := hSw); go_simp; try with_reducible rfl)
  try simp only [Act.put, List.setIfInBounds_toArray, List.set_cons_zero, List.set_cons_succ]
  refine wpAnyH_take (i := 4) (oi := { dst := some 63, op := Op.fieldAddr 163 (Operand.tmp 5) 0, type := 0, pos := "l2p.go:67", after := #[], guard := none }) (v := ?_) rfl (by kernel_rfl) (by kernel_rfl) (by kernel_rfl) (fun _ _ _ h => h) (Or.inl ⟨by rfl, ?_⟩) (by assumption) ?_
  rotate_left
  · (intro w hSw; (try dsimp only at hSw); (try obtain ⟨hSa, hSb⟩ := hSw); go_simp; try with_reducible rfl)
  try simp only [Act.put, List.setIfInBounds_toArray, List.set_cons_zero, List.set_cons_succ]
  refine wpAnyH_take (i := 6) (oi := { dst := some 65, op := Op.move (Operand.tmp 0), type := 62, pos := "l2p.go:67", after := #[], guard := none }) (v := ?_) rfl (by kernel_rfl) (by kernel_rfl) (by kernel_rfl) (fun _ _ _ h => h) (Or.inl ⟨by rfl, ?_⟩) (by assumption) ?_
  rotate_left
  · (intro w hSw; (try dsimp only at hSw); (try obtain ⟨hSa, hSb⟩ := hSw); go_simp; try with_reducible rfl)
  try simp only [Act.put, List.setIfInBounds_toArray, List.set_cons_zero, List.set_cons_succ]
  refine wpAnyH_take (i := 1) (oi := { dst := some 60, op := Op.nilCheck (Operand.tmp 59), type := 0, pos := "l2p.go:67", after := #[{ on := 0, ground := Ground.data }], guard := none }) (v := ?_) rfl (by kernel_rfl) (by kernel_rfl) (by kernel_rfl) (fun _ _ _ h => h) (Or.inl ⟨by rfl, ?_⟩) (by assumption) ?_
  rotate_left
  · (intro w hSw; (try dsimp only at hSw); (try obtain ⟨hSa, hSb⟩ := hSw); go_simp; try with_reducible rfl)
  try simp only [Act.put, List.setIfInBounds_toArray, List.set_cons_zero, List.set_cons_succ]
  refine wpAnyH_take (i := 5) (oi := { dst := some 64, op := Op.load 3 (Operand.tmp 63), type := 3, pos := "l2p.go:67", after := #[{ on := 4, ground := Ground.data }], guard := none }) (v := ?_) rfl (by kernel_rfl) (by kernel_rfl) (by kernel_rfl) (fun _ _ _ h => h) (Or.inl ⟨by rfl, ?_⟩) (by assumption) ?_
  rotate_left
  · (intro w hSw; (try dsimp only at hSw); (try obtain ⟨hSa, hSb⟩ := hSw); go_simp; try with_reducible rfl)
  try simp only [Act.put, List.setIfInBounds_toArray, List.set_cons_zero, List.set_cons_succ]
  refine wpAnyH_take (i := 7) (oi := { dst := some 66, op := Op.nilCheck (Operand.tmp 65), type := 0, pos := "l2p.go:67", after := #[{ on := 6, ground := Ground.data }], guard := none }) (v := ?_) rfl (by kernel_rfl) (by kernel_rfl) (by kernel_rfl) (fun _ _ _ h => h) (Or.inl ⟨by rfl, ?_⟩) (by assumption) ?_
  rotate_left
  · (intro w hSw; (try dsimp only at hSw); (try obtain ⟨hSa, hSb⟩ := hSw); go_simp; try with_reducible rfl)
  try simp only [Act.put, List.setIfInBounds_toArray, List.set_cons_zero, List.set_cons_succ]
  refine wpAnyH_take (i := 2) (oi := { dst := some 61, op := Op.fieldAddr 142 (Operand.tmp 60) 4, type := 0, pos := "l2p.go:67", after := #[{ on := 1, ground := Ground.data }], guard := none }) (v := ?_) rfl (by kernel_rfl) (by kernel_rfl) (by kernel_rfl) (fun _ _ _ h => h) (Or.inl ⟨by rfl, ?_⟩) (by assumption) ?_
  rotate_left
  · (intro w hSw; (try dsimp only at hSw); (try obtain ⟨hSa, hSb⟩ := hSw); go_simp; try with_reducible rfl)
  try simp only [Act.put, List.setIfInBounds_toArray, List.set_cons_zero, List.set_cons_succ]
  refine wpAnyH_take (i := 8) (oi := { dst := some 67, op := Op.fieldAddr 142 (Operand.tmp 66) 0, type := 0, pos := "l2p.go:67", after := #[{ on := 7, ground := Ground.data }], guard := none }) (v := ?_) rfl (by kernel_rfl) (by kernel_rfl) (by kernel_rfl) (fun _ _ _ h => h) (Or.inl ⟨by rfl, ?_⟩) (by assumption) ?_
  rotate_left
  · (intro w hSw; (try dsimp only at hSw); (try obtain ⟨hSa, hSb⟩ := hSw); go_simp; try with_reducible rfl)
  try simp only [Act.put, List.setIfInBounds_toArray, List.set_cons_zero, List.set_cons_succ]
  refine wpAnyH_take (i := 3) (oi := { dst := some 62, op := Op.load 26 (Operand.tmp 61), type := 26, pos := "l2p.go:67", after := #[{ on := 2, ground := Ground.data }], guard := none }) (v := ?_) rfl (by kernel_rfl) (by kernel_rfl) (by kernel_rfl) (fun _ _ _ h => h) (Or.inl ⟨by rfl, ?_⟩) (by assumption) ?_
  rotate_left
  · (intro w hSw; (try dsimp only at hSw); (try obtain ⟨hSa, hSb⟩ := hSw); go_simp; try with_reducible rfl)
  try simp only [Act.put, List.setIfInBounds_toArray, List.set_cons_zero, List.set_cons_succ]
  refine wpAnyH_take (i := 9) (oi := { dst := some 68, op := Op.load 23 (Operand.tmp 67), type := 23, pos := "l2p.go:67", after := #[{ on := 8, ground := Ground.data }], guard := none }) (v := ?_) rfl (by kernel_rfl) (by kernel_rfl) (by kernel_rfl) (fun _ _ _ h => h) (Or.inl ⟨by rfl, ?_⟩) (by assumption) ?_
  rotate_left
  · (intro w hSw; (try dsimp only at hSw); (try obtain ⟨hSa, hSb⟩ := hSw); go_simp; try with_reducible rfl)
  try simp only [Act.put, List.setIfInBounds_toArray, List.set_cons_zero, List.set_cons_succ]
  refine wpAnyH_ready (rs := [10]) (by kernel_rfl) (by simp) ?_
  refine AllReadyH.cons (o := { dst := some 69, op := Op.call { callee := Callee.value (Operand.func 83), args := #[Operand.tmp 68], argTypes := #[23] }, type := 3, pos := "l2p.go:67", after := #[{ on := 9, ground := Ground.data }], guard := none }) rfl (fun K hK => ?_) AllReadyH.nil
  go_simp
  refine (HLN.out _).mono ?_
  rintro e ww_1 ⟨rfl, hO⟩
  have HH_1 := Lib.hid (HHs.out.only hO id)
  have HV_1 := Lib.hid (HVs.out.only hO id)
  have HB_1 := Lib.hid (HBs.out.only hO id)
  have HO_1 := Lib.hid (HOs.out.trans (hO.mono (fun _ _ h => h.elim)))
  try clear hO
  try simp only []
  refine hK.out _ _ ?_ (fun hHeld => ?_)
  · exact ⟨⟨⟨HH_1.out.cell 0, HH_1.out.cell 1⟩, ⟨HH_1.out.cell 2, HH_1.out.cell 3⟩, HH_1.out.cell 4⟩, HH_1.out.cell 8, HB_1.out.cell 0⟩
  clear hK K
  try simp only [Act.put, List.setIfInBounds_toArray, List.set_cons_zero, List.set_cons_succ]
  refine wpAnyH_take (i := 11) (oi := { dst := some 70, op := Op.binOp BinOp.quo 3 (Operand.tmp 64) (Operand.tmp 69) 3, type := 3, pos := "l2p.go:67", after := #[{ on := 5, ground := Ground.data }, { on := 10, ground := Ground.data }], guard := none }) (v := ?_) rfl (by kernel_rfl) (by kernel_rfl) (by kernel_rfl) (fun _ _ _ h => h) (Or.inl ⟨by rfl, ?_⟩) (by assumption) ?_
  rotate_left
  · (intro w hSw; (try dsimp only at hSw); (try obtain ⟨hSa, hSb⟩ := hSw); go_simp; try with_reducible rfl)
  try simp only [Act.put, List.setIfInBounds_toArray, List.set_cons_zero, List.set_cons_succ]
  refine wpAnyH_take (i := 12) (oi := { dst := some 71, op := Op.indexAddr 26 (Operand.tmp 62) (Operand.tmp 70), type := 0, pos := "l2p.go:67", after := #[{ on := 3, ground := Ground.data }, { on := 11, ground := Ground.data }], guard := none }) (v := ?_) rfl (by kernel_rfl) (by kernel_rfl) (by kernel_rfl) (fun _ _ _ h => h) (Or.inl ⟨by rfl, ?_⟩) (by assumption) ?_
  rotate_left
  · (intro w hSw; (try dsimp only at hSw); (try obtain ⟨hSa, hSb⟩ := hSw); go_simp; try with_reducible rfl)
  try simp only [Act.put, List.setIfInBounds_toArray, List.set_cons_zero, List.set_cons_succ]
  refine wpAnyH_ready (rs := [13]) (by kernel_rfl) (by simp) ?_
  refine AllReadyH.cons (o := { dst := some 72, op := Op.load 3 (Operand.tmp 71), type := 3, pos := "l2p.go:67", after := #[{ on := 12, ground := Ground.data }], guard := none }) rfl (fun K hK => ?_) AllReadyH.nil
  have v0 := HV_1.out.cell 0
  simp only [List.getElem?_toArray, List.getElem?_cons_zero, List.getElem?_cons_succ] at v0
  go_simp
  clear v0
  have hO := Only.refl (fun _ => False) ww_1
  have HH_2 := Lib.hid (HH_1.out.only hO id)
  have HV_2 := Lib.hid (HV_1.out.only hO id)
  have HB_2 := Lib.hid (HB_1.out.only hO id)
  have HO_2 := Lib.hid (HO_1.out.trans (hO.mono (fun _ _ h => h.elim)))
  try clear hO
  try simp only []
  refine hK.out _ _ ?_ (fun hHeld => ?_)
  · exact ⟨⟨⟨HH_2.out.cell 0, HH_2.out.cell 1⟩, ⟨HH_2.out.cell 2, HH_2.out.cell 3⟩, HH_2.out.cell 4⟩, HH_2.out.cell 8, HB_2.out.cell 0⟩
  clear hK K
  try simp only [Act.put, List.setIfInBounds_toArray, List.set_cons_zero, List.set_cons_succ]
  refine wpAnyH_take (i := 14) (oi := { dst := some 73, op := Op.binOp BinOp.add 3 (Operand.tmp 72) (Operand.const (Value.int IntKind.i64 1)) 3, type := 3, pos := "l2p.go:67", after := #[{ on := 13, ground := Ground.data }], guard := none }) (v := ?_) rfl (by kernel_rfl) (by kernel_rfl) (by kernel_rfl) (fun _ _ _ h => h) (Or.inl ⟨by rfl, ?_⟩) (by assumption) ?_
  rotate_left
  · (intro w hSw; (try dsimp only at hSw); (try obtain ⟨hSa, hSb⟩ := hSw); go_simp; try with_reducible rfl)
  try simp only [Act.put, List.setIfInBounds_toArray, List.set_cons_zero, List.set_cons_succ]
  refine wpAnyH_take (i := 15) (oi := { dst := some 74, op := Op.indexAddr 26 (Operand.tmp 62) (Operand.tmp 70), type := 0, pos := "l2p.go:67", after := #[{ on := 3, ground := Ground.data }, { on := 11, ground := Ground.data }, { on := 0, ground := Ground.phase }, { on := 1, ground := Ground.phase }, { on := 2, ground := Ground.phase }, { on := 3, ground := Ground.phase }, { on := 4, ground := Ground.phase }, { on := 5, ground := Ground.phase }, { on := 6, ground := Ground.phase }, { on := 7, ground := Ground.phase }, { on := 8, ground := Ground.phase }, { on := 9, ground := Ground.phase }, { on := 10, ground := Ground.phase }, { on := 11, ground := Ground.phase }, { on := 12, ground := Ground.phase }, { on := 13, ground := Ground.phase }, { on := 14, ground := Ground.phase }], guard := none }) (v := ?_) rfl (by kernel_rfl) (by kernel_rfl) (by kernel_rfl) (fun _ _ _ h => h) (Or.inl ⟨by rfl, ?_⟩) (by assumption) ?_
  rotate_left
  · (intro w hSw; (try dsimp only at hSw); (try obtain ⟨hSa, hSb⟩ := hSw); go_simp; try with_reducible rfl)
  try simp only [Act.put, List.setIfInBounds_toArray, List.set_cons_zero, List.set_cons_succ]
  refine wpAnyH_ready (rs := [16]) (by kernel_rfl) (by simp) ?_
  refine AllReadyH.cons (o := { dst := none, op := Op.store 3 (Operand.tmp 74) (Operand.tmp 73), type := 0, pos := "l2p.go:67", after := #[{ on := 15, ground := Ground.data }, { on := 14, ground := Ground.data }, { on := 10, ground := Ground.chain }, { on := 0, ground := Ground.phase }, { on := 1, ground := Ground.phase }, { on := 2, ground := Ground.phase }, { on := 3, ground := Ground.phase }, { on := 4, ground := Ground.phase }, { on := 5, ground := Ground.phase }, { on := 6, ground := Ground.phase }, { on := 7, ground := Ground.phase }, { on := 8, ground := Ground.phase }, { on := 9, ground := Ground.phase }, { on := 10, ground := Ground.phase }, { on := 11, ground := Ground.phase }, { on := 12, ground := Ground.phase }, { on := 13, ground := Ground.phase }, { on := 14, ground := Ground.phase }], guard := none }) rfl (fun K hK => ?_) AllReadyH.nil
  have v0 := HV_2.out.cell 0
  have v1 := HV_2.out.frozen 0
  simp only [List.getElem?_toArray, List.getElem?_cons_zero, List.getElem?_cons_succ] at v0
  go_simp
  clear v0 v1
  have oq := (Only.refl (fun i => i = vb) ww_1).setCell (p := ⟨vb, 0, none⟩) (fun _ => rfl) (.int .i64 1)
  have hV := HV_2.out.set 0 (.int .i64 1)
  simp only [List.setIfInBounds_toArray, List.set_cons_zero, List.set_cons_succ] at hV
  have HV_3 := Lib.hid hV
  have HH_3 := Lib.hid (HH_2.out.only oq (HH_2.out.ne HV_2.out (by decide)))
  have HB_3 := Lib.hid (HB_2.out.only oq (HB_2.out.ne HV_2.out (by decide)))
  have HO_3 := Lib.hid (HO_2.out.trans (oq.mono (fun i _ e => by rw [e]; exact HLO.out.1)))
  clear oq hV
  try clear hO
  try simp only []
  refine hK.out _ _ ?_ (fun hHeld => ?_)
  · exact ⟨⟨⟨HH_3.out.cell 0, HH_3.out.cell 1⟩, ⟨HH_3.out.cell 2, HH_3.out.cell 3⟩, HH_3.out.cell 4⟩, HH_3.out.cell 8, HB_3.out.cell 0⟩
  clear hK K
  try simp only [Act.put, List.setIfInBounds_toArray, List.set_cons_zero, List.set_cons_succ]
  refine wpAnyH_done (by kernel_rfl) ?_ _
  go_wp2
  refine bodyPost_end (results_none rfl _ _ _) rfl ?_
  exact ⟨rfl, HH_3.out, HV_3.out, HO_3.out⟩
end Go.Proofs.YtjobaplioidogaaGreat
