/- Plan: the walk of PlanSays. -/
import Derived.Test.YtanoicdjbbmimaaE
import Derived.Deep.RegionWith
import Derived.Deep.DrawnRows
import Derived.Deep.DeepCutAuto
namespace Go.Proofs.Ytanoicdjbbmimaa
open Go.RowKit
attribute [local go_sem ↓] Go.wp_at_zero Go.wp_at_succ

def SaysInv (w : World) (b1 g1 b2 g2 : Nat) (l : List Int) (k : Nat) (wr : World) : Prop :=
  PlanAt wr b1 g1 39 (l.drop k) (k : Int) ∧ PlanAt wr b2 g2 33 l (k : Int) ∧ Only (fun i => w.heap.size ≤ i) w wr

set_option maxRecDepth 100000 in
set_option maxHeartbeats 8000000 in
theorem planSays_walk (ga gb off c1 c2 : Nat) (A1 : Option Addr) (l asks : List Int) (w : World) (hl : Rd w ga A1 (bv l)) (hl5 : ∀ x ∈ l, 0 ≤ x ∧ x ≤ 255)
    (hgb : gb < w.heap.size) (ha : ∀ (j : Nat) (u : Value), (iv asks)[j]? = some u → w.cell? ⟨gb, off + j, none⟩ = some u) :
    Calls Try.prog 3 #[.slice A1 l.length c1, .slice (some ⟨gb, off, none⟩) asks.length c2] w fun e w' => e = .returned (.bool true) ∧ Below w.heap.size w w' := by
  have HA := Lib.hid ha
  clear ha
  have H5 := Lib.hid hl5
  clear hl5
  have HL := Lib.hid hl
  clear hl
  by_cases hbig : 2000 < l.length
  · go_enter Try.func3, Try.ntmps3
    go_wp2_with (go_at_call 7; refine (awake_any _).mono ?_; rintro e w0 ⟨rfl, hB0⟩)
    go_ret
    exact ⟨rfl, hB0⟩
  · have hsm : l.length ≤ 2000 := by omega
    clear hbig
    go_enter Try.func3, Try.ntmps3
    go_wp2_with (fail)
    refine (awake_any _).mono ?_
    rintro e w0 ⟨rfl, hB0⟩
    have h0 := Lib.hid (new_any ga A1 c1 l w0 (HL.out.only (Only.of_below (S := fun _ => False) hB0) id) (by omega))
    have hO0 : Only (fun i => w.heap.size ≤ i) w w0 := Only.of_below hB0
    have HO0 := Lib.hid hO0
    clear hO0 hB0
    go_wp2_with (fail)
    refine h0.out.mono ?_
    rintro e w1 ⟨b1, g1, rfl, hb1, hg1, hlt1, hgl1, hP1, hO1⟩
    have hO1' := HO0.out.trans (hO1.toOld _)
    have h1 := Lib.hid (refNew_any ga A1 c1 l w1 (HL.out.old hO1' (Nat.le_refl _)) (by omega))
    have hs0 := HO0.out.size
    have HO1 := Lib.hid hO1'
    have HP1 := Lib.hid hP1
    have Hb : Hid (w.heap.size ≤ b1 ∧ w.heap.size ≤ g1 ∧ b1 < w1.heap.size ∧ g1 < w1.heap.size) := ⟨by omega, by omega, hlt1, hgl1⟩
    clear hO1 hO1' hP1 hb1 hg1 hlt1 hgl1 hs0 h0 HO0
    go_wp2_with (fail)
    refine h1.out.mono ?_
    rintro e w2 ⟨b2, g2, rfl, hb2, hg2, hlt2, hgl2, hP2, hO2⟩
    have hI : SaysInv w b1 g1 b2 g2 l 0 w2 := ⟨by simpa using HP1.out.only hO2 id id, by simpa using hP2, HO1.out.trans (hO2.toOld _)⟩
    have hs1 := HO1.out.size
    obtain ⟨q1, q2, q3, q4⟩ := Hb.out
    have HQ : Hid (w.heap.size ≤ b1 ∧ w.heap.size ≤ g1 ∧ w.heap.size ≤ b2 ∧ w.heap.size ≤ g2 ∧ b1 ≠ b2 ∧ b1 ≠ g2 ∧ g1 ≠ b2 ∧ g1 ≠ g2) := ⟨q1, q2, by omega, by omega, by omega, by omega, by omega, by omega⟩
    have HI := Lib.hid hI
    clear hI hs1 q1 q2 q3 q4 Hb hb2 hg2 hlt2 hgl2 hP2 hO2 HO1 HP1 h1
    go_wp2
    go_loopw [8] (fun v wr => ∃ k : Nat, k ≤ asks.length ∧ k ≤ 300 ∧ v = .int .i64 k ∧ SaysInv w b1 g1 b2 g2 l k wr) (fun v _ => 300 - (intOf v).toNat)
    case atStart => exact ⟨0, by omega, by omega, rfl, HI.out⟩
    case round =>
      clear HI
      obtain ⟨k, hk, hk3, rfl, hI⟩ := hrel
      by_cases h1 : k < asks.length
      · by_cases h2 : k < 300
        · obtain ⟨y, hy⟩ : ∃ y, asks[k]? = some y := ⟨_, List.getElem?_eq_getElem h1⟩
          have hcell0 := HA.out k (.int .i64 y) (by simp [hy])
          have hc1 : wr.cell? ⟨gb, off + k, none⟩ = some (.int .i64 y) := (hI.2.2.cell hgb (by simpa using hgb)).trans hcell0
          obtain ⟨p1, p2, p3, p4, p5, p6, p7, p8⟩ := HQ.out
          have hn1 := next_any b1 g1 (l.drop k) k y wr hI.1 (by omega) (by omega) (fun x hx => H5.out x (List.mem_of_mem_drop hx))
          have Hn1 := Lib.hid hn1
          have HI := Lib.hid hI
          clear hn1 hI hy
          go_wp2_with (fail)
          refine Hn1.out.mono ?_
          rintro e w3 ⟨rfl, hP3, hO3⟩
          have hc3 : w3.cell? ⟨gb, off + k, none⟩ = some (.int .i64 y) := (hO3.cell (World.block_lt_of_cell? _ _ hc1) (by simp; omega)).trans hc1
          have hn2 := refNext_any b2 g2 l k y w3 (HI.out.2.1.only hO3 (by omega) (by omega)) (by omega) (fun x hx => H5.out x hx)
          have Hn2 := Lib.hid hn2
          have HP3 := Lib.hid hP3
          have HO3 := Lib.hid hO3
          clear hn2 hP3 hO3 Hn1 hc1
          go_wp2_with (fail)
          refine Hn2.out.mono ?_
          rintro e w4 ⟨rfl, hP4, hO4⟩
          have hP4' : PlanAt w4 b1 g1 39 (l.drop (k + 1)) ((k : Int) + 1) := by
            have := HP3.out.only hO4 (by omega) (by omega)
            simpa using this
          obtain ⟨l', hl'⟩ : ∃ l', l.drop (k + 1) = l' := ⟨_, rfl⟩
          rw [hl'] at hP4'
          have Hl' := Lib.hid hl'
          have HP4' := Lib.hid hP4'
          have hl'len : l'.length ≤ 1000000 := by rw [← hl', List.length_drop]; omega
          have H12 : Hid (Calls Try.prog 12 #[.pointer (some ⟨b1, 0, none⟩)] w4.drew fun e w' => e = .returned (.int .i64 ((k : Int) + 1)) ∧ w4.drew = w') := by
            obtain ⟨A, c, q, _⟩ := hP4'
            exact many_any b1 _ _ w4.drew q.drew
          have H13 : Hid (Calls Try.prog 13 #[.pointer (some ⟨b1, 0, none⟩)] w4.drew (RestPost w4.drew l')) := rest_any b1 g1 l' _ w4.drew (hP4'.drewN 1) hl'len
          have hc4 : w4.cell? ⟨b2, 1, none⟩ = some (.int .i64 ((k : Int) + 1)) := by
            obtain ⟨A, c, q, _⟩ := hP4
            exact q.cell 1
          have hP4c : PlanAt w4 b2 g2 33 l ((k + 1 : Nat) : Int) := by simpa using hP4
          have HP4 := Lib.hid hP4
          have HP4c := Lib.hid hP4c
          clear hP4c
          have hb2lt : b2 < w4.heap.size := World.block_lt_of_cell? _ _ hc4
          have HO4 := Lib.hid hO4
          generalize nextA (List.drop k l) = na
          generalize nextB (List.drop k l) y = nb
          have ea : (na != na) = false := by simp
          have eb : (nb != nb) = false := by simp
          have ek : ((k : Int) + 1 != (k : Int) + 1) = false := by simp
          clear hl' hP4 hP4' hO4 Hn2
          go_wp2_with (fail)
          refine wp_region_held_drew (S := (fun W => W.cell? ⟨b2, 1, none⟩ = some (.int .i64 ((k : Int) + 1)))) (by kernel_rfl) ?_ (fun hHeld => ?_)
          · exact hc4
          refine wpAnyH_take (i := 0) (oi := { dst := some 52, op := Op.move (Operand.tmp 9), type := 3, pos := "law.go:33", after := #[], guard := none }) (v := ?_) rfl (by kernel_rfl) (by kernel_rfl) (by kernel_rfl) (fun _ _ _ h => h) (Or.inl ⟨by rfl, ?_⟩) (by assumption) ?_
          rotate_left
          · (intro w hSw; (try dsimp only at hSw); (try obtain ⟨hSa, hSb⟩ := hSw); go_simp; try with_reducible rfl)
          try simp only [Act.put, List.setIfInBounds_toArray, List.set_cons_zero, List.set_cons_succ]
          refine wpAnyH_take (i := 1) (oi := { dst := some 53, op := Op.move (Operand.tmp 11), type := 3, pos := "law.go:33", after := #[], guard := none }) (v := ?_) rfl (by kernel_rfl) (by kernel_rfl) (by kernel_rfl) (fun _ _ _ h => h) (Or.inl ⟨by rfl, ?_⟩) (by assumption) ?_
          rotate_left
          · (intro w hSw; (try dsimp only at hSw); (try obtain ⟨hSa, hSb⟩ := hSw); go_simp; try with_reducible rfl)
          try simp only [Act.put, List.setIfInBounds_toArray, List.set_cons_zero, List.set_cons_succ]
          refine wpAnyH_take (i := 2) (oi := { dst := some 54, op := Op.binOp BinOp.neq 3 (Operand.tmp 52) (Operand.tmp 53) 3, type := 4, pos := "law.go:33", after := #[{ on := 0, ground := Ground.data }, { on := 1, ground := Ground.data }], guard := none }) (v := ?_) rfl (by kernel_rfl) (by kernel_rfl) (by kernel_rfl) (fun _ _ _ h => h) (Or.inl ⟨by rfl, ?_⟩) (by assumption) ?_
          rotate_left
          · (intro w hSw; (try dsimp only at hSw); (try obtain ⟨hSa, hSb⟩ := hSw); go_simp; try with_reducible rfl)
          try simp only [Act.put, List.setIfInBounds_toArray, List.set_cons_zero, List.set_cons_succ]
          refine wpAnyH_take (i := 3) (oi := { dst := some 55, op := Op.move (Operand.tmp 54), type := 4, pos := "law.go:33", after := #[{ on := 2, ground := Ground.data }], guard := none }) (v := ?_) rfl (by kernel_rfl) (by kernel_rfl) (by kernel_rfl) (fun _ _ _ h => h) (Or.inl ⟨by rfl, ?_⟩) (by assumption) ?_
          rotate_left
          · (intro w hSw; (try dsimp only at hSw); (try obtain ⟨hSa, hSb⟩ := hSw); go_simp; try with_reducible rfl)
          try simp only [Act.put, List.setIfInBounds_toArray, List.set_cons_zero, List.set_cons_succ]
          refine wpAnyH_take (i := 4) (oi := { dst := some 56, op := Op.move (Operand.tmp 10), type := 3, pos := "law.go:33", after := #[{ on := 3, ground := Ground.guard }], guard := some (3, false) }) (v := ?_) rfl (by kernel_rfl) (by kernel_rfl) (by kernel_rfl) (fun _ _ _ h => h) (Or.inl ⟨by rfl, ?_⟩) (by assumption) ?_
          rotate_left
          · (intro w hSw; (try dsimp only at hSw); (try obtain ⟨hSa, hSb⟩ := hSw); go_simp; try with_reducible rfl)
          try simp only [Act.put, List.setIfInBounds_toArray, List.set_cons_zero, List.set_cons_succ]
          refine wpAnyH_take (i := 5) (oi := { dst := some 57, op := Op.move (Operand.tmp 12), type := 3, pos := "law.go:33", after := #[{ on := 3, ground := Ground.guard }], guard := some (3, false) }) (v := ?_) rfl (by kernel_rfl) (by kernel_rfl) (by kernel_rfl) (fun _ _ _ h => h) (Or.inl ⟨by rfl, ?_⟩) (by assumption) ?_
          rotate_left
          · (intro w hSw; (try dsimp only at hSw); (try obtain ⟨hSa, hSb⟩ := hSw); go_simp; try with_reducible rfl)
          try simp only [Act.put, List.setIfInBounds_toArray, List.set_cons_zero, List.set_cons_succ]
          refine wpAnyH_take (i := 6) (oi := { dst := some 58, op := Op.binOp BinOp.neq 3 (Operand.tmp 56) (Operand.tmp 57) 3, type := 4, pos := "law.go:33", after := #[{ on := 4, ground := Ground.data }, { on := 5, ground := Ground.data }, { on := 3, ground := Ground.guard }], guard := some (3, false) }) (v := ?_) rfl (by kernel_rfl) (by kernel_rfl) (by kernel_rfl) (fun _ _ _ h => h) (Or.inl ⟨by rfl, ?_⟩) (by assumption) ?_
          rotate_left
          · (intro w hSw; (try dsimp only at hSw); (try obtain ⟨hSa, hSb⟩ := hSw); go_simp; try with_reducible rfl)
          try simp only [Act.put, List.setIfInBounds_toArray, List.set_cons_zero, List.set_cons_succ]
          refine wpAnyH_take (i := 7) (oi := { dst := some 59, op := Op.pick (Operand.tmp 55) (Operand.const (Value.bool true)) (Operand.tmp 58), type := 4, pos := "law.go:33", after := #[{ on := 3, ground := Ground.data }, { on := 6, ground := Ground.data }], guard := none }) (v := ?_) rfl (by kernel_rfl) (by kernel_rfl) (by kernel_rfl) (fun _ _ _ h => h) (Or.inl ⟨by rfl, ?_⟩) (by assumption) ?_
          rotate_left
          · (intro w hSw; (try dsimp only at hSw); (try obtain ⟨hSa, hSb⟩ := hSw); go_simp; try with_reducible rfl)
          try simp only [Act.put, List.setIfInBounds_toArray, List.set_cons_zero, List.set_cons_succ]
          refine wpAnyH_take (i := 8) (oi := { dst := some 60, op := Op.move (Operand.tmp 59), type := 4, pos := "law.go:33", after := #[{ on := 7, ground := Ground.data }, { on := 3, ground := Ground.chain }], guard := none }) (v := ?_) rfl (by kernel_rfl) (by kernel_rfl) (by kernel_rfl) (fun _ _ _ h => h) (Or.inl ⟨by rfl, ?_⟩) (by assumption) ?_
          rotate_left
          · (intro w hSw; (try dsimp only at hSw); (try obtain ⟨hSa, hSb⟩ := hSw); go_simp; try with_reducible rfl)
          try simp only [Act.put, List.setIfInBounds_toArray, List.set_cons_zero, List.set_cons_succ]
          refine wpAnyH_take (i := 9) (oi := { dst := some 61, op := Op.move (Operand.tmp 6), type := 25, pos := "law.go:33", after := #[{ on := 8, ground := Ground.guard }], guard := some (8, false) }) (v := ?_) rfl (by kernel_rfl) (by kernel_rfl) (by kernel_rfl) (fun _ _ _ h => h) (Or.inl ⟨by rfl, ?_⟩) (by assumption) ?_
          rotate_left
          · (intro w hSw; (try dsimp only at hSw); (try obtain ⟨hSa, hSb⟩ := hSw); go_simp; try with_reducible rfl)
          try simp only [Act.put, List.setIfInBounds_toArray, List.set_cons_zero, List.set_cons_succ]
          refine wpAnyH_take (i := 11) (oi := { dst := some 63, op := Op.move (Operand.tmp 7), type := 27, pos := "law.go:33", after := #[{ on := 8, ground := Ground.guard }], guard := some (8, false) }) (v := ?_) rfl (by kernel_rfl) (by kernel_rfl) (by kernel_rfl) (fun _ _ _ h => h) (Or.inl ⟨by rfl, ?_⟩) (by assumption) ?_
          rotate_left
          · (intro w hSw; (try dsimp only at hSw); (try obtain ⟨hSa, hSb⟩ := hSw); go_simp; try with_reducible rfl)
          try simp only [Act.put, List.setIfInBounds_toArray, List.set_cons_zero, List.set_cons_succ]
          refine wpAnyH_take (i := 12) (oi := { dst := some 64, op := Op.nilCheck (Operand.tmp 63), type := 0, pos := "law.go:33", after := #[{ on := 11, ground := Ground.data }, { on := 8, ground := Ground.guard }], guard := some (8, false) }) (v := ?_) rfl (by kernel_rfl) (by kernel_rfl) (by kernel_rfl) (fun _ _ _ h => h) (Or.inl ⟨by rfl, ?_⟩) (by assumption) ?_
          rotate_left
          · (intro w hSw; (try dsimp only at hSw); (try obtain ⟨hSa, hSb⟩ := hSw); go_simp; try with_reducible rfl)
          try simp only [Act.put, List.setIfInBounds_toArray, List.set_cons_zero, List.set_cons_succ]
          refine wpAnyH_take (i := 13) (oi := { dst := some 65, op := Op.fieldAddr 33 (Operand.tmp 64) 1, type := 0, pos := "law.go:33", after := #[{ on := 12, ground := Ground.data }, { on := 8, ground := Ground.guard }], guard := some (8, false) }) (v := ?_) rfl (by kernel_rfl) (by kernel_rfl) (by kernel_rfl) (fun _ _ _ h => h) (Or.inl ⟨by rfl, ?_⟩) (by assumption) ?_
          rotate_left
          · (intro w hSw; (try dsimp only at hSw); (try obtain ⟨hSa, hSb⟩ := hSw); go_simp; try with_reducible rfl)
          try simp only [Act.put, List.setIfInBounds_toArray, List.set_cons_zero, List.set_cons_succ]
          refine wpAnyH_take (i := 14) (oi := { dst := some 66, op := Op.load 3 (Operand.tmp 65), type := 3, pos := "law.go:33", after := #[{ on := 13, ground := Ground.data }, { on := 8, ground := Ground.guard }], guard := some (8, false) }) (v := ?_) rfl (by kernel_rfl) (by kernel_rfl) (by kernel_rfl) (fun _ _ _ h => h) (Or.inl ⟨by rfl, ?_⟩) (by assumption) ?_
          rotate_left
          · (intro w hSw; (try dsimp only at hSw); (try obtain ⟨hSa, hSb⟩ := hSw); go_simp; try with_reducible rfl)
          try simp only [Act.put, List.setIfInBounds_toArray, List.set_cons_zero, List.set_cons_succ]
          refine wpAnyH_ready (rs := [10]) (by kernel_rfl) (by simp) ?_
          refine AllReadyH.cons (o := { dst := some 62, op := Op.call { callee := Callee.value (Operand.func 12), args := #[Operand.tmp 61], argTypes := #[25] }, type := 3, pos := "law.go:33", after := #[{ on := 9, ground := Ground.data }, { on := 8, ground := Ground.chain }, { on := 8, ground := Ground.guard }], guard := some (8, false) }) rfl (fun K hK => ?_) AllReadyH.nil
          go_simp
          (go_at_call 12; refine H12.out.mono ?_; rintro e w' ⟨rfl, rfl⟩)
          refine hK.out _ _ ?_ (fun hHeld => ?_)
          · exact hc4
          clear hK K
          try simp only [Act.put, List.setIfInBounds_toArray, List.set_cons_zero, List.set_cons_succ]
          refine wpAnyH_take (i := 15) (oi := { dst := some 67, op := Op.binOp BinOp.neq 3 (Operand.tmp 62) (Operand.tmp 66) 3, type := 4, pos := "law.go:33", after := #[{ on := 10, ground := Ground.data }, { on := 14, ground := Ground.data }, { on := 8, ground := Ground.guard }], guard := some (8, false) }) (v := ?_) rfl (by kernel_rfl) (by kernel_rfl) (by kernel_rfl) (fun _ _ _ h => h) (Or.inl ⟨by rfl, ?_⟩) (by assumption) ?_
          rotate_left
          · (intro w hSw; (try dsimp only at hSw); (try obtain ⟨hSa, hSb⟩ := hSw); go_simp; try with_reducible rfl)
          try simp only [Act.put, List.setIfInBounds_toArray, List.set_cons_zero, List.set_cons_succ]
          refine wpAnyH_take (i := 16) (oi := { dst := some 68, op := Op.pick (Operand.tmp 60) (Operand.const (Value.bool true)) (Operand.tmp 67), type := 4, pos := "law.go:33", after := #[{ on := 8, ground := Ground.data }, { on := 15, ground := Ground.data }], guard := none }) (v := ?_) rfl (by kernel_rfl) (by kernel_rfl) (by kernel_rfl) (fun _ _ _ h => h) (Or.inl ⟨by rfl, ?_⟩) (by assumption) ?_
          rotate_left
          · (intro w hSw; (try dsimp only at hSw); (try obtain ⟨hSa, hSb⟩ := hSw); go_simp; try with_reducible rfl)
          try simp only [Act.put, List.setIfInBounds_toArray, List.set_cons_zero, List.set_cons_succ]
          refine wpAnyH_take (i := 17) (oi := { dst := some 69, op := Op.move (Operand.tmp 68), type := 4, pos := "law.go:33", after := #[{ on := 16, ground := Ground.data }, { on := 10, ground := Ground.chain }], guard := none }) (v := ?_) rfl (by kernel_rfl) (by kernel_rfl) (by kernel_rfl) (fun _ _ _ h => h) (Or.inl ⟨by rfl, ?_⟩) (by assumption) ?_
          rotate_left
          · (intro w hSw; (try dsimp only at hSw); (try obtain ⟨hSa, hSb⟩ := hSw); go_simp; try with_reducible rfl)
          try simp only [Act.put, List.setIfInBounds_toArray, List.set_cons_zero, List.set_cons_succ]
          refine wpAnyH_take (i := 18) (oi := { dst := some 70, op := Op.move (Operand.tmp 6), type := 25, pos := "law.go:33", after := #[{ on := 17, ground := Ground.guard }], guard := some (17, false) }) (v := ?_) rfl (by kernel_rfl) (by kernel_rfl) (by kernel_rfl) (fun _ _ _ h => h) (Or.inl ⟨by rfl, ?_⟩) (by assumption) ?_
          rotate_left
          · (intro w hSw; (try dsimp only at hSw); (try obtain ⟨hSa, hSb⟩ := hSw); go_simp; try with_reducible rfl)
          try simp only [Act.put, List.setIfInBounds_toArray, List.set_cons_zero, List.set_cons_succ]
          refine wpAnyH_take (i := 21) (oi := { dst := some 73, op := Op.move (Operand.tmp 7), type := 27, pos := "law.go:33", after := #[{ on := 17, ground := Ground.guard }], guard := some (17, false) }) (v := ?_) rfl (by kernel_rfl) (by kernel_rfl) (by kernel_rfl) (fun _ _ _ h => h) (Or.inl ⟨by rfl, ?_⟩) (by assumption) ?_
          rotate_left
          · (intro w hSw; (try dsimp only at hSw); (try obtain ⟨hSa, hSb⟩ := hSw); go_simp; try with_reducible rfl)
          try simp only [Act.put, List.setIfInBounds_toArray, List.set_cons_zero, List.set_cons_succ]
          refine wpAnyH_ready (rs := [19]) (by kernel_rfl) (by simp) ?_
          refine AllReadyH.cons (o := { dst := some 71, op := Op.call { callee := Callee.value (Operand.func 13), args := #[Operand.tmp 70], argTypes := #[25] }, type := 22, pos := "law.go:33", after := #[{ on := 18, ground := Ground.data }, { on := 17, ground := Ground.chain }, { on := 17, ground := Ground.guard }], guard := some (17, false) }) rfl (fun K hK => ?_) AllReadyH.nil
          go_simp
          (go_at_call 13; refine H13.out.mono ?_; rintro e w5 ⟨A5, c5, rfl, hc5', hown5, hlt5, hO5⟩)
          have hc5 : w5.cell? ⟨b2, 1, none⟩ = some (.int .i64 ((k : Int) + 1)) := (hO5.cell (p := ⟨b2, 1, none⟩) hb2lt id).trans hc4
          have H14 := Lib.hid (refRest_at (l' := l') ((PlanAt.drewN HP4c.out 1).only hO5 id id) (by omega) Hl'.out)
          obtain ⟨g5, _, _, hrd5⟩ := Rd.of_row hown5 hlt5
          have cv5 : Hid (∀ m, (convert 22 9 (.slice A5 l'.length c5)).run Try.prog (w5.drewN m) = .ok (.string (strOf l')) (w5.drewN m)) := fun m => conv_any (hrd5.only ((Only.refl (fun _ => False) w5).drewN m) id)
          have HO5 := Lib.hid hO5
          clear hO5 hrd5 hown5 hlt5 hc5'
          refine hK.out _ _ ?_ (fun hHeld => ?_)
          · exact hc5
          clear hK K
          try simp only [Act.put, List.setIfInBounds_toArray, List.set_cons_zero, List.set_cons_succ]
          refine wpAnyH_switch (S' := (fun W => W.cell? ⟨b2, 1, none⟩ = some (.int .i64 ((k : Int) + 1)) ∧ (convert 22 9 (.slice A5 l'.length c5)).run Try.prog W = .ok (.string (strOf l')) W)) (fun _ h => h.1) ?_
          have hHeld' := And.intro hc5 (cv5.out 0)
          refine wpAnyH_take (i := 20) (oi := { dst := some 72, op := Op.convert 22 9 (Operand.tmp 71), type := 9, pos := "law.go:33", after := #[{ on := 19, ground := Ground.data }, { on := 17, ground := Ground.guard }], guard := some (17, false) }) (v := ?_) rfl (by kernel_rfl) (by kernel_rfl) (by kernel_rfl) (fun _ _ _ h => h) (Or.inl ⟨by rfl, ?_⟩) (by assumption) ?_
          rotate_left
          · (intro w hSw; (try dsimp only at hSw); (try obtain ⟨hSa, hSb⟩ := hSw); go_simp; try with_reducible rfl)
          try simp only [Act.put, List.setIfInBounds_toArray, List.set_cons_zero, List.set_cons_succ]
          refine wpAnyH_ready (rs := [22]) (by kernel_rfl) (by simp) ?_
          refine AllReadyH.cons (o := { dst := some 74, op := Op.call { callee := Callee.value (Operand.func 14), args := #[Operand.tmp 73], argTypes := #[27] }, type := 22, pos := "law.go:33", after := #[{ on := 21, ground := Ground.data }, { on := 19, ground := Ground.chain }, { on := 17, ground := Ground.guard }], guard := some (17, false) }) rfl (fun K hK => ?_) AllReadyH.nil
          go_simp
          (go_at_call 14; refine H14.out.mono ?_; rintro e w6 ⟨A6, c6, m6, rfl, hr6, rfl⟩)
          have cv6 := Lib.hid (conv_any (c := c6) hr6)
          clear hr6
          refine hK.out _ _ ?_ (fun hHeld => ?_)
          · exact ⟨hc5, cv5.out m6⟩
          clear hK K
          try simp only [Act.put, List.setIfInBounds_toArray, List.set_cons_zero, List.set_cons_succ]
          refine wpAnyH_switch (S' := (fun W => (convert 22 9 (.slice A6 l'.length c6)).run Try.prog W = .ok (.string (strOf l')) W ∧ (W.cell? ⟨b2, 1, none⟩ = some (.int .i64 ((k : Int) + 1)) ∧ (convert 22 9 (.slice A5 l'.length c5)).run Try.prog W = .ok (.string (strOf l')) W))) (fun _ h => h.2) ?_
          have hHeld' := And.intro cv6.out (And.intro hc5 (cv5.out m6))
          refine wpAnyH_take (i := 23) (oi := { dst := some 75, op := Op.convert 22 9 (Operand.tmp 74), type := 9, pos := "law.go:33", after := #[{ on := 22, ground := Ground.data }, { on := 17, ground := Ground.guard }], guard := some (17, false) }) (v := ?_) rfl (by kernel_rfl) (by kernel_rfl) (by kernel_rfl) (fun _ _ _ h => h) (Or.inl ⟨by rfl, ?_⟩) (by assumption) ?_
          rotate_left
          · (intro w hSw; (try dsimp only at hSw); (try obtain ⟨hSa, hSb⟩ := hSw); go_simp; try with_reducible rfl)
          try simp only [Act.put, List.setIfInBounds_toArray, List.set_cons_zero, List.set_cons_succ]
          refine wpAnyH_take (i := 24) (oi := { dst := some 76, op := Op.binOp BinOp.neq 9 (Operand.tmp 72) (Operand.tmp 75) 9, type := 4, pos := "law.go:33", after := #[{ on := 20, ground := Ground.data }, { on := 23, ground := Ground.data }, { on := 17, ground := Ground.guard }], guard := some (17, false) }) (v := ?_) rfl (by kernel_rfl) (by kernel_rfl) (by kernel_rfl) (fun _ _ _ h => h) (Or.inl ⟨by rfl, ?_⟩) (by assumption) ?_
          rotate_left
          · (intro w hSw; (try dsimp only at hSw); (try obtain ⟨hSa, hSb⟩ := hSw); go_simp; try with_reducible rfl)
          try simp only [Act.put, List.setIfInBounds_toArray, List.set_cons_zero, List.set_cons_succ]
          refine wpAnyH_take (i := 25) (oi := { dst := some 77, op := Op.pick (Operand.tmp 69) (Operand.const (Value.bool true)) (Operand.tmp 76), type := 4, pos := "law.go:33", after := #[{ on := 17, ground := Ground.data }, { on := 24, ground := Ground.data }], guard := none }) (v := ?_) rfl (by kernel_rfl) (by kernel_rfl) (by kernel_rfl) (fun _ _ _ h => h) (Or.inl ⟨by rfl, ?_⟩) (by assumption) ?_
          rotate_left
          · (intro w hSw; (try dsimp only at hSw); (try obtain ⟨hSa, hSb⟩ := hSw); go_simp; try with_reducible rfl)
          try simp only [Act.put, List.setIfInBounds_toArray, List.set_cons_zero, List.set_cons_succ]
          refine wpAnyH_done (by kernel_rfl) ?_ _
          go_wp2
          go_roundw
          case rel =>
            refine ⟨k + 1, by omega, by omega, by go_num, ?_⟩
            have hO6 : Only (fun _ => False) w4 (w5.drewN m6) := (((Only.refl (fun _ => False) w4).drewN 1).trans HO5.out).drewN m6
            refine ⟨?_, HP4c.out.only hO6 id id, ?_⟩
            · rw [Hl'.out]; simpa using HP4'.out.only hO6 id id
            · exact HI.out.2.2.trans ((HO3.out.mono (fun i _ h => by subst h; exact p1)).trans ((HO4.out.mono (fun i _ h => by subst h; exact p3)).trans (hO6.mono (fun _ _ h => h.elim))))
          case measure => simp [intOf]; omega
        · go_wp2
          go_ret
          exact ⟨rfl, hI.2.2.below (Nat.le_refl _) (fun i hi h => by omega)⟩
      · go_wp2
        go_ret
        exact ⟨rfl, hI.2.2.below (Nat.le_refl _) (fun i hi h => by omega)⟩
set_option maxRecDepth 100000 in
set_option maxHeartbeats 8000000 in
theorem planSays_nil (ga c1 c2 : Nat) (A1 A2 : Option Addr) (l : List Int) (w : World) (hl : Rd w ga A1 (bv l)) (hl5 : ∀ x ∈ l, 0 ≤ x ∧ x ≤ 255) :
    Calls Try.prog 3 #[.slice A1 l.length c1, .slice A2 0 c2] w fun e w' => e = .returned (.bool true) ∧ Below w.heap.size w w' := by
  have H5 := Lib.hid hl5
  clear hl5
  have HL := Lib.hid hl
  clear hl
  by_cases hbig : 2000 < l.length
  · go_enter Try.func3, Try.ntmps3
    go_wp2_with (go_at_call 7; refine (awake_any _).mono ?_; rintro e w0 ⟨rfl, hB0⟩)
    go_ret
    exact ⟨rfl, hB0⟩
  · have hsm : l.length ≤ 2000 := by omega
    clear hbig
    go_enter Try.func3, Try.ntmps3
    go_wp2_with (fail)
    refine (awake_any _).mono ?_
    rintro e w0 ⟨rfl, hB0⟩
    have h0 := Lib.hid (new_any ga A1 c1 l w0 (HL.out.only (Only.of_below (S := fun _ => False) hB0) id) (by omega))
    have hO0 : Only (fun i => w.heap.size ≤ i) w w0 := Only.of_below hB0
    have HO0 := Lib.hid hO0
    clear hO0 hB0
    go_wp2_with (fail)
    refine h0.out.mono ?_
    rintro e w1 ⟨b1, g1, rfl, hb1, hg1, hlt1, hgl1, hP1, hO1⟩
    have hO1' := HO0.out.trans (hO1.toOld _)
    have h1 := Lib.hid (refNew_any ga A1 c1 l w1 (HL.out.old hO1' (Nat.le_refl _)) (by omega))
    have hs0 := HO0.out.size
    have HO1 := Lib.hid hO1'
    have HP1 := Lib.hid hP1
    have Hb : Hid (w.heap.size ≤ b1 ∧ w.heap.size ≤ g1 ∧ b1 < w1.heap.size ∧ g1 < w1.heap.size) := ⟨by omega, by omega, hlt1, hgl1⟩
    clear hO1 hO1' hP1 hb1 hg1 hlt1 hgl1 hs0 h0 HO0
    go_wp2_with (fail)
    refine h1.out.mono ?_
    rintro e w2 ⟨b2, g2, rfl, hb2, hg2, hlt2, hgl2, hP2, hO2⟩
    have hI : SaysInv w b1 g1 b2 g2 l 0 w2 := ⟨by simpa using HP1.out.only hO2 id id, by simpa using hP2, HO1.out.trans (hO2.toOld _)⟩
    have hs1 := HO1.out.size
    obtain ⟨q1, q2, q3, q4⟩ := Hb.out
    have HQ : Hid (w.heap.size ≤ b1 ∧ w.heap.size ≤ g1 ∧ w.heap.size ≤ b2 ∧ w.heap.size ≤ g2 ∧ b1 ≠ b2 ∧ b1 ≠ g2 ∧ g1 ≠ b2 ∧ g1 ≠ g2) := ⟨q1, q2, by omega, by omega, by omega, by omega, by omega, by omega⟩
    have HI := Lib.hid hI
    clear hI hs1 q1 q2 q3 q4 Hb hb2 hg2 hlt2 hgl2 hP2 hO2 HO1 HP1 h1
    go_wp2
    go_loopw [8] (fun v wr => v = .int .i64 0 ∧ SaysInv w b1 g1 b2 g2 l 0 wr) (fun _ _ => 0)
    case atStart => exact ⟨rfl, HI.out⟩
    case round =>
      clear HI
      obtain ⟨rfl, hI⟩ := hrel
      go_wp2
      go_ret
      exact ⟨rfl, hI.2.2.below (Nat.le_refl _) (fun i hi h => by omega)⟩

theorem planSays_any (ga gb c1 c2 : Nat) (A1 A2 : Option Addr) (l asks : List Int) (w : World) (hl : Rd w ga A1 (bv l)) (hl5 : ∀ x ∈ l, 0 ≤ x ∧ x ≤ 255) (ha : Rd w gb A2 (iv asks)) :
    Calls Try.prog 3 #[.slice A1 l.length c1, .slice A2 asks.length c2] w fun e w' => e = .returned (.bool true) ∧ Below w.heap.size w w' := by
  rcases ha with ha | ⟨off, rfl, hgb, ha⟩
  · obtain rfl : asks = [] := by simpa using ha
    exact planSays_nil ga c1 c2 A1 A2 l w hl hl5
  · exact planSays_walk ga gb off c1 c2 A1 l asks w hl hl5 hgb ha

end Go.Proofs.Ytanoicdjbbmimaa
