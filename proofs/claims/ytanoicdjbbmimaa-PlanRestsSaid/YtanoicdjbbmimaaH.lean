/- Plan: the walk of PlanRests. -/
import Derived.Test.YtanoicdjbbmimaaG
namespace Go.Proofs.Ytanoicdjbbmimaa
open Go.RowKit

def RestsInv (w : World) (b1 g1 b2 g2 : Nat) (l : List Int) (m k : Int) (wr : World) : Prop :=
  PlanAt wr b1 g1 39 l m ∧ PlanAt wr b2 g2 39 l k ∧ Only (fun i => w.heap.size ≤ i) w wr

set_option maxRecDepth 100000 in
set_option maxHeartbeats 4000000 in
theorem planRests_walk (ga gb c1 c2 : Nat) (A1 A2 : Option Addr) (l asks : List Int) (many : Int) (w : World) (hl : Rd w ga A1 (bv l)) (hl5 : ∀ x ∈ l, 0 ≤ x ∧ x ≤ 255)
    (ha : asks = [] ∨ ∃ off, A2 = some ⟨gb, off, none⟩ ∧ gb < w.heap.size ∧ ∀ (j : Nat) (u : Value), (iv asks)[j]? = some u → w.cell? ⟨gb, off + j, none⟩ = some u) :
    Calls Try.prog 4 #[.slice A1 l.length c1, .int .i64 many, .slice A2 asks.length c2] w fun e w' => e = .returned (.bool true) ∧ Below w.heap.size w w' := by
  have H5 := Lib.hid hl5
  clear hl5
  have HL := Lib.hid hl
  clear hl
  have HA := Lib.hid ha
  clear ha
  by_cases hbig : 2000 < l.length
  · go_enter Try.func4, Try.ntmps4
    go_wp2_with (go_at_call 7; refine (awake_any _).mono ?_; rintro e w0 ⟨rfl, hB0⟩)
    all_goals (go_ret; exact ⟨rfl, hB0⟩)
  · have hsm : l.length ≤ 2000 := by omega
    clear hbig
    by_cases hm0 : many < 0
    · go_enter Try.func4, Try.ntmps4
      go_wp2_with (go_at_call 7; refine (awake_any _).mono ?_; rintro e w0 ⟨rfl, hB0⟩)
      all_goals (go_ret; exact ⟨rfl, hB0⟩)
    · by_cases hm2 : 2000 < many
      · go_enter Try.func4, Try.ntmps4
        go_wp2_with (go_at_call 7; refine (awake_any _).mono ?_; rintro e w0 ⟨rfl, hB0⟩)
        all_goals (go_ret; exact ⟨rfl, hB0⟩)
      · obtain ⟨mn, rfl⟩ := Int.eq_ofNat_of_zero_le (show 0 ≤ many by omega)
        have hmn : mn ≤ 2000 := by omega
        clear hm0 hm2
        go_enter Try.func4, Try.ntmps4
        go_wp2_with (fail)
        refine (awake_any _).mono ?_
        rintro e w0 ⟨rfl, hB0⟩
        have h0 := Lib.hid (new_any ga A1 c1 l w0 (HL.out.only (Only.of_below (S := fun _ => False) hB0) id) (by omega))
        have hO0 : Only (fun i => w.heap.size ≤ i) w w0 := Only.of_below hB0
        have HO0 := Lib.hid hO0
        clear hO0 hB0
        go_wp2_with (fail)
        refine h0.out.mono ?_
        rintro e w1 ⟨b1, g1, rfl, hb1, hg1, hlt1, hgl1, hP1, hO1⟩
        have hs0 := HO0.out.size
        have HI : Hid (EndsInv w b1 g1 l 0 w1) := ⟨hP1, HO0.out.trans (hO1.toOld _)⟩
        have HQ : Hid (w.heap.size ≤ b1 ∧ w.heap.size ≤ g1 ∧ b1 < w1.heap.size ∧ g1 < w1.heap.size) := ⟨by omega, by omega, hlt1, hgl1⟩
        clear hO1 hP1 hb1 hg1 hlt1 hgl1 hs0 h0 HO0
        go_wp2
        go_loopw [9] (fun v wr => ∃ k : Nat, k ≤ mn ∧ v = .int .i64 k ∧ EndsInv w b1 g1 (l.drop k) k wr ∧ w1.heap.size ≤ wr.heap.size) (fun v _ => mn - (intOf v).toNat)
        case atStart => exact ⟨0, by omega, rfl, by simpa using HI.out, Nat.le_refl _⟩
        case round =>
          clear HI
          obtain ⟨k, hk, rfl, hI, hsz⟩ := hrel
          obtain ⟨p1, p2, p3, p4⟩ := HQ.out
          by_cases h1 : k < mn
          · have hn1 := next_any b1 g1 (l.drop k) k 1 wr hI.1 (by omega) (by omega) (fun x hx => H5.out x (List.mem_of_mem_drop hx))
            have Hn1 := Lib.hid hn1
            have HI := Lib.hid hI
            have HS := Lib.hid hsz
            clear hn1 hI hsz
            go_wp2_with (fail)
            refine Hn1.out.mono ?_
            rintro e w3 ⟨rfl, hP3, hO3⟩
            have HP3 := Lib.hid hP3
            have HO3 := Lib.hid hO3
            clear hP3 hO3 Hn1
            go_wp2
            go_roundw
            case rel => exact ⟨k + 1, by omega, by go_num, ⟨by simpa using HP3.out, HI.out.2.trans (HO3.out.mono (fun i _ h => by subst h; exact p1))⟩, Nat.le_trans HS.out HO3.out.size⟩
            case measure => simp [intOf]; omega
          · obtain rfl : k = mn := by omega
            obtain ⟨l', hl'⟩ : ∃ l', l.drop k = l' := ⟨_, rfl⟩
            rw [hl'] at hI
            have hl'len : l'.length ≤ 2000 := by rw [← hl', List.length_drop]; omega
            have H5' : Hid (∀ x ∈ l', 0 ≤ x ∧ x ≤ 255) := by
              rw [← hl']; exact fun x hx => H5.out x (List.mem_of_mem_drop hx)
            have Hr := Lib.hid (rest_any b1 g1 l' _ wr hI.1 (by omega))
            have HI := Lib.hid hI
            have HS := Lib.hid hsz
            clear hI hl' H5 hsz HQ
            go_wp2_with (fail)
            refine Hr.out.mono ?_
            rintro e w4 ⟨A4, c4, rfl, hc4, hown4, hlt4, hO4⟩
            obtain ⟨g4, _, _, hrd4⟩ := Rd.of_row hown4 hlt4
            have Hn := Lib.hid (new_any g4 A4 c4 l' w4 hrd4 (by omega))
            have HO4 := Lib.hid hO4
            clear hO4 hrd4 hown4 Hr
            go_wp2_with (fail)
            refine Hn.out.mono ?_
            rintro e w5 ⟨b2, g2, rfl, hb2, hg2, hlt2, hgl2, hP5, hO5⟩
            have hs4 := HO4.out.size
            have hs5 := HS.out
            have HQ : Hid (w.heap.size ≤ b1 ∧ w.heap.size ≤ g1 ∧ w.heap.size ≤ b2 ∧ w.heap.size ≤ g2 ∧ b1 ≠ b2 ∧ b1 ≠ g2 ∧ g1 ≠ b2 ∧ g1 ≠ g2) := ⟨p1, p2, by omega, by omega, by omega, by omega, by omega, by omega⟩
            have hO45 := HO4.out.trans hO5
            have HI2 : Hid (RestsInv w b1 g1 b2 g2 l' (k : Int) 0 w5) := ⟨HI.out.1.only hO45 id id, hP5, HI.out.2.trans (hO45.toOld _)⟩
            clear hs4 hs5 hO45 hO5 hP5 hb2 hg2 hlt2 hgl2 HI HS Hn HO4 p1 p2 p3 p4 hlt4
            go_wp2
            obtain ⟨wo, rfl⟩ : ∃ wo : World, wo = w5 := ⟨_, rfl⟩
            go_loopw [11] (fun v wr => ∃ j : Nat, j ≤ asks.length ∧ j ≤ 300 ∧ v = .int .i64 j ∧ RestsInv w b1 g1 b2 g2 (l'.drop j) ((k : Int) + j) j wr) (fun v _ => 300 - (intOf v).toNat)
            case atStart => exact ⟨0, by omega, by omega, rfl, by simpa using HI2.out⟩
            case round =>
              clear HI2
              obtain ⟨j, hj, hj3, rfl, hI⟩ := hrel
              obtain ⟨p1, p2, p3, p4, p5, p6, p7, p8⟩ := HQ.out
              by_cases hc : j < asks.length ∧ j < 300
              · obtain ⟨h1, h2⟩ := hc
                rcases HA.out with hnil | ⟨off, hA2, hgb, hcell⟩
                · exfalso; subst hnil; simp at h1
                · subst hA2
                  obtain ⟨y, hy⟩ : ∃ y, asks[j]? = some y := ⟨_, List.getElem?_eq_getElem h1⟩
                  have hcell0 := hcell j (.int .i64 y) (by simp [hy])
                  have hc1 : wr.cell? ⟨gb, off + j, none⟩ = some (.int .i64 y) := (hI.2.2.cell hgb (by simpa using hgb)).trans hcell0
                  have hn1 := next_any b1 g1 (l'.drop j) _ y wr hI.1 (by omega) (by omega) (fun x hx => H5'.out x (List.mem_of_mem_drop hx))
                  have Hn1 := Lib.hid hn1
                  have HI := Lib.hid hI
                  clear hn1 hI hy hcell hcell0
                  go_wp2_with (fail)
                  refine Hn1.out.mono ?_
                  rintro e w6 ⟨rfl, hP6, hO6⟩
                  have hc6 : w6.cell? ⟨gb, off + j, none⟩ = some (.int .i64 y) := (hO6.cell (World.block_lt_of_cell? _ _ hc1) (by simp; omega)).trans hc1
                  have hn2 := next_any b2 g2 (l'.drop j) _ y w6 (HI.out.2.1.only hO6 (by omega) (by omega)) (by omega) (by omega) (fun x hx => H5'.out x (List.mem_of_mem_drop hx))
                  have Hn2 := Lib.hid hn2
                  have HP6 := Lib.hid hP6
                  have HO6 := Lib.hid hO6
                  clear hn2 hP6 hO6 Hn1 hc1
                  go_wp2_with (fail)
                  refine Hn2.out.mono ?_
                  rintro e w7 ⟨rfl, hP7, hO7⟩
                  have HP7 := Lib.hid hP7
                  have HO7 := Lib.hid hO7
                  clear hP7 hO7 Hn2
                  generalize nextA (List.drop j l') = na
                  generalize nextB (List.drop j l') y = nb
                  go_wp2
                  go_roundw
                  case rel =>
                    refine ⟨j + 1, by omega, by omega, by go_num, ?_, ?_, ?_⟩
                    · have := HP6.out.only HO7.out (by omega) (by omega)
                      simpa [Int.add_assoc] using this
                    · simpa using HP7.out
                    · exact HI.out.2.2.trans ((HO6.out.mono (fun i _ h => by subst h; exact p1)).trans (HO7.out.mono (fun i _ h => by subst h; exact p3)))
                  case measure => simp [intOf]; omega
              · obtain ⟨l'', hl''⟩ : ∃ l'', l'.drop j = l'' := ⟨_, rfl⟩
                rw [hl''] at hI
                have hl2 : l''.length ≤ 2000 := by rw [← hl'', List.length_drop]; omega
                have HrA : Hid (Calls Try.prog 13 #[.pointer (some ⟨b1, 0, none⟩)] wr.drew (RestPost wr.drew l'')) := rest_any b1 g1 l'' _ wr.drew (hI.1.drewN 1) (by omega)
                have HPb := Lib.hid hI.2.1
                have HO := Lib.hid hI.2.2
                have HC := Lib.hid hc
                clear hI hl'' hc
                by_cases h1 : j < asks.length
                case pos =>
                  have h2 : ¬ j < 300 := fun h => HC.out ⟨h1, h⟩
                  go_wp2_with (fail)
                  refine wp_region_held_drew (S := (fun _ => True)) (by kernel_rfl) ?_ (fun hHeld => ?_)
                  · trivial
                  refine wpAnyH_take (i := 0) (oi := { dst := some 81, op := Op.move (Operand.tmp 7), type := 4, pos := "law.go:64", after := #[], guard := none }) (v := ?_) rfl (by kernel_rfl) (by kernel_rfl) (by kernel_rfl) (fun _ _ _ h => h) (Or.inl ⟨by rfl, ?_⟩) (by assumption) ?_
                  rotate_left
                  · (intro w hSw; (try dsimp only at hSw); (try obtain ⟨hSa, hSb⟩ := hSw); go_simp; try with_reducible rfl)
                  try simp only [Act.put, List.setIfInBounds_toArray, List.set_cons_zero, List.set_cons_succ]
                  refine wpAnyH_take (i := 1) (oi := { dst := some 82, op := Op.move (Operand.tmp 81), type := 4, pos := "law.go:64", after := #[{ on := 0, ground := Ground.data }], guard := none }) (v := ?_) rfl (by kernel_rfl) (by kernel_rfl) (by kernel_rfl) (fun _ _ _ h => h) (Or.inl ⟨by rfl, ?_⟩) (by assumption) ?_
                  rotate_left
                  · (intro w hSw; (try dsimp only at hSw); (try obtain ⟨hSa, hSb⟩ := hSw); go_simp; try with_reducible rfl)
                  try simp only [Act.put, List.setIfInBounds_toArray, List.set_cons_zero, List.set_cons_succ]
                  refine wpAnyH_take (i := 2) (oi := { dst := some 83, op := Op.move (Operand.tmp 8), type := 25, pos := "law.go:64", after := #[{ on := 1, ground := Ground.guard }], guard := some (1, true) }) (v := ?_) rfl (by kernel_rfl) (by kernel_rfl) (by kernel_rfl) (fun _ _ _ h => h) (Or.inl ⟨by rfl, ?_⟩) (by assumption) ?_
                  rotate_left
                  · (intro w hSw; (try dsimp only at hSw); (try obtain ⟨hSa, hSb⟩ := hSw); go_simp; try with_reducible rfl)
                  try simp only [Act.put, List.setIfInBounds_toArray, List.set_cons_zero, List.set_cons_succ]
                  refine wpAnyH_take (i := 5) (oi := { dst := some 86, op := Op.move (Operand.tmp 10), type := 25, pos := "law.go:64", after := #[{ on := 1, ground := Ground.guard }], guard := some (1, true) }) (v := ?_) rfl (by kernel_rfl) (by kernel_rfl) (by kernel_rfl) (fun _ _ _ h => h) (Or.inl ⟨by rfl, ?_⟩) (by assumption) ?_
                  rotate_left
                  · (intro w hSw; (try dsimp only at hSw); (try obtain ⟨hSa, hSb⟩ := hSw); go_simp; try with_reducible rfl)
                  try simp only [Act.put, List.setIfInBounds_toArray, List.set_cons_zero, List.set_cons_succ]
                  refine wpAnyH_ready (rs := [3]) (by kernel_rfl) (by simp) ?_
                  refine AllReadyH.cons (o := { dst := some 84, op := Op.call { callee := Callee.value (Operand.func 13), args := #[Operand.tmp 83], argTypes := #[25] }, type := 22, pos := "law.go:64", after := #[{ on := 2, ground := Ground.data }, { on := 1, ground := Ground.chain }, { on := 1, ground := Ground.guard }], guard := some (1, true) }) rfl (fun K hK => ?_) AllReadyH.nil
                  go_simp
                  (go_at_call 13; refine HrA.out.mono ?_; rintro e w6 ⟨A6, c6, rfl, hc6', hown6, hlt6, hO6⟩)
                  have HrB := Lib.hid (rest_any b2 g2 l'' _ w6 ((PlanAt.drewN HPb.out 1).only hO6 id id) (by omega))
                  obtain ⟨g6, _, _, hrd6⟩ := Rd.of_row hown6 hlt6
                  have hlt6' : g6 < w6.heap.size := by assumption
                  have cv6 := Lib.hid (conv_any (c := c6) hrd6)
                  have HO6 := Lib.hid hO6
                  clear hO6 hown6 hlt6 hc6'
                  refine hK.out _ _ ?_ (fun hHeld => ?_)
                  · trivial
                  clear hK K
                  try simp only [Act.put, List.setIfInBounds_toArray, List.set_cons_zero, List.set_cons_succ]
                  refine wpAnyH_switch (S' := (fun W => True ∧ (convert 22 9 (.slice A6 l''.length c6)).run Try.prog W = .ok (.string (strOf l'')) W)) (fun _ _ => trivial) ?_
                  have hHeld' := And.intro trivial cv6.out
                  refine wpAnyH_take (i := 4) (oi := { dst := some 85, op := Op.convert 22 9 (Operand.tmp 84), type := 9, pos := "law.go:64", after := #[{ on := 3, ground := Ground.data }, { on := 1, ground := Ground.guard }], guard := some (1, true) }) (v := ?_) rfl (by kernel_rfl) (by kernel_rfl) (by kernel_rfl) (fun _ _ _ h => h) (Or.inl ⟨by rfl, ?_⟩) (by assumption) ?_
                  rotate_left
                  · (intro w hSw; (try dsimp only at hSw); (try obtain ⟨hSa, hSb⟩ := hSw); go_simp; try with_reducible rfl)
                  try simp only [Act.put, List.setIfInBounds_toArray, List.set_cons_zero, List.set_cons_succ]
                  refine wpAnyH_ready (rs := [6]) (by kernel_rfl) (by simp) ?_
                  refine AllReadyH.cons (o := { dst := some 87, op := Op.call { callee := Callee.value (Operand.func 13), args := #[Operand.tmp 86], argTypes := #[25] }, type := 22, pos := "law.go:64", after := #[{ on := 5, ground := Ground.data }, { on := 3, ground := Ground.chain }, { on := 1, ground := Ground.guard }], guard := some (1, true) }) rfl (fun K hK => ?_) AllReadyH.nil
                  go_simp
                  (go_at_call 13; refine HrB.out.mono ?_; rintro e w7 ⟨A7, c7, rfl, hc7', hown7, hlt7, hO7⟩)
                  obtain ⟨g7, _, _, hrd7⟩ := Rd.of_row hown7 hlt7
                  have cv7 := Lib.hid (conv_any (c := c7) hrd7)
                  have cv67 := Lib.hid (conv_any (c := c6) (hrd6.only hO7 id))
                  have HO7 := Lib.hid hO7
                  clear hO7 hrd7 hown7 hlt7 hc7'
                  refine hK.out _ _ ?_ (fun hHeld => ?_)
                  · exact ⟨trivial, cv67.out⟩
                  clear hK K
                  try simp only [Act.put, List.setIfInBounds_toArray, List.set_cons_zero, List.set_cons_succ]
                  refine wpAnyH_switch (S' := (fun W => (convert 22 9 (.slice A7 l''.length c7)).run Try.prog W = .ok (.string (strOf l'')) W ∧ (True ∧ (convert 22 9 (.slice A6 l''.length c6)).run Try.prog W = .ok (.string (strOf l'')) W))) (fun _ h => h.2) ?_
                  have hHeld' := And.intro cv7.out (And.intro trivial cv67.out)
                  refine wpAnyH_take (i := 7) (oi := { dst := some 88, op := Op.convert 22 9 (Operand.tmp 87), type := 9, pos := "law.go:64", after := #[{ on := 6, ground := Ground.data }, { on := 1, ground := Ground.guard }], guard := some (1, true) }) (v := ?_) rfl (by kernel_rfl) (by kernel_rfl) (by kernel_rfl) (fun _ _ _ h => h) (Or.inl ⟨by rfl, ?_⟩) (by assumption) ?_
                  rotate_left
                  · (intro w hSw; (try dsimp only at hSw); (try obtain ⟨hSa, hSb⟩ := hSw); go_simp; try with_reducible rfl)
                  try simp only [Act.put, List.setIfInBounds_toArray, List.set_cons_zero, List.set_cons_succ]
                  refine wpAnyH_take (i := 8) (oi := { dst := some 89, op := Op.binOp BinOp.eql 9 (Operand.tmp 85) (Operand.tmp 88) 9, type := 4, pos := "law.go:64", after := #[{ on := 4, ground := Ground.data }, { on := 7, ground := Ground.data }, { on := 1, ground := Ground.guard }], guard := some (1, true) }) (v := ?_) rfl (by kernel_rfl) (by kernel_rfl) (by kernel_rfl) (fun _ _ _ h => h) (Or.inl ⟨by rfl, ?_⟩) (by assumption) ?_
                  rotate_left
                  · (intro w hSw; (try dsimp only at hSw); (try obtain ⟨hSa, hSb⟩ := hSw); go_simp; try with_reducible rfl)
                  try simp only [Act.put, List.setIfInBounds_toArray, List.set_cons_zero, List.set_cons_succ]
                  refine wpAnyH_take (i := 9) (oi := { dst := some 90, op := Op.pick (Operand.tmp 82) (Operand.tmp 89) (Operand.const (Value.bool false)), type := 4, pos := "law.go:64", after := #[{ on := 1, ground := Ground.data }, { on := 8, ground := Ground.data }], guard := none }) (v := ?_) rfl (by kernel_rfl) (by kernel_rfl) (by kernel_rfl) (fun _ _ _ h => h) (Or.inl ⟨by rfl, ?_⟩) (by assumption) ?_
                  rotate_left
                  · (intro w hSw; (try dsimp only at hSw); (try obtain ⟨hSa, hSb⟩ := hSw); go_simp; try with_reducible rfl)
                  try simp only [Act.put, List.setIfInBounds_toArray, List.set_cons_zero, List.set_cons_succ]
                  refine wpAnyH_take (i := 10) (oi := { dst := some 6, op := Op.assign (Operand.tmp 90), type := 4, pos := "law.go:64", after := #[{ on := 9, ground := Ground.data }, { on := 6, ground := Ground.chain }, { on := 0, ground := Ground.phase }, { on := 1, ground := Ground.phase }, { on := 2, ground := Ground.phase }, { on := 3, ground := Ground.phase }, { on := 4, ground := Ground.phase }, { on := 5, ground := Ground.phase }, { on := 6, ground := Ground.phase }, { on := 7, ground := Ground.phase }, { on := 8, ground := Ground.phase }, { on := 9, ground := Ground.phase }], guard := none }) (v := ?_) rfl (by kernel_rfl) (by kernel_rfl) (by kernel_rfl) (fun _ _ _ h => h) (Or.inl ⟨by rfl, ?_⟩) (by assumption) ?_
                  rotate_left
                  · (intro w hSw; (try dsimp only at hSw); (try obtain ⟨hSa, hSb⟩ := hSw); go_simp; try with_reducible rfl)
                  try simp only [Act.put, List.setIfInBounds_toArray, List.set_cons_zero, List.set_cons_succ]
                  refine wpAnyH_done (by kernel_rfl) ?_ _
                  go_wp2
                  go_ret
                  refine ⟨ret_b (by simp), ?_⟩
                  exact (HO.out.trans ((((Only.refl (fun _ => False) wr).drewN 1).trans (HO6.out.trans HO7.out)).toOld _)).below (Nat.le_refl _) (fun i hi h => by omega)
                case neg =>
                  go_wp2_with (fail)
                  refine wp_region_held_drew (S := (fun _ => True)) (by kernel_rfl) ?_ (fun hHeld => ?_)
                  · trivial
                  refine wpAnyH_take (i := 0) (oi := { dst := some 81, op := Op.move (Operand.tmp 7), type := 4, pos := "law.go:64", after := #[], guard := none }) (v := ?_) rfl (by kernel_rfl) (by kernel_rfl) (by kernel_rfl) (fun _ _ _ h => h) (Or.inl ⟨by rfl, ?_⟩) (by assumption) ?_
                  rotate_left
                  · (intro w hSw; (try dsimp only at hSw); (try obtain ⟨hSa, hSb⟩ := hSw); go_simp; try with_reducible rfl)
                  try simp only [Act.put, List.setIfInBounds_toArray, List.set_cons_zero, List.set_cons_succ]
                  refine wpAnyH_take (i := 1) (oi := { dst := some 82, op := Op.move (Operand.tmp 81), type := 4, pos := "law.go:64", after := #[{ on := 0, ground := Ground.data }], guard := none }) (v := ?_) rfl (by kernel_rfl) (by kernel_rfl) (by kernel_rfl) (fun _ _ _ h => h) (Or.inl ⟨by rfl, ?_⟩) (by assumption) ?_
                  rotate_left
                  · (intro w hSw; (try dsimp only at hSw); (try obtain ⟨hSa, hSb⟩ := hSw); go_simp; try with_reducible rfl)
                  try simp only [Act.put, List.setIfInBounds_toArray, List.set_cons_zero, List.set_cons_succ]
                  refine wpAnyH_take (i := 2) (oi := { dst := some 83, op := Op.move (Operand.tmp 8), type := 25, pos := "law.go:64", after := #[{ on := 1, ground := Ground.guard }], guard := some (1, true) }) (v := ?_) rfl (by kernel_rfl) (by kernel_rfl) (by kernel_rfl) (fun _ _ _ h => h) (Or.inl ⟨by rfl, ?_⟩) (by assumption) ?_
                  rotate_left
                  · (intro w hSw; (try dsimp only at hSw); (try obtain ⟨hSa, hSb⟩ := hSw); go_simp; try with_reducible rfl)
                  try simp only [Act.put, List.setIfInBounds_toArray, List.set_cons_zero, List.set_cons_succ]
                  refine wpAnyH_take (i := 5) (oi := { dst := some 86, op := Op.move (Operand.tmp 10), type := 25, pos := "law.go:64", after := #[{ on := 1, ground := Ground.guard }], guard := some (1, true) }) (v := ?_) rfl (by kernel_rfl) (by kernel_rfl) (by kernel_rfl) (fun _ _ _ h => h) (Or.inl ⟨by rfl, ?_⟩) (by assumption) ?_
                  rotate_left
                  · (intro w hSw; (try dsimp only at hSw); (try obtain ⟨hSa, hSb⟩ := hSw); go_simp; try with_reducible rfl)
                  try simp only [Act.put, List.setIfInBounds_toArray, List.set_cons_zero, List.set_cons_succ]
                  refine wpAnyH_ready (rs := [3]) (by kernel_rfl) (by simp) ?_
                  refine AllReadyH.cons (o := { dst := some 84, op := Op.call { callee := Callee.value (Operand.func 13), args := #[Operand.tmp 83], argTypes := #[25] }, type := 22, pos := "law.go:64", after := #[{ on := 2, ground := Ground.data }, { on := 1, ground := Ground.chain }, { on := 1, ground := Ground.guard }], guard := some (1, true) }) rfl (fun K hK => ?_) AllReadyH.nil
                  go_simp
                  (go_at_call 13; refine HrA.out.mono ?_; rintro e w6 ⟨A6, c6, rfl, hc6', hown6, hlt6, hO6⟩)
                  have HrB := Lib.hid (rest_any b2 g2 l'' _ w6 ((PlanAt.drewN HPb.out 1).only hO6 id id) (by omega))
                  obtain ⟨g6, _, _, hrd6⟩ := Rd.of_row hown6 hlt6
                  have hlt6' : g6 < w6.heap.size := by assumption
                  have cv6 := Lib.hid (conv_any (c := c6) hrd6)
                  have HO6 := Lib.hid hO6
                  clear hO6 hown6 hlt6 hc6'
                  refine hK.out _ _ ?_ (fun hHeld => ?_)
                  · trivial
                  clear hK K
                  try simp only [Act.put, List.setIfInBounds_toArray, List.set_cons_zero, List.set_cons_succ]
                  refine wpAnyH_switch (S' := (fun W => True ∧ (convert 22 9 (.slice A6 l''.length c6)).run Try.prog W = .ok (.string (strOf l'')) W)) (fun _ _ => trivial) ?_
                  have hHeld' := And.intro trivial cv6.out
                  refine wpAnyH_take (i := 4) (oi := { dst := some 85, op := Op.convert 22 9 (Operand.tmp 84), type := 9, pos := "law.go:64", after := #[{ on := 3, ground := Ground.data }, { on := 1, ground := Ground.guard }], guard := some (1, true) }) (v := ?_) rfl (by kernel_rfl) (by kernel_rfl) (by kernel_rfl) (fun _ _ _ h => h) (Or.inl ⟨by rfl, ?_⟩) (by assumption) ?_
                  rotate_left
                  · (intro w hSw; (try dsimp only at hSw); (try obtain ⟨hSa, hSb⟩ := hSw); go_simp; try with_reducible rfl)
                  try simp only [Act.put, List.setIfInBounds_toArray, List.set_cons_zero, List.set_cons_succ]
                  refine wpAnyH_ready (rs := [6]) (by kernel_rfl) (by simp) ?_
                  refine AllReadyH.cons (o := { dst := some 87, op := Op.call { callee := Callee.value (Operand.func 13), args := #[Operand.tmp 86], argTypes := #[25] }, type := 22, pos := "law.go:64", after := #[{ on := 5, ground := Ground.data }, { on := 3, ground := Ground.chain }, { on := 1, ground := Ground.guard }], guard := some (1, true) }) rfl (fun K hK => ?_) AllReadyH.nil
                  go_simp
                  (go_at_call 13; refine HrB.out.mono ?_; rintro e w7 ⟨A7, c7, rfl, hc7', hown7, hlt7, hO7⟩)
                  obtain ⟨g7, _, _, hrd7⟩ := Rd.of_row hown7 hlt7
                  have cv7 := Lib.hid (conv_any (c := c7) hrd7)
                  have cv67 := Lib.hid (conv_any (c := c6) (hrd6.only hO7 id))
                  have HO7 := Lib.hid hO7
                  clear hO7 hrd7 hown7 hlt7 hc7'
                  refine hK.out _ _ ?_ (fun hHeld => ?_)
                  · exact ⟨trivial, cv67.out⟩
                  clear hK K
                  try simp only [Act.put, List.setIfInBounds_toArray, List.set_cons_zero, List.set_cons_succ]
                  refine wpAnyH_switch (S' := (fun W => (convert 22 9 (.slice A7 l''.length c7)).run Try.prog W = .ok (.string (strOf l'')) W ∧ (True ∧ (convert 22 9 (.slice A6 l''.length c6)).run Try.prog W = .ok (.string (strOf l'')) W))) (fun _ h => h.2) ?_
                  have hHeld' := And.intro cv7.out (And.intro trivial cv67.out)
                  refine wpAnyH_take (i := 7) (oi := { dst := some 88, op := Op.convert 22 9 (Operand.tmp 87), type := 9, pos := "law.go:64", after := #[{ on := 6, ground := Ground.data }, { on := 1, ground := Ground.guard }], guard := some (1, true) }) (v := ?_) rfl (by kernel_rfl) (by kernel_rfl) (by kernel_rfl) (fun _ _ _ h => h) (Or.inl ⟨by rfl, ?_⟩) (by assumption) ?_
                  rotate_left
                  · (intro w hSw; (try dsimp only at hSw); (try obtain ⟨hSa, hSb⟩ := hSw); go_simp; try with_reducible rfl)
                  try simp only [Act.put, List.setIfInBounds_toArray, List.set_cons_zero, List.set_cons_succ]
                  refine wpAnyH_take (i := 8) (oi := { dst := some 89, op := Op.binOp BinOp.eql 9 (Operand.tmp 85) (Operand.tmp 88) 9, type := 4, pos := "law.go:64", after := #[{ on := 4, ground := Ground.data }, { on := 7, ground := Ground.data }, { on := 1, ground := Ground.guard }], guard := some (1, true) }) (v := ?_) rfl (by kernel_rfl) (by kernel_rfl) (by kernel_rfl) (fun _ _ _ h => h) (Or.inl ⟨by rfl, ?_⟩) (by assumption) ?_
                  rotate_left
                  · (intro w hSw; (try dsimp only at hSw); (try obtain ⟨hSa, hSb⟩ := hSw); go_simp; try with_reducible rfl)
                  try simp only [Act.put, List.setIfInBounds_toArray, List.set_cons_zero, List.set_cons_succ]
                  refine wpAnyH_take (i := 9) (oi := { dst := some 90, op := Op.pick (Operand.tmp 82) (Operand.tmp 89) (Operand.const (Value.bool false)), type := 4, pos := "law.go:64", after := #[{ on := 1, ground := Ground.data }, { on := 8, ground := Ground.data }], guard := none }) (v := ?_) rfl (by kernel_rfl) (by kernel_rfl) (by kernel_rfl) (fun _ _ _ h => h) (Or.inl ⟨by rfl, ?_⟩) (by assumption) ?_
                  rotate_left
                  · (intro w hSw; (try dsimp only at hSw); (try obtain ⟨hSa, hSb⟩ := hSw); go_simp; try with_reducible rfl)
                  try simp only [Act.put, List.setIfInBounds_toArray, List.set_cons_zero, List.set_cons_succ]
                  refine wpAnyH_take (i := 10) (oi := { dst := some 6, op := Op.assign (Operand.tmp 90), type := 4, pos := "law.go:64", after := #[{ on := 9, ground := Ground.data }, { on := 6, ground := Ground.chain }, { on := 0, ground := Ground.phase }, { on := 1, ground := Ground.phase }, { on := 2, ground := Ground.phase }, { on := 3, ground := Ground.phase }, { on := 4, ground := Ground.phase }, { on := 5, ground := Ground.phase }, { on := 6, ground := Ground.phase }, { on := 7, ground := Ground.phase }, { on := 8, ground := Ground.phase }, { on := 9, ground := Ground.phase }], guard := none }) (v := ?_) rfl (by kernel_rfl) (by kernel_rfl) (by kernel_rfl) (fun _ _ _ h => h) (Or.inl ⟨by rfl, ?_⟩) (by assumption) ?_
                  rotate_left
                  · (intro w hSw; (try dsimp only at hSw); (try obtain ⟨hSa, hSb⟩ := hSw); go_simp; try with_reducible rfl)
                  try simp only [Act.put, List.setIfInBounds_toArray, List.set_cons_zero, List.set_cons_succ]
                  refine wpAnyH_done (by kernel_rfl) ?_ _
                  go_wp2
                  go_ret
                  refine ⟨ret_b (by simp), ?_⟩
                  exact (HO.out.trans ((((Only.refl (fun _ => False) wr).drewN 1).trans (HO6.out.trans HO7.out)).toOld _)).below (Nat.le_refl _) (fun i hi h => by omega)

end Go.Proofs.Ytanoicdjbbmimaa
