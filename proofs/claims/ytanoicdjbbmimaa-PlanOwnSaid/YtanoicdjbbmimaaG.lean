/- Plan: the walk of PlanEnds. -/
import Derived.Test.YtanoicdjbbmimaaF
namespace Go.Proofs.Ytanoicdjbbmimaa
open Go.RowKit

theorem saysP_bd (x : Int) : 0 ≤ saysP x ∧ saysP x ≤ 2 := by unfold saysP; split <;> omega
theorem cutB_bd (x s : Int) (x0 : 0 ≤ x) : 0 ≤ cutB x s ∧ cutB x s ≤ 4 ∧ (0 < cutB x s → saysP x = 2) := by
  unfold cutB saysP
  split
  · rename_i h
    obtain ⟨h1, h2, h3⟩ := h
    have h4 : 0 ≤ x / 4 % (s + 1) := Int.emod_nonneg _ (by omega)
    have h5 : x / 4 % (s + 1) < s + 1 := Int.emod_lt_of_pos _ (by omega)
    refine ⟨h4, by omega, fun _ => ?_⟩
    rw [if_neg (by omega)]; exact h1
  · omega

def EndsInv (w : World) (b g : Nat) (l : List Int) (m : Int) (wr : World) : Prop :=
  PlanAt wr b g 39 l m ∧ Only (fun i => w.heap.size ≤ i) w wr

set_option maxRecDepth 100000 in
set_option maxHeartbeats 2000000 in
theorem planEnds_walk (ga gb c1 c2 : Nat) (A1 A2 : Option Addr) (l asks : List Int) (w : World) (hl : Rd w ga A1 (bv l)) (hl5 : ∀ x ∈ l, 0 ≤ x ∧ x ≤ 255)
    (ha : asks = [] ∨ ∃ off, A2 = some ⟨gb, off, none⟩ ∧ gb < w.heap.size ∧ ∀ (j : Nat) (u : Value), (iv asks)[j]? = some u → w.cell? ⟨gb, off + j, none⟩ = some u) :
    Calls Try.prog 5 #[.slice A1 l.length c1, .slice A2 asks.length c2] w fun e w' => e = .returned (.bool true) ∧ Below w.heap.size w w' := by
  have H5 := Lib.hid hl5
  clear hl5
  have HL := Lib.hid hl
  clear hl
  by_cases hbig : 2000 < l.length
  · clear ha
    go_enter Try.func5, Try.ntmps5
    go_wp2_with (go_at_call 7; refine (awake_any _).mono ?_; rintro e w0 ⟨rfl, hB0⟩)
    go_ret
    exact ⟨rfl, hB0⟩
  · have hsm : l.length ≤ 2000 := by omega
    clear hbig
    have HA := Lib.hid ha
    clear ha
    go_enter Try.func5, Try.ntmps5
    go_wp2_with (fail)
    refine (awake_any _).mono ?_
    rintro e w0 ⟨rfl, hB0⟩
    have h0 := Lib.hid (new_any ga A1 c1 l w0 (HL.out.only (Only.of_below (S := fun _ => False) hB0) id) (by omega))
    have hO0 : Only (fun i => w.heap.size ≤ i) w w0 := Only.of_below hB0
    have HO0 := Lib.hid hO0
    clear hO0 hB0
    go_wp2_with (fail)
    refine h0.out.mono ?_
    rintro e w1 ⟨b1, g1, rfl, hb1, hg1, hlt1, hgl1, hP1, hO1⟩
    have hs0 := HO0.out.size
    have HI : Hid (EndsInv w b1 g1 l 0 w1) := ⟨hP1, HO0.out.trans (hO1.toOld _)⟩
    have HQ : Hid (w.heap.size ≤ b1 ∧ w.heap.size ≤ g1) := ⟨by omega, by omega⟩
    clear hO1 hP1 hb1 hg1 hlt1 hgl1 hs0 h0 HO0
    go_wp2
    go_loopw [7] (fun v wr => ∃ k : Nat, k ≤ l.length ∧ v = .int .i64 k ∧ EndsInv w b1 g1 (l.drop k) k wr) (fun v _ => l.length - (intOf v).toNat)
    case atStart => exact ⟨0, by omega, rfl, by simpa using HI.out⟩
    case round =>
      clear HI
      obtain ⟨k, hk, rfl, hI⟩ := hrel
      by_cases h1 : k < l.length
      · obtain ⟨p1, p2⟩ := HQ.out
        have hd : l.drop k = l[k] :: l.drop (k + 1) := List.drop_eq_getElem_cons h1
        have hx := H5.out l[k] (List.getElem_mem h1)
        have hn1 := next_any b1 g1 (l.drop k) k 4 wr hI.1 (by omega) (by omega) (fun x hx => H5.out x (List.mem_of_mem_drop hx))
        have hA := saysP_bd l[k]
        have hB := cutB_bd l[k] 4 hx.1
        unfold NextPost at hn1
        rw [hd] at hn1
        simp only [nextA, nextB, List.tail_cons] at hn1
        generalize saysP l[k] = na at *
        generalize cutB l[k] 4 = nb at *
        have Hn1 := Lib.hid hn1
        have HI := Lib.hid hI
        obtain ⟨a0, a1⟩ := hA
        obtain ⟨b0, b4, hab⟩ := hB
        have hcase : nb ≤ 0 ∨ (0 < nb ∧ na = 2) := by
          by_cases h : 0 < nb
          · exact .inr ⟨h, hab h⟩
          · exact .inl (by omega)
        clear hn1 hI hd hx hab
        rcases hcase with hz | ⟨hz, rfl⟩
        all_goals
          go_wp2_with (fail)
          refine Hn1.out.mono ?_
          rintro e w3 ⟨rfl, hP3, hO3⟩
          have HP3 := Lib.hid hP3
          have HO3 := Lib.hid hO3
          clear hP3 hO3 Hn1
          go_wp2
          go_roundw
          case rel => exact ⟨k + 1, by omega, by go_num, by simpa using HP3.out, HI.out.2.trans (HO3.out.mono (fun i _ h => by subst h; exact p1))⟩
          case measure => simp [intOf]; omega
      · obtain rfl : k = l.length := by omega
        have HI : Hid (EndsInv w b1 g1 [] (l.length : Int) wr) := by
          have := hI
          rwa [List.drop_eq_nil_of_le (Nat.le_refl _)] at this
        obtain ⟨p1, p2⟩ := HQ.out
        clear hI
        go_wp2
        obtain ⟨wo, rfl⟩ : ∃ wo : World, wo = wr := ⟨_, rfl⟩
        rcases HA.out with hnil | ⟨off, rfl, hgb, hcell⟩
        · subst hnil
          go_loopw [10] (fun v wr => v = .int .i64 0 ∧ EndsInv w b1 g1 [] (l.length : Int) wr) (fun _ _ => 0)
          case atStart => exact ⟨rfl, HI.out⟩
          case round =>
            clear HI
            obtain ⟨rfl, hI⟩ := hrel
            go_wp2
            go_ret
            exact ⟨rfl, hI.2.below (Nat.le_refl _) (fun i hi h => by omega)⟩
        · have HC := Lib.hid hcell
          clear hcell
          go_loopw [10] (fun v wr => ∃ k : Nat, k ≤ asks.length ∧ k ≤ 300 ∧ v = .int .i64 k ∧ EndsInv w b1 g1 [] ((l.length : Int) + k) wr) (fun v _ => 300 - (intOf v).toNat)
          case atStart => exact ⟨0, by omega, by omega, rfl, by simpa using HI.out⟩
          case round =>
            clear HI
            obtain ⟨k, hk, hk3, rfl, hI⟩ := hrel
            by_cases h1 : k < asks.length
            · by_cases h2 : k < 300
              · obtain ⟨y, hy⟩ : ∃ y, asks[k]? = some y := ⟨_, List.getElem?_eq_getElem h1⟩
                have hcell0 := HC.out k (.int .i64 y) (by simp [hy])
                have hc1 : wr.cell? ⟨gb, off + k, none⟩ = some (.int .i64 y) := (hI.2.cell hgb (by simpa using hgb)).trans hcell0
                have hn1 := next_any b1 g1 [] ((l.length : Int) + k) y wr hI.1 (by omega) (by omega) (by simp)
                have Hn1 := Lib.hid hn1
                have HI := Lib.hid hI
                clear hn1 hI hy hcell0
                go_wp2_with (fail)
                refine Hn1.out.mono ?_
                rintro e w3 ⟨rfl, hP3, hO3⟩
                have HP3 := Lib.hid hP3
                have HO3 := Lib.hid hO3
                have Hr := Lib.hid (rest_any b1 g1 [] _ w3 HP3.out (by simp))
                clear hP3 hO3 Hn1
                rw [show nextA [] = 0 from rfl, show nextB [] y = 0 from rfl]
                go_wp2_with (fail)
                refine Hr.out.mono ?_
                rintro e w4 ⟨A4, c4, rfl, _, _, _, hO4⟩
                have HO4 := Lib.hid hO4
                clear hO4
                go_wp2
                go_roundw
                case rel => exact ⟨k + 1, by omega, by omega, by go_num, by simpa [Int.add_assoc] using HP3.out.only HO4.out id id, HI.out.2.trans ((HO3.out.mono (fun i _ h => by subst h; exact p1)).trans (HO4.out.toOld _))⟩
                case measure => simp [intOf]; omega
              · go_wp2
                go_ret
                exact ⟨rfl, hI.2.below (Nat.le_refl _) (fun i hi h => by omega)⟩
            · go_wp2
              go_ret
              exact ⟨rfl, hI.2.below (Nat.le_refl _) (fun i hi h => by omega)⟩

end Go.Proofs.Ytanoicdjbbmimaa
