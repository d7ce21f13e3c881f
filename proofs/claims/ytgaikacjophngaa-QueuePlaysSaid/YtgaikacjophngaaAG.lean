/- Queue: the law QueuePlays, walked. -/
import Derived.Test.YtgaikacjophngaaAF
import Derived.Test.YtgaikacjophngaaQ
namespace Go.Proofs.Ytgaikacjophngaa
open Go.RowKit

theorem both_new {B : Nat} {w w' : World} {b n : Nat} (hq : QI B w b n (fun _ => [])) (hst : At w' w.heap.size 55 #[.int .i64 n, .slice none 0 0]) (hO : Only (fun _ => False) w w') (hB : B ≤ w.heap.size) : Some2 B w' b w.heap.size n 0 := by
  refine ⟨fun i => B ≤ i ∧ i < w.heap.size, fun i => i = w.heap.size, none, 0, 0, [], ⟨?_, ⟨hst, .inl ⟨rfl, rfl, rfl, rfl⟩, fun x hx => (by cases hx), hq.hc⟩, ?_, fun i hi e => by omega, ?_, fun x hx => by cases hx⟩, Nat.le_refl _⟩
  · exact (hq.toJ.mono (P' := fun i => B ≤ i ∧ i < w.heap.size) (fun i hi h => ⟨h, hi⟩)).quiet hO
  · rintro i ((h | ⟨h, _⟩) | ⟨x, hx, _⟩)
    · exact h
    · exact absurd rfl h
    · cases hx
  · rintro i (h | h)
    · exact h.1
    · omega

set_option maxRecDepth 100000 in
set_option maxHeartbeats 8000000 in
theorem queuePlays_walk (a : Int) (os : List Opq) (gA cA : Nat) (A : Option Addr) (w : World) (hro : Rd w gA A (ov os)) (hok : ∀ o ∈ os, o.Ok w) (holen : os.length ≤ 9223372036854775807) :
    Calls Try.prog 6 #[.int .i64 a, .slice A os.length cA] w fun e w' => e = .returned (.bool true) ∧ Below w.heap.size w w' := by
  by_cases hbad : a < 1 ∨ 4 < a
  · have HN := Lib.hid (new_bad a hbad)
    have HN' := Lib.hid (refnew_bad a hbad)
    clear hbad
    go_enter Try.func6, Try.ntmps6
    go_wp2_with (fail)
    refine (awake_any _).mono ?_
    rintro e w1 ⟨rfl, hO⟩
    have HO := Lib.hid hO
    clear hO
    go_wp2_with (fail)
    refine (HN.out _).mono ?_
    rintro e w2 ⟨rfl, rfl⟩
    go_wp2_with (fail)
    refine (HN'.out _).mono ?_
    rintro e w3 ⟨rfl, rfl⟩
    go_wp2_with (fail)
    go_loopw [10] (fun v wr => wr = w3 ∧ v = .int .i64 0) (fun v wr => 0)
    case atStart => exact ⟨rfl, rfl⟩
    case round =>
      obtain ⟨rfl, rfl⟩ := hrel
      go_wp2
      all_goals (go_ret; exact ⟨rfl, HO.out.below (Nat.le_refl _) (fun i hi h => h)⟩)
  · obtain ⟨m, rfl⟩ : ∃ m : Nat, a = m := ⟨a.toNat, by omega⟩
    have m1 : 1 ≤ m := by omega
    have m2 : m ≤ 4 := by omega
    clear hbad
    have HRO := Lib.hid hro
    have HOK := Lib.hid hok
    clear hro hok
    have HN := Lib.hid (fun (w' : World) (h : w.heap.size ≤ w'.heap.size) => qi_new m m1 m2 w.heap.size w' h)
    have HN' := Lib.hid (refnew_any m m1 m2)
    go_enter Try.func6, Try.ntmps6
    go_wp2_with (fail)
    refine (awake_any _).mono ?_
    rintro e w1 ⟨rfl, hO⟩
    have HO := Lib.hid hO
    clear hO
    go_wp2_with (fail)
    refine (HN.out _ HO.out.size).mono ?_
    rintro e w2 ⟨b, rfl, hq, hO⟩
    have HO2 := Lib.hid (HO.out.trans hO)
    have HQ2 := Lib.hid hq
    clear hq hO HO
    go_wp2_with (fail)
    refine (HN'.out _).mono ?_
    rintro e w3 ⟨rfl, hst, hO⟩
    have HT0 := Lib.hid (both_new HQ2.out hst hO HO2.out.size)
    have HO3 := Lib.hid (HO2.out.trans hO)
    clear hst hO HO2 HQ2 HN HN'
    obtain ⟨rb, hrb⟩ : ∃ rb, rb = w2.heap.size := ⟨_, rfl⟩
    rw [← hrb] at HT0 ⊢
    clear hrb
    go_wp2
    go_loopw [10] (fun v wr => ∃ k : Nat, k ≤ os.length ∧ k ≤ 150 ∧ v = .int .i64 k ∧ Some2 w.heap.size wr b rb m k ∧ Only (fun _ => False) w wr) (fun v _ => os.length - (intOf v).toNat)
    case atStart => exact ⟨0, by omega, by omega, rfl, HT0.out, HO3.out⟩
    case round =>
      obtain ⟨k, hk, hk3, rfl, hT, hO⟩ := hrel
      have HT := Lib.hid hT
      have HO := Lib.hid hO
      clear hT hO HT0 HO3
      have i0 : (0 : Int) ≤ k := by omega
      by_cases h1 : k < os.length
      · by_cases h3' : k < 150
        · obtain ⟨offo, rfl, hgA, d0, d1, d2, d3, d4, d5, d6⟩ := op_cells HRO.out HO.out h1
          have hoo := HOK.out _ (List.getElem_mem h1)
          have i1 : (k : Int) < os.length := by omega
          have i2 : (k : Int) < 150 := by omega
          generalize os[k] = o at *
          obtain ⟨d, cc, ⟨jk, jl, ju, jp, pos⟩, Ao, cap⟩ := o
          simp only at d0 d1 d2 d3 d4 d5 d6
          obtain ⟨⟨gr, hrd⟩, hpl⟩ := hoo
          simp only at hrd hpl
          by_cases hp : pos.length ≤ 100
          · have hp' : (pos.length : Int) ≤ 100 := by omega
            have hrr : ∀ G, ∃ gs, Rd wr gs Ao (iv pos) ∧ (gs < w.heap.size ∨ G ≤ gs) := by
              intro G
              have h2 := hrd.only HO.out id
              rcases hrd with he | ⟨_, _, hlt, _⟩
              · exact ⟨G, .inl he, .inr (Nat.le_refl _)⟩
              · exact ⟨gr, h2, .inl hlt⟩
            have HD := Lib.hid (does_any w.heap.size b rb m k d cc jk jl ju jp pos Ao cap wr HT.out (by omega) HO.out.size hrr (by omega))
            clear hrr hrd HT
            go_wp2_with (fail)
            refine HD.out.mono ?_
            rintro e w4 ⟨rfl, hS, hO4⟩
            have HS := Lib.hid hS
            have HO4 := Lib.hid (HO.out.trans' hO4 (S := fun _ => False) (fun i hi h => by omega))
            clear hS hO4
            go_wp2
            go_roundw
            case rel => exact ⟨k + 1, by omega, by omega, by simp, HS.out, HO4.out⟩
            case measure => simp [intOf]; omega
          · have hp' : (100 : Int) < pos.length := by omega
            go_wp2
            go_ret
            exact ⟨rfl, HO.out.below (Nat.le_refl _) (fun i hi h => h)⟩
        · have i1 : (k : Int) < os.length := by omega
          have i2 : decide ((k : Int) < 150) = false := by simp; omega
          have i3 : ¬ (k : Int) < 150 := by omega
          go_wp2
          go_ret
          exact ⟨rfl, HO.out.below (Nat.le_refl _) (fun i hi h => h)⟩
      · obtain rfl : k = os.length := by omega
        go_wp2
        go_ret
        exact ⟨rfl, HO.out.below (Nat.le_refl _) (fun i hi h => h)⟩
end Go.Proofs.Ytgaikacjophngaa
