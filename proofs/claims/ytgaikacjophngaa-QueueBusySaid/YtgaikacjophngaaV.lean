/- Queue: the law QueueBusy, walked. -/
import Derived.Test.YtgaikacjophngaaU
namespace Go.Proofs.Ytgaikacjophngaa
open Go.RowKit

theorem getD_lt (l : List Int) (k : Nat) (h : k < l.length) : l.getD k 0 = l[k] := by simp [List.getD, h]

set_option maxRecDepth 100000 in
set_option maxHeartbeats 4000000 in
theorem queueBusy_walk (l : List Int) (line : Int) (g c : Nat) (A : Option Addr) (w : World) (hr : Rd w g A (iv l)) (hlen : l.length ≤ 9223372036854775807) :
    Calls Try.prog 7 #[.slice A l.length c, .int .i64 line] w fun e w' => e = .returned (.bool true) ∧ Below w.heap.size w w' := by
  have HR := Lib.hid hr
  clear hr
  have HN := Lib.hid (fun (w' : World) (h : w.heap.size ≤ w'.heap.size) => (qi_new 3 (by omega) (by omega) w.heap.size w' h : Calls Try.prog 9 #[.int .i64 3] w' _))
  obtain ⟨M, hM⟩ : ∃ M, M = min l.length 100 := ⟨_, rfl⟩
  have hM1 : M ≤ l.length := by omega
  have hM2 : M ≤ 100 := by omega
  have HM := Lib.hid hM
  clear hM
  go_enter Try.func7, Try.ntmps7
  go_wp2_with (fail)
  refine (awake_any _).mono ?_
  rintro e w1 ⟨rfl, hO⟩
  have HO := Lib.hid hO
  clear hO
  go_wp2_with (fail)
  refine (HN.out _ HO.out.size).mono ?_
  rintro e w2 ⟨b, rfl, hq, hO⟩
  have HO2 := Lib.hid (HO.out.trans hO)
  have HQ2 := Lib.hid hq
  clear hq hO HO HN
  go_wp2
  go_loopw [8, 9] (fun v8 v9 wr => ∃ k : Nat, k ≤ M ∧ v9 = .int .i64 k ∧ v8 = .int .i64 (busyA (turns l k) line) ∧ QI w.heap.size wr b 3 (turns l k) ∧ Only (fun _ => False) w wr) (fun v8 v9 wr => (M - intOf v9).toNat)
  case atStart => exact ⟨0, by omega, rfl, rfl, HQ2.out, HO2.out⟩
  case round =>
    obtain ⟨k, hk, rfl, rfl, hq, hO⟩ := hrel
    have HQ := Lib.hid hq
    have HO := Lib.hid hO
    clear hq hO HQ2 HO2
    have hb0 := busy_le' l k line
    by_cases hkm : k < M
    · have hkl : k < l.length := by omega
      have i1 : (k : Int) < l.length := by omega
      have i2 : (k : Int) < 100 := by omega
      have i0 : (0 : Int) ≤ k := by omega
      have hne : iv l ≠ [] := by
        intro e
        have := iv_len l
        rw [e] at this; simp at this; omega
      obtain ⟨off, rfl, hlt, hget⟩ := (HR.out.only HO.out id).at hne
      have ck := hget k _ (iv_get l k hkl)
      have hr3 : ∀ (w3 : World), Only (fun _ => False) w w3 → w3.cell? ⟨g, off + k, none⟩ = some (.int .i64 l[k]) := fun w3 hO => by
        have h1 := (HR.out.at hne)
        obtain ⟨off', he, hlt', hg'⟩ := h1
        injection he with he
        injection he with _ he _
        subst he
        exact (hO.cell (p := ⟨g, off + k, none⟩) hlt' id).trans (hg' k _ (iv_get l k hkl))
      have hbp := busy_put l k line
      rw [getD_lt l k hkl] at hbp
      have HBP := Lib.hid hbp
      have hjl : (⟨0, l[k], 0, 0, []⟩ : Jb) = jl (l.getD k 0) := by rw [getD_lt l k hkl]; rfl
      have HP := Lib.hid (qi_put (w := wr) (k % 3) HQ.out HO.out.size (by omega) 0 l[k] 0 0 [] none 0 0 (rd_nil _ _) (by simp) (by have := turns_len l k (k % 3); omega))
      rw [hjl, ← turns_succ] at HP
      generalize l[k] = z at *
      have hr3 := Lib.hid hr3
      clear hget hbp hjl
      have hm3 : ((k % 3 : Nat) : Int) = (k : Int) % 3 := by omega
      rw [hm3] at HP
      obtain ⟨B, hB⟩ : ∃ B, busyA (turns l k) line = B := ⟨_, rfl⟩
      obtain ⟨B', hB'⟩ : ∃ B', busyA (turns l (k + 1)) line = B' := ⟨_, rfl⟩
      rw [hB] at hb0 HBP ⊢
      rw [hB'] at HBP
      have HB' := Lib.hid hB'
      clear hB hB' hm3
      by_cases hzl : z = line
      · have hbb : B' = B + 1 := by rw [HBP.out, if_pos hzl]
        subst hbb
        subst hzl
        have bt : ((B : Int) + 1 != (B : Int) + 1) = false := by simp
        clear HBP
        go_wp2_with (fail)
        refine HP.out.mono ?_
        rintro e w3 ⟨rfl, hq3, hO3⟩
        have HO3 := Lib.hid (HO.out.trans' hO3 (S := fun _ => False) (fun i hi h => by omega))
        have HQ3 := Lib.hid hq3
        have ck3 := (hr3.out _ HO3.out)
        have HBb := Lib.hid (qi_busy z HQ3.out (fun i _ => by have := turns_len l (k + 1) i; omega))
        rw [HB'.out, show ((B + 1 : Nat) : Int) = (B : Int) + 1 by omega] at HBb
        clear hq3 hO3 ck HP
        go_wp2_with (fail)
        refine HBb.out.mono ?_
        rintro e w4 ⟨rfl, hO4⟩
        have HO4 := Lib.hid (HO3.out.trans hO4)
        have HQ4 := Lib.hid (HQ3.out.quiet hO4)
        clear hO4
        go_wp2
        go_roundw
        case rel => exact ⟨k + 1, by omega, by simp, by rw [HB'.out]; simp, HQ4.out, HO4.out⟩
        case measure => simp [intOf]; omega
      · have hbb : B' = B := by rw [HBP.out, if_neg hzl, Nat.add_zero]
        subst hbb
        have zt : (z == line) = false := beq_false_of_ne hzl
        have bt : ((B' : Int) != (B' : Int)) = false := by simp
        clear HBP
        go_wp2_with (fail)
        refine HP.out.mono ?_
        rintro e w3 ⟨rfl, hq3, hO3⟩
        have HO3 := Lib.hid (HO.out.trans' hO3 (S := fun _ => False) (fun i hi h => by omega))
        have HQ3 := Lib.hid hq3
        have ck3 := (hr3.out _ HO3.out)
        have HBb := Lib.hid (qi_busy line HQ3.out (fun i _ => by have := turns_len l (k + 1) i; omega))
        rw [HB'.out] at HBb
        clear hq3 hO3 ck HP
        go_wp2_with (fail)
        refine HBb.out.mono ?_
        rintro e w4 ⟨rfl, hO4⟩
        have HO4 := Lib.hid (HO3.out.trans hO4)
        have HQ4 := Lib.hid (HQ3.out.quiet hO4)
        clear hO4
        go_wp2
        go_roundw
        case rel => exact ⟨k + 1, by omega, by simp, by rw [HB'.out], HQ4.out, HO4.out⟩
        case measure => simp [intOf]; omega
    · have hkM : M = k := by omega
      subst hkM
      have hs : M = l.length ∨ (M = 100 ∧ 100 < l.length) := by have := HM.out; omega
      have HQ2 : Hid (QI w.heap.size wr b 3 (left l M 0)) := Lib.hid (by rw [left_zero]; exact HQ.out)
      rw [← left_zero] at hb0 ⊢
      have HK := Lib.hid hs
      clear HQ
      rcases hs with hs | ⟨hs, hs2⟩
      · have d1 : decide ((M : Int) < l.length) = false := by simp; omega
        have d3 : decide (M < l.length) = false := by simp; omega
        have HS := Lib.hid hs
        clear hs
        go_wp2
        try simp only [d1, d3]
        obtain ⟨wo, rfl⟩ : ∃ wo : World, wo = wr := ⟨_, rfl⟩
        go_loopw [8, 10] (fun v8 v10 wr => ∃ k : Nat, k ≤ M ∧ v10 = .int .i64 k ∧ v8 = .int .i64 (busyA (left l M k) line) ∧ QI w.heap.size wr b 3 (left l M k) ∧ Only (fun _ => False) w wr) (fun v8 v10 wr => (M - intOf v10).toNat)
        case atStart => exact ⟨0, by omega, rfl, rfl, HQ2.out, HO.out⟩
        case round =>
          obtain ⟨k, hk, rfl, rfl, hq, hO⟩ := hrel
          have HQ := Lib.hid hq
          have HO := Lib.hid hO
          clear hq hO HQ2 hb0 
          have hb0 := busy_le l M k line
          have hbn := busy_le l M (k + 1) line
          by_cases hkm : k < M
          · have hkl : k < l.length := by omega
            have i1 : (k : Int) < l.length := by omega
            have i2 : (k : Int) < 100 := by omega
            have i0 : (0 : Int) ≤ k := by omega
            have hne : iv l ≠ [] := by
              intro e
              have := iv_len l
              rw [e] at this; simp at this; omega
            obtain ⟨off, rfl, hlt, hget⟩ := (HR.out.only HO.out id).at hne
            have hr3 : ∀ (w3 : World), Only (fun _ => False) w w3 → w3.cell? ⟨g, off + k, none⟩ = some (.int .i64 l[k]) := fun w3 hO => by
              have h1 := (HR.out.at hne)
              obtain ⟨off', he, hlt', hg'⟩ := h1
              injection he with he
              injection he with _ he _
              subst he
              exact (hO.cell (p := ⟨g, off + k, none⟩) hlt' id).trans (hg' k _ (iv_get l k hkl))
            have hbp := busy_pop l M k hkm line
            rw [getD_lt l k hkl] at hbp
            have HBP := Lib.hid hbp
            have hls := left_succ l M k hkm
            have hP := qi_pop (w := wr) (k % 3) HQ.out (by omega) (jl (l.getD k 0)) _ (left_head l M k hkm) (by have := left_len l M k (k % 3); omega)
            have hP' : Calls Try.prog 11 #[.pointer (some ⟨b, 0, none⟩), .int .i64 ((k : Int) % 3)] wr fun e w' => ∃ A c, e = .returned (.tuple #[.agg #[.int .i64 0, .int .i64 l[k], .int .i64 0, .int .i64 0, .slice A 0 c], .bool true]) ∧ QI w.heap.size w' b 3 (left l M (k + 1)) ∧ Only (fun i => w.heap.size ≤ i) wr w' := by
              have hm3 : ((k % 3 : Nat) : Int) = (k : Int) % 3 := by omega
              rw [hm3] at hP
              refine hP.mono ?_
              rintro e w' ⟨A, c, gp, rfl, _, _, _, hq, hO⟩
              rw [← hls] at hq
              rw [← getD_lt l k hkl]
              exact ⟨A, c, rfl, hq, hO⟩
            have HP := Lib.hid hP'
            clear hP hP' hls
            generalize l[k] = z at *
            have HR3 := Lib.hid hr3
            clear hget hbp hr3
            obtain ⟨B, hB⟩ : ∃ B, busyA (left l M k) line = B := ⟨_, rfl⟩
            obtain ⟨B', hB'⟩ : ∃ B', busyA (left l M (k + 1)) line = B' := ⟨_, rfl⟩
            rw [hB] at hb0 HBP ⊢
            rw [hB'] at HBP hbn
            have HB' := Lib.hid hB'
            clear hB hB'
            have zz : (z != z) = false := by simp
            go_wp2_with (fail)
            refine HP.out.mono ?_
            rintro e w3 ⟨Aj, cj, rfl, hq3, hO3⟩
            have HO3 := Lib.hid ((HO.out.trans' hO3 (S := fun _ => False) (fun i hi h => by omega)).alloc (.cells #[.int .i64 0, .int .i64 z, .int .i64 0, .int .i64 0, .slice Aj 0 cj] 31))
            have HQ3 := Lib.hid (hq3.quiet ((Only.refl _ _).alloc (.cells #[.int .i64 0, .int .i64 z, .int .i64 0, .int .i64 0, .slice Aj 0 cj] 31)))
            have HA3 := Lib.hid (At.new w3 31 #[.int .i64 0, .int .i64 z, .int .i64 0, .int .i64 0, .slice Aj 0 cj])
            have ck3 := HR3.out _ HO3.out
            have cj3 := HA3.out.cell 1
            simp at cj3
            clear hq3 hO3 HP
            by_cases hzl : z = line
            · have hbb : B = B' + 1 := by rw [HBP.out, if_pos hzl]
              subst hbb
              subst hzl
              have bt : ((B' : Int) != (B' : Int)) = false := by simp
              have HBb := Lib.hid (qi_busy z (HQ3.out.quiet ((Only.refl _ _).drew)) (fun i _ => by have := left_len l M (k + 1) i; omega))
              rw [HB'.out] at HBb
              clear HBP
              simp only [show ((B' + 1 : Nat) : Int) = (B' : Int) + 1 by omega]
              go_wp2_with (fail)
              go_region
              go_wp2_with (fail)
              refine HBb.out.mono ?_
              rintro e w4 ⟨rfl, hO4⟩
              have HO4 := Lib.hid ((HO3.out.drew).trans hO4)
              have HQ4 := Lib.hid ((HQ3.out.quiet ((Only.refl _ _).drew)).quiet hO4)
              clear hO4
              go_wp2
              go_roundw
              case rel => exact ⟨k + 1, by omega, by simp, by rw [HB'.out], HQ4.out, HO4.out⟩
              case measure => simp [intOf]; omega
            · have hbb : B = B' := by rw [HBP.out, if_neg hzl, Nat.add_zero]
              subst hbb
              have zt : (z == line) = false := beq_false_of_ne hzl
              have bt : ((B : Int) != (B : Int)) = false := by simp
              have HBb := Lib.hid (qi_busy line (HQ3.out.quiet ((Only.refl _ _).drew)) (fun i _ => by have := left_len l M (k + 1) i; omega))
              rw [HB'.out] at HBb
              clear HBP
              go_wp2_with (fail)
              go_region
              go_wp2_with (fail)
              refine HBb.out.mono ?_
              rintro e w4 ⟨rfl, hO4⟩
              have HO4 := Lib.hid ((HO3.out.drew).trans hO4)
              have HQ4 := Lib.hid ((HQ3.out.quiet ((Only.refl _ _).drew)).quiet hO4)
              clear hO4
              go_wp2
              go_roundw
              case rel => exact ⟨k + 1, by omega, by simp, by rw [HB'.out], HQ4.out, HO4.out⟩
              case measure => simp [intOf]; omega
          · obtain rfl : k = M := by omega
            rw [busy_none]
            go_wp2
            go_ret
            exact ⟨by simp, HO.out.below (Nat.le_refl _) (fun i hi h => h)⟩
      · have d1 : (M : Int) < l.length := by omega
        have d2 : decide ((M : Int) < 100) = false := by simp; omega
        have d3 : decide (M < 100) = false := by simp; omega
        have HS := Lib.hid (And.intro hs hs2)
        clear hs hs2
        go_wp2
        try simp only [d2, d3]
        obtain ⟨wo, rfl⟩ : ∃ wo : World, wo = wr := ⟨_, rfl⟩
        go_loopw [8, 10] (fun v8 v10 wr => ∃ k : Nat, k ≤ M ∧ v10 = .int .i64 k ∧ v8 = .int .i64 (busyA (left l M k) line) ∧ QI w.heap.size wr b 3 (left l M k) ∧ Only (fun _ => False) w wr) (fun v8 v10 wr => (M - intOf v10).toNat)
        case atStart => exact ⟨0, by omega, rfl, rfl, HQ2.out, HO.out⟩
        case round =>
          obtain ⟨k, hk, rfl, rfl, hq, hO⟩ := hrel
          have HQ := Lib.hid hq
          have HO := Lib.hid hO
          clear hq hO HQ2 hb0 
          have hb0 := busy_le l M k line
          have hbn := busy_le l M (k + 1) line
          by_cases hkm : k < M
          · have hkl : k < l.length := by omega
            have i1 : (k : Int) < l.length := by omega
            have i2 : (k : Int) < 100 := by omega
            have i0 : (0 : Int) ≤ k := by omega
            have hne : iv l ≠ [] := by
              intro e
              have := iv_len l
              rw [e] at this; simp at this; omega
            obtain ⟨off, rfl, hlt, hget⟩ := (HR.out.only HO.out id).at hne
            have hr3 : ∀ (w3 : World), Only (fun _ => False) w w3 → w3.cell? ⟨g, off + k, none⟩ = some (.int .i64 l[k]) := fun w3 hO => by
              have h1 := (HR.out.at hne)
              obtain ⟨off', he, hlt', hg'⟩ := h1
              injection he with he
              injection he with _ he _
              subst he
              exact (hO.cell (p := ⟨g, off + k, none⟩) hlt' id).trans (hg' k _ (iv_get l k hkl))
            have hbp := busy_pop l M k hkm line
            rw [getD_lt l k hkl] at hbp
            have HBP := Lib.hid hbp
            have hls := left_succ l M k hkm
            have hP := qi_pop (w := wr) (k % 3) HQ.out (by omega) (jl (l.getD k 0)) _ (left_head l M k hkm) (by have := left_len l M k (k % 3); omega)
            have hP' : Calls Try.prog 11 #[.pointer (some ⟨b, 0, none⟩), .int .i64 ((k : Int) % 3)] wr fun e w' => ∃ A c, e = .returned (.tuple #[.agg #[.int .i64 0, .int .i64 l[k], .int .i64 0, .int .i64 0, .slice A 0 c], .bool true]) ∧ QI w.heap.size w' b 3 (left l M (k + 1)) ∧ Only (fun i => w.heap.size ≤ i) wr w' := by
              have hm3 : ((k % 3 : Nat) : Int) = (k : Int) % 3 := by omega
              rw [hm3] at hP
              refine hP.mono ?_
              rintro e w' ⟨A, c, gp, rfl, _, _, _, hq, hO⟩
              rw [← hls] at hq
              rw [← getD_lt l k hkl]
              exact ⟨A, c, rfl, hq, hO⟩
            have HP := Lib.hid hP'
            clear hP hP' hls
            generalize l[k] = z at *
            have HR3 := Lib.hid hr3
            clear hget hbp hr3
            obtain ⟨B, hB⟩ : ∃ B, busyA (left l M k) line = B := ⟨_, rfl⟩
            obtain ⟨B', hB'⟩ : ∃ B', busyA (left l M (k + 1)) line = B' := ⟨_, rfl⟩
            rw [hB] at hb0 HBP ⊢
            rw [hB'] at HBP hbn
            have HB' := Lib.hid hB'
            clear hB hB'
            have zz : (z != z) = false := by simp
            go_wp2_with (fail)
            refine HP.out.mono ?_
            rintro e w3 ⟨Aj, cj, rfl, hq3, hO3⟩
            have HO3 := Lib.hid ((HO.out.trans' hO3 (S := fun _ => False) (fun i hi h => by omega)).alloc (.cells #[.int .i64 0, .int .i64 z, .int .i64 0, .int .i64 0, .slice Aj 0 cj] 31))
            have HQ3 := Lib.hid (hq3.quiet ((Only.refl _ _).alloc (.cells #[.int .i64 0, .int .i64 z, .int .i64 0, .int .i64 0, .slice Aj 0 cj] 31)))
            have HA3 := Lib.hid (At.new w3 31 #[.int .i64 0, .int .i64 z, .int .i64 0, .int .i64 0, .slice Aj 0 cj])
            have ck3 := HR3.out _ HO3.out
            have cj3 := HA3.out.cell 1
            simp at cj3
            clear hq3 hO3 HP
            by_cases hzl : z = line
            · have hbb : B = B' + 1 := by rw [HBP.out, if_pos hzl]
              subst hbb
              subst hzl
              have bt : ((B' : Int) != (B' : Int)) = false := by simp
              have HBb := Lib.hid (qi_busy z (HQ3.out.quiet ((Only.refl _ _).drew)) (fun i _ => by have := left_len l M (k + 1) i; omega))
              rw [HB'.out] at HBb
              clear HBP
              simp only [show ((B' + 1 : Nat) : Int) = (B' : Int) + 1 by omega]
              go_wp2_with (fail)
              go_region
              go_wp2_with (fail)
              refine HBb.out.mono ?_
              rintro e w4 ⟨rfl, hO4⟩
              have HO4 := Lib.hid ((HO3.out.drew).trans hO4)
              have HQ4 := Lib.hid ((HQ3.out.quiet ((Only.refl _ _).drew)).quiet hO4)
              clear hO4
              go_wp2
              go_roundw
              case rel => exact ⟨k + 1, by omega, by simp, by rw [HB'.out], HQ4.out, HO4.out⟩
              case measure => simp [intOf]; omega
            · have hbb : B = B' := by rw [HBP.out, if_neg hzl, Nat.add_zero]
              subst hbb
              have zt : (z == line) = false := beq_false_of_ne hzl
              have bt : ((B : Int) != (B : Int)) = false := by simp
              have HBb := Lib.hid (qi_busy line (HQ3.out.quiet ((Only.refl _ _).drew)) (fun i _ => by have := left_len l M (k + 1) i; omega))
              rw [HB'.out] at HBb
              clear HBP
              go_wp2_with (fail)
              go_region
              go_wp2_with (fail)
              refine HBb.out.mono ?_
              rintro e w4 ⟨rfl, hO4⟩
              have HO4 := Lib.hid ((HO3.out.drew).trans hO4)
              have HQ4 := Lib.hid ((HQ3.out.quiet ((Only.refl _ _).drew)).quiet hO4)
              clear hO4
              go_wp2
              go_roundw
              case rel => exact ⟨k + 1, by omega, by simp, by rw [HB'.out], HQ4.out, HO4.out⟩
              case measure => simp [intOf]; omega
          · obtain rfl : k = M := by omega
            rw [busy_none]
            go_wp2
            go_ret
            exact ⟨by simp, HO.out.below (Nat.le_refl _) (fun i hi h => h)⟩
end Go.Proofs.Ytgaikacjophngaa
