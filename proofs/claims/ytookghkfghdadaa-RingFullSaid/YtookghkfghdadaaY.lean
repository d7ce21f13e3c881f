/- Ring: the law RingFull, walked. -/
import Derived.Test.YtookghkfghdadaaX
namespace Go.Proofs.Ytookghkfghdadaa
open Go.RowKit

set_option maxRecDepth 100000 in
set_option maxHeartbeats 8000000 in
theorem ringFull_walk (a done : Int) (w : World) :
    Calls Try.prog 8 #[.int .i64 a, .int .i64 done] w fun e w' => e = .returned (.bool true) ∧ Below w.heap.size w w' := by
  by_cases hbad : a < 1 ∨ 256 < a
  · have HN := Lib.hid (new_bad a hbad)
    rcases hbad with hbad | hbad
    all_goals
      go_enter Try.func8, Try.ntmps8
      go_wp2_with (fail)
      refine (awake_any _).mono ?_
      rintro e w1 ⟨rfl, hO⟩
      have HO := Lib.hid hO
      clear hO
      go_wp2_with (fail)
      refine (HN.out _).mono ?_
      rintro e w2 ⟨rfl, rfl⟩
      go_wp2
      go_ret
      exact ⟨by simp; try omega, HO.out.below (Nat.le_refl _) (fun i hi h => h)⟩
  obtain ⟨n, rfl⟩ : ∃ m : Nat, a = m := ⟨a.toNat, by omega⟩
  have n1 : 1 ≤ n := by omega
  have n2 : n ≤ 256 := by omega
  clear hbad
  have HN := Lib.hid (new_any n n1 n2)
  go_enter Try.func8, Try.ntmps8
  go_wp2_with (fail)
  refine (awake_any _).mono ?_
  rintro e w1 ⟨rfl, hO⟩
  have HO := Lib.hid hO
  clear hO
  go_wp2_with (fail)
  refine (HN.out _).mono ?_
  rintro e w2 ⟨b, g, rfl, hk, hb, hg, hO⟩
  have hb : w.heap.size ≤ b := by have := HO.out.size; omega
  have hg : w.heap.size ≤ g := by have := HO.out.size; omega
  have HO2 := Lib.hid (HO.out.trans hO)
  have HK2 := Lib.hid hk
  clear hk hO HO HN
  go_wp2_with (fail)
  go_loopw [8] (fun v wr => ∃ (k : Nat) (lr : List RC), k ≤ n ∧ v = .int .i64 k ∧ lr.length = n ∧ (∀ p, p < k → stOf lr p = 0 ∧ slotOf lr p = ⟨0, p, 0, 0, []⟩) ∧ RgAt wr b g 0 k lr ∧ Only (fun _ => False) w wr) (fun v wr => (n - intOf v).toNat)
  case atStart => exact ⟨0, _, by omega, rfl, by simp, fun p hp => by omega, HK2.out, HO2.out⟩
  case round =>
    obtain ⟨k, lr, hk, rfl, hll, hst, hK, hO⟩ := hrel
    have HK := Lib.hid hK
    have HO := Lib.hid hO
    have HST := Lib.hid hst
    clear hK hO hst HK2 HO2
    by_cases hkn : k < n
    · have i1 : (k : Int) < n := by omega
      have HP := Lib.hid (put_any b g 0 k lr ⟨0, k, 0, 0, []⟩ none 0 0 wr HK.out (by omega) (by omega) (.inl rfl) (by simp))
      simp only [Sl.val, List.length_nil] at HP
      have tk : ((k : Int) != (k : Int)) = false := by simp
      go_wp2_with (fail)
      refine HP.out.mono ?_
      rintro e w3 ⟨r, rfl, hk3, hrx, hrs, _, _, hO3⟩
      have HK3 := Lib.hid hk3
      have HO3 := Lib.hid (HO.out.trans' hO3 (S := fun _ => False) (fun i hi e => by omega))
      have hs3 : ∀ p, p < k + 1 → stOf (lr.set (k % lr.length) r) p = 0 ∧ slotOf (lr.set (k % lr.length) r) p = ⟨0, p, 0, 0, []⟩ := by
        intro p hp
        rw [stOf_set _ _ _ _ (Nat.mod_lt _ (by omega)), slotOf_set _ _ _ _ (Nat.mod_lt _ (by omega)), hll, Nat.mod_eq_of_lt hkn, Nat.mod_eq_of_lt (by omega)]
        by_cases hpk : p = k
        · subst hpk
          rw [if_pos rfl, if_pos rfl]
          exact ⟨hrs, hrx⟩
        · rw [if_neg hpk, if_neg hpk]
          exact HST.out p (by omega)
      have HS3 := Lib.hid hs3
      have hl3 : (lr.set (k % lr.length) r).length = n := by simp [hll]
      generalize lr.set (k % lr.length) r = l3 at *
      have HF := Lib.hid (free_any b g 0 (k + 1) l3 w3 hk3)
      rw [hl3, show ((n + 0 - (k + 1) : Nat) : Int) = (n : Int) - 1 - k by omega] at HF
      have tf : (((n : Int) - 1 - k) != ((n : Int) - 1 - k)) = false := by simp
      clear hk3 hO3 hs3 HP
      go_wp2_with (fail)
      refine HF.out.mono ?_
      rintro e w4 ⟨rfl, hO4⟩
      have HK4 := Lib.hid (HK3.out.quiet hO4)
      have HO4 := Lib.hid (HO3.out.trans hO4)
      clear hO4
      go_wp2
      go_roundw
      case rel => exact ⟨k + 1, l3, by omega, by simp, hl3, HS3.out, HK4.out, HO4.out⟩
      case measure => simp [intOf]; omega
    · obtain rfl : n = k := by omega
      have HSt : Hid (St lr n 0) := Lib.hid ⟨hll, fun p hp => by omega, fun p _ hp => (HST.out p hp).1, by omega⟩
      have d0 : decide ((n : Int) < n) = false := by simp
      have HPf := Lib.hid (put_full b g 0 n lr (.int .i64 0) (.int .i64 (-7)) (.int .i64 0) (.slice none 0 0) (.int .i64 0) wr HK.out (by omega))
      have tn : ((n : Int) != (n : Int)) = false := by simp
      clear hkn
      go_wp2_with (fail)
      refine HPf.out.mono ?_
      rintro e w3 ⟨rfl, hO3⟩
      have hk3 := HK.out.quiet hO3
      have HH := Lib.hid (head_any b g 0 n lr w3 hk3)
      have HW := Lib.hid (waiting_any b g 0 n lr w3 hk3)
      rw [HSt.out.waits, Nat.sub_zero] at HW
      have HK3 := Lib.hid hk3
      have HO3 := Lib.hid (HO.out.trans hO3)
      clear hk3 hO3 HPf
      go_wp2_with (fail)
      refine HH.out.mono ?_
      rintro e w4 ⟨rfl, rfl⟩
      go_wp2_with (fail)
      refine HW.out.mono ?_
      rintro e w5 ⟨rfl, hO5⟩
      have HK5 := Lib.hid (HK3.out.quiet hO5)
      have HO5 := Lib.hid (HO3.out.trans hO5)
      clear hO5 HW HH
      by_cases hdn : done < 0 ∨ (n : Int) < done
      · have hdn : done < 0 ∨ (0 ≤ done ∧ (n : Int) < done) := by omega
        rcases hdn with h | ⟨h, h'⟩
        all_goals
          go_wp2
          go_ret
          exact ⟨rfl, HO5.out.below (Nat.le_refl _) (fun i hi h => h)⟩
      · obtain ⟨d, rfl⟩ : ∃ d : Nat, done = d := ⟨done.toNat, by omega⟩
        have hd : d ≤ n := by omega
        have j1 : (d : Int) ≤ n := by omega
        have j2 : ¬ (n : Int) < d := by omega
        have HT := Lib.hid (take_any b g 0 n lr n w5 HK5.out)
        have hSn := (HSt.out.tk n).2
        have hsl : ∀ p, p < n → slotOf (Proofs.Ytookghkfghdadaa.tk lr 0 n n).1 p = ⟨0, p, 0, 0, []⟩ := fun p hp => by
          rw [slotOf_tk n lr 0 n n p (by omega) (by omega)]; exact (HST.out p hp).2
        rw [show ((n : Int)).toNat = n by omega] at HT
        have e0 : 0 + min n (n - 0) = n := by omega
        rw [e0] at hSn
        obtain ⟨lt, ot, hlt⟩ : ∃ lt ot, Proofs.Ytookghkfghdadaa.tk lr 0 n n = (lt, ot) := ⟨_, _, rfl⟩
        rw [hlt] at HT hSn hsl
        simp only at HT hSn hsl
        have HD : Hid (Dn lt n d d) := Lib.hid ⟨hSn.len, fun p hp => by rw [hSn.out p hp, if_neg (by omega)], hsl⟩
        clear hSn hsl hlt hdn e0
        go_wp2_with (fail)
        refine HT.out.mono ?_
        rintro e w6 ⟨A, c, gO, rfl, _, _, hk6, hO6⟩
        have HK6 := Lib.hid hk6
        have HO6 := Lib.hid (HO5.out.trans' hO6 (S := fun _ => False) (fun i hi e => by omega))
        clear hk6 hO6 HT
        go_wp2_with (fail)
        obtain ⟨wo, rfl⟩ : ∃ wo : World, wo = w6 := ⟨_, rfl⟩
        go_loopw [13] (fun v wr => ∃ (i : Nat) (lr : List RC), i ≤ d ∧ v = .int .i64 ((i : Int) - 1) ∧ Dn lr n i d ∧ RgAt wr b g (if i = 0 then d else 0) n lr ∧ Only (fun _ => False) w wr) (fun v wr => (intOf v + 1).toNat)
        case atStart =>
          refine ⟨d, lt, Nat.le_refl _, rfl, HD.out, ?_, HO6.out⟩
          by_cases h0 : d = 0
          · rw [if_pos h0, h0]; exact HK6.out
          · rw [if_neg h0]; exact HK6.out
        case round =>
          obtain ⟨i, lr, hi, rfl, hD, hK, hO⟩ := hrel
          have HD := Lib.hid hD
          have HK := Lib.hid hK
          have HO := Lib.hid hO
          clear hD hK hO HK6 HO6 HSt HST
          by_cases h0 : 0 < i
          · obtain ⟨m, rfl⟩ : ∃ m, i = m + 1 := ⟨i - 1, by omega⟩
            have e1 : ((m + 1 : Nat) : Int) - 1 = m := by omega
            rw [e1]
            rw [if_neg (by omega)] at HK
            have HF := Lib.hid (free_any b g 0 n lr wr HK.out)
            rw [HD.out.len, show n + 0 - n = 0 by omega] at HF
            have i0 : (0 : Int) ≤ m := by omega
            go_wp2_with (fail)
            refine HF.out.mono ?_
            rintro e w7 ⟨rfl, hO7⟩
            have hk7 := HK.out.quiet hO7
            have HDo := Lib.hid (done_ok b g 0 n lr m w7 hk7 (by omega) (by rw [HD.out.st m (by omega), if_neg (by omega)]))
            have hD7 := HD.out.step (by omega) hd
            rw [hD7.tail (by omega) hd] at HDo
            have HD7 := Lib.hid hD7
            have HO7 := Lib.hid (HO.out.trans hO7)
            clear hk7 hO7 hD7 HF
            go_wp2_with (fail)
            refine HDo.out.mono ?_
            rintro e w8 ⟨rfl, hk8, hO8⟩
            have HK8 := Lib.hid hk8
            have HO8 := Lib.hid (HO7.out.trans' hO8 (S := fun _ => False) (fun i hi e => by omega))
            clear hk8 hO8 HDo
            go_wp2
            go_roundw
            case rel => exact ⟨m, _, by omega, rfl, HD7.out, HK8.out, HO8.out⟩
            case measure => simp [intOf]; try omega
          · obtain rfl : i = 0 := by omega
            rw [if_pos rfl] at HK
            have HF := Lib.hid (free_any b g d n lr wr HK.out)
            rw [HD.out.len, show n + d - n = d by omega] at HF
            have td : ((d : Int) != (d : Int)) = false := by simp
            clear h0 hi
            go_wp2_with (fail)
            refine HF.out.mono ?_
            rintro e w7 ⟨rfl, hO7⟩
            have hk7 := HK.out.quiet hO7
            have HTl := Lib.hid (tail_any b g d n lr w7 hk7)
            have HK7 := Lib.hid hk7
            have HO7 := Lib.hid (HO.out.trans hO7)
            clear hk7 hO7 HF HK
            go_wp2_with (fail)
            refine HTl.out.mono ?_
            rintro e w8 ⟨rfl, rfl⟩
            go_wp2_with (fail)
            obtain ⟨wp, rfl⟩ : ∃ wp : World, wp = w8 := ⟨_, rfl⟩
            go_loopw [14] (fun v wr => ∃ (i : Nat), i ≤ n ∧ v = .int .i64 i ∧ Only (fun _ => False) w wr ∧ RgAt wr b g d n lr) (fun v wr => (n - intOf v).toNat)
            case atStart => exact ⟨0, by omega, rfl, HO7.out, HK7.out⟩
            case round =>
              obtain ⟨i, hi, rfl, hO, hK⟩ := hrel
              have HK := Lib.hid hK
              have HO := Lib.hid hO
              clear hK hO HK7 HO7
              by_cases hin : i < n
              · have i1 : (i : Int) < n := by omega
                by_cases hid : i < d
                · have i2 : (i : Int) < d := by omega
                  have i3 : ¬ (d : Int) ≤ i := by omega
                  have i4 : decide ((d : Int) ≤ i) = false := by simp; omega
                  have HG := Lib.hid (get_no b g d n lr i wr HK.out (.inl i2))
                  have HS := fun w => Lib.hid (same_l 0 0 i 0 0 [] none none 0 0 0 0 w (.inl rfl) (.inl rfl))
                  simp only [List.length_nil] at HS
                  go_wp2_with (fail)
                  refine HG.out.mono ?_
                  rintro e w1 ⟨rfl, hO1⟩
                  have HO1 := Lib.hid hO1
                  unfold zeroSlot
                  clear hO1 HG
                  go_wp2_with (fail)
                  refine (HS _).out.mono ?_
                  rintro e w2 ⟨rfl, hO2⟩
                  have HO2 := Lib.hid ((HO1.out.alloc _).trans hO2)
                  clear hO2 HS HO1
                  go_wp2
                  go_roundw
                  case rel => exact ⟨i + 1, by omega, by simp, HO.out.trans HO2.out, HK.out.quiet HO2.out⟩
                  case measure => simp [intOf]; try omega
                · have i2 : ¬ (i : Int) < d := by omega
                  have i3 : (d : Int) ≤ i := by omega
                  have i4 : decide ((i : Int) < d) = false := by simp; omega
                  have HG := Lib.hid (get_in b g d n lr i wr HK.out ⟨by omega, hin⟩)
                  rw [HD.out.sl i hin] at HG
                  have HS := fun A c w => Lib.hid (same_l 0 i i 0 0 [] A none c 0 0 0 w (.inl rfl) (.inl rfl))
                  have ti : ((i : Int) == (i : Int)) = true := by simp
                  simp only [List.length_nil, ti] at HS
                  go_wp2_with (fail)
                  refine HG.out.mono ?_
                  rintro e w1 ⟨A', c', gp, rfl, _, _, _, hO1⟩
                  have HO1 := Lib.hid hO1
                  simp only [Sl.val, List.length_nil]
                  clear hO1 HG
                  go_wp2_with (fail)
                  refine (HS _ _ _).out.mono ?_
                  rintro e w2 ⟨rfl, hO2⟩
                  have HO2 := Lib.hid ((HO1.out.alloc _).trans hO2)
                  clear hO2 HS HO1
                  go_wp2
                  go_roundw
                  case rel => exact ⟨i + 1, by omega, by simp, HO.out.trans HO2.out, HK.out.quiet HO2.out⟩
                  case measure => simp [intOf]; try omega
              · obtain rfl : i = n := by omega
                have i1 : ¬ (i : Int) < i := by omega
                go_wp2
                go_ret
                exact ⟨rfl, HO.out.below (Nat.le_refl _) (fun i hi h => h)⟩
end Go.Proofs.Ytookghkfghdadaa
