/- Ring: the law RingTakes, walked. -/
import Derived.Test.YtookghkfghdadaaJ
namespace Go.Proofs.Ytookghkfghdadaa
open Go.RowKit

/-- A number of a row that was handed out. -/
theorem row_cell {w : World} {A : Option Addr} {n c g : Nat} {l : List Int} {m : Nat} (h : RowAt w A n c g 3 1 (iv l)) (hm : m < l.length) : ∃ off, A = some ⟨g, off, none⟩ ∧ w.cell? ⟨g, off + m, none⟩ = some (.int .i64 l[m]) := by
  rcases h with ⟨_, _, _, h⟩ | ⟨off, cells, h1, h2, h3, h4, h5, h6, h7⟩
  · have := iv_len l; rw [h] at this; simp at this; omega
  · exact ⟨off, h1, (h2.cell _).trans (h7 m _ (iv_get l m hm))⟩

set_option maxRecDepth 100000 in
set_option maxHeartbeats 8000000 in
theorem ringTakes_walk (a : Int) (l : List Int) (g0 c0 : Nat) (A0 : Option Addr) (back : Int) (w : World) (hr : Rd w g0 A0 (iv l)) (hlen : l.length ≤ 9223372036854775807) (hw : ∀ z ∈ l, (Lit.int .i64 z).wf = true) :
    Calls Try.prog 4 #[.int .i64 a, .slice A0 l.length c0, .int .i64 back] w fun e w' => e = .returned (.bool true) ∧ Below w.heap.size w w' := by
  by_cases hbad : a < 1 ∨ 256 < a
  · have HN := Lib.hid (new_bad a hbad)
    rcases hbad with hbad | hbad
    all_goals
      go_enter Try.func4, Try.ntmps4
      go_wp2_with (fail)
      refine (awake_any _).mono ?_
      rintro e w1 ⟨rfl, hO⟩
      have HO := Lib.hid hO
      clear hO
      go_wp2_with (fail)
      refine (HN.out _).mono ?_
      rintro e w2 ⟨rfl, rfl⟩
      go_wp2
      go_ret
      exact ⟨by simp; try omega, HO.out.below (Nat.le_refl _) (fun i hi h => h)⟩
  obtain ⟨n, rfl⟩ : ∃ m : Nat, a = m := ⟨a.toNat, by omega⟩
  have n1 : 1 ≤ n := by omega
  have n2 : n ≤ 256 := by omega
  clear hbad
  have HR := Lib.hid hr
  have HW := Lib.hid hw
  have HN := Lib.hid (new_any n n1 n2)
  clear hr hw
  go_enter Try.func4, Try.ntmps4
  go_wp2_with (fail)
  refine (awake_any _).mono ?_
  rintro e w1 ⟨rfl, hO⟩
  have HO := Lib.hid hO
  clear hO
  go_wp2_with (fail)
  refine (HN.out _).mono ?_
  rintro e w2 ⟨b, g, rfl, hk, hb, hg, hO⟩
  have hb : w.heap.size ≤ b := by have := HO.out.size; omega
  have hg : w.heap.size ≤ g := by have := HO.out.size; omega
  have HO2 := Lib.hid (HO.out.trans hO)
  have HK2 := Lib.hid hk
  clear hk hO HO HN
  go_wp2_with (fail)
  go_loopw [10] (fun v wr => ∃ (k : Nat) (lr : List RC), k ≤ n ∧ v = .int .i64 k ∧ lr.length = n ∧ (∀ p, p < k → stOf lr p = 0) ∧ RgAt wr b g 0 k lr ∧ Only (fun _ => False) w wr) (fun v wr => (n - intOf v).toNat)
  case atStart => exact ⟨0, _, by omega, rfl, by simp, fun p hp => by omega, HK2.out, HO2.out⟩
  case round =>
    obtain ⟨k, lr, hk, rfl, hll, hst, hK, hO⟩ := hrel
    have HK := Lib.hid hK
    have HO := Lib.hid hO
    have HST := Lib.hid hst
    clear hK hO hst HK2 HO2
    by_cases hkn : k < n
    · have i1 : (k : Int) < n := by omega
      have HP := Lib.hid (put_any b g 0 k lr ⟨0, k, 0, 0, []⟩ none 0 0 wr HK.out (by omega) (by omega) (.inl rfl) (by simp))
      simp only [Sl.val, List.length_nil] at HP
      go_wp2_with (fail)
      refine HP.out.mono ?_
      rintro e w3 ⟨r, rfl, hk3, hrx, hrs, _, _, hO3⟩
      have HK3 := Lib.hid hk3
      have HO3 := Lib.hid (HO.out.trans' hO3 (S := fun _ => False) (fun i hi e => by omega))
      have hs3 : ∀ p, p < k + 1 → stOf (lr.set (k % lr.length) r) p = 0 := by
        intro p hp
        rw [stOf_set _ _ _ _ (Nat.mod_lt _ (by omega)), hll, Nat.mod_eq_of_lt hkn, Nat.mod_eq_of_lt (by omega)]
        split
        · exact hrs
        · exact HST.out p (by omega)
      have HS3 := Lib.hid hs3
      have hl3 : (lr.set (k % lr.length) r).length = n := by simp [hll]
      generalize lr.set (k % lr.length) r = l3 at *
      clear hk3 hO3 hs3 HP
      go_wp2
      go_roundw
      case rel => exact ⟨k + 1, l3, by omega, by simp, hl3, HS3.out, HK3.out, HO3.out⟩
      case measure => simp [intOf]; omega
    · obtain rfl : n = k := by omega
      have HSt : Hid (St lr n 0) := Lib.hid ⟨hll, fun p hp => by omega, fun p _ hp => HST.out p hp, by omega⟩
      have d0 : decide ((n : Int) < n) = false := by simp
      clear HST hkn
      go_wp2
      obtain ⟨wo, rfl⟩ : ∃ wo : World, wo = wr := ⟨_, rfl⟩
      go_loopw [11, 12] (fun v11 v12 wr => ∃ (k nx : Nat) (lr : List RC), k ≤ l.length ∧ v12 = .int .i64 k ∧ v11 = .int .i64 nx ∧ St lr n nx ∧ RgAt wr b g 0 n lr ∧ Only (fun _ => False) w wr) (fun v11 v12 wr => (l.length - intOf v12).toNat)
      case atStart => exact ⟨0, 0, lr, by omega, rfl, rfl, HSt.out, HK.out, HO.out⟩
      case round =>
        obtain ⟨k, nx, lr, hk, rfl, rfl, hS, hK, hO⟩ := hrel
        have HS := Lib.hid hS
        have HK := Lib.hid hK
        have HO := Lib.hid hO
        have hnx := hS.le
        clear hS hK hO HSt
        by_cases hkl : k < l.length ∧ k < 300
        · obtain ⟨hk1, hk2⟩ := hkl
          have i0 : (0 : Int) ≤ k := by omega
          have i1 : (k : Int) < l.length := by omega
          have i2 : (k : Int) < 300 := by omega
          have hne : iv l ≠ [] := by
            intro e
            have := iv_len l
            rw [e] at this; simp at this; omega
          obtain ⟨off, rfl, hlt, hget⟩ := (HR.out.only HO.out id).at hne
          have ck := hget k _ (iv_get l k hk1)
          have hr3 : ∀ (w3 : World), Only (fun _ => False) w w3 → w3.cell? ⟨g0, off + k, none⟩ = some (.int .i64 l[k]) := fun w3 hO => by
            have h1 := (HR.out.at hne)
            obtain ⟨off', he, hlt', hg'⟩ := h1
            injection he with he
            injection he with _ he _
            subst he
            exact (hO.cell (p := ⟨g0, off + k, none⟩) hlt' id).trans (hg' k _ (iv_get l k hk1))
          have HR3 := Lib.hid hr3
          clear hr3 hget
          generalize l[k] = z at *
          have HT := Lib.hid (take_any b g 0 n lr z wr HK.out)
          obtain ⟨h1, h2⟩ := HS.out.tk z.toNat
          rw [h1] at HT
          have H2 := Lib.hid h2
          obtain ⟨cc, hcc⟩ : ∃ cc, min z.toNat (n - nx) = cc := ⟨_, rfl⟩
          rw [hcc] at HT H2
          have hcc2 : cc ≤ n - nx := by omega
          have hmm : ((cc : Int) != if (n : Int) - nx < if z < 0 then 0 else z then (n : Int) - nx else if z < 0 then 0 else z) = false := by
            have e : (cc : Int) = if (n : Int) - nx < if z < 0 then 0 else z then (n : Int) - nx else if z < 0 then 0 else z := by
              split <;> split at * <;> omega
            rw [← e]; simp
          have HCC := Lib.hid hcc
          clear h1 h2 hcc
          go_wp2_with (fail)
          refine HT.out.mono ?_
          rintro e w3 ⟨A, c, gO, rfl, hrow, hgO, hk3, hO3⟩
          simp only [upTo_len] at hrow ⊢
          have HROW := Lib.hid hrow
          have HK3 := Lib.hid hk3
          have HO3 := Lib.hid (HO.out.trans' hO3 (S := fun _ => False) (fun i hi e => by omega))
          have ck3 := HR3.out _ HO3.out
          clear hrow hk3 hO3 HT ck
          go_wp2_with (fail)
          all_goals
            obtain ⟨wq, rfl⟩ : ∃ wq : World, wq = w3 := ⟨_, rfl⟩
            go_loopw [11, 14] (fun v11 v14 wr => ∃ j : Nat, j ≤ cc ∧ v14 = .int .i64 j ∧ v11 = .int .i64 ((nx + j : Nat) : Int) ∧ wr = wq) (fun v11 v14 wr => (cc - intOf v14).toNat)
            case atStart => exact ⟨0, by omega, rfl, rfl, rfl⟩
            case round =>
              obtain ⟨j, hj, rfl, rfl, rfl⟩ := hrel
              by_cases hjc : j < cc
              · have j0 : (0 : Int) ≤ j := by omega
                have j1 : (j : Int) < cc := by omega
                obtain ⟨offj, hA, hc⟩ := row_cell (m := j) HROW.out (by rw [upTo_len]; exact hjc)
                rw [upTo_get] at hc
                rw [hA]
                have tj : (((nx + j : Nat) : Int) != ((nx + j : Nat) : Int)) = false := by simp
                obtain ⟨y, hy⟩ : ∃ y : Int, ((nx + j : Nat) : Int) = y := ⟨_, rfl⟩
                have hy1 : 0 ≤ y ∧ y ≤ 512 := by omega
                rw [hy] at hc tj ⊢
                clear hA
                go_wp2
                go_roundw
                case rel => exact ⟨j + 1, by omega, by simp, by rw [← hy]; congr 1; try omega, trivial⟩
                case measure => simp [intOf]; omega
              · obtain rfl : j = cc := by omega
                go_wp2
                go_roundw
                case rel => exact ⟨k + 1, nx + j, _, by omega, by simp, rfl, H2.out, HK3.out, HO3.out⟩
                case measure => simp [intOf]; omega
        · have HWt := Lib.hid (waiting_any b g 0 n lr wr HK.out)
          rw [HS.out.waits] at HWt
          have hwn : ((n - nx : Nat) : Int) = (n : Int) - nx := by omega
          rw [hwn] at HWt
          have tw : (((n : Int) - nx) != ((n : Int) - nx)) = false := by simp
          have hs : k = l.length ∨ (k < l.length ∧ 300 ≤ k) := by omega
          have hd : (k = l.length → decide ((k : Int) < l.length) = false) ∧ (k < l.length ∧ 300 ≤ k → (k : Int) < l.length ∧ decide ((k : Int) < 300) = false) := by
            refine ⟨fun h => by simp; omega, fun h => ⟨by omega, by simp; omega⟩⟩
          clear hwn
          rcases hs with hs | hs
          · have d1 := hd.1 hs
            have d3 : decide (k < l.length) = false := by simp; omega
            clear hs hd hkl
            go_wp2_with (fail)
            refine HWt.out.mono ?_
            rintro e w3 ⟨rfl, hO3⟩
            have hk3 := HK.out.quiet hO3
            have HK3 := Lib.hid hk3
            have HO3 := Lib.hid (HO.out.trans hO3)
            clear hk3 hO3 HWt
            by_cases hbk : 0 ≤ back ∧ back < nx
            · obtain ⟨bk, rfl⟩ : ∃ bk : Nat, back = bk := ⟨back.toNat, by omega⟩
              have b1 : (bk : Int) < nx := by omega
              have b0 : (0 : Int) ≤ bk := by omega
              have HB := Lib.hid (back_ok b g 0 n lr bk w3 HK3.out (by omega) (HS.out.out bk (by omega)))
              clear hbk
              go_wp2_with (fail)
              refine HB.out.mono ?_
              rintro e w4 ⟨rfl, hk4, hO4⟩
              have HT := Lib.hid (take_any b g 0 n _ 1 w4 hk4)
              rw [show (1 : Int).toNat = 1 from rfl, HS.out.again bk (by omega)] at HT
              have HO4 := Lib.hid (HO3.out.trans' hO4 (S := fun _ => False) (fun i hi e => by omega))
              clear hk4 hO4 HB
              go_wp2_with (fail)
              refine HT.out.mono ?_
              rintro e w5 ⟨A, c, gO, rfl, hrow, _, _, hO5⟩
              obtain ⟨offj, rfl, hc⟩ := row_cell (m := 0) hrow (by simp)
              simp only [Nat.add_zero, List.getElem_cons_zero] at hc
              have HO5 := Lib.hid (HO4.out.trans' hO5 (S := fun _ => False) (fun i hi e => by omega))
              have tb : ((bk : Int) == (bk : Int)) = true := by simp
              clear hrow hO5 HT
              simp only [List.length_cons, List.length_nil, Nat.zero_add]
              go_wp2
              go_ret
              exact ⟨by simp, HO5.out.below (Nat.le_refl _) (fun i hi h => h)⟩
            · have hE : turnE lr 0 n back ≠ 0 := by
                unfold turnE
                by_cases hp : back < ((0 : Nat) : Int) ∨ ((n : Nat) : Int) ≤ back
                · rw [if_pos hp]; decide
                · rw [if_neg hp, HS.out.wait back.toNat (by omega) (by omega)]; decide
              have HB := Lib.hid (back_no b g 0 n lr back w3 HK3.out hE)
              have te : (turnE lr 0 n back != 0) = true := by simpa using hE
              generalize turnE lr 0 n back = E at *
              clear hE
              have hbb : back < 0 ∨ (0 ≤ back ∧ (nx : Int) ≤ back) := by omega
              clear hbk
              rcases hbb with h | ⟨h, h'⟩
              all_goals
                go_wp2_with (fail)
                refine HB.out.mono ?_
                rintro e w4 ⟨rfl, hO4⟩
                have HO4 := Lib.hid (HO3.out.trans hO4)
                clear hO4
                go_wp2
                go_ret
                exact ⟨by simp, HO4.out.below (Nat.le_refl _) (fun i hi h => h)⟩
          · obtain ⟨d1, d2⟩ := hd.2 hs
            have d3 : decide (k < 300) = false := by simp; omega
            have d4 : ¬ (k : Int) < 300 := by omega
            clear hs hd hkl
            go_wp2_with (fail)
            refine HWt.out.mono ?_
            rintro e w3 ⟨rfl, hO3⟩
            have hk3 := HK.out.quiet hO3
            have HK3 := Lib.hid hk3
            have HO3 := Lib.hid (HO.out.trans hO3)
            clear hk3 hO3 HWt
            by_cases hbk : 0 ≤ back ∧ back < nx
            · obtain ⟨bk, rfl⟩ : ∃ bk : Nat, back = bk := ⟨back.toNat, by omega⟩
              have b1 : (bk : Int) < nx := by omega
              have b0 : (0 : Int) ≤ bk := by omega
              have HB := Lib.hid (back_ok b g 0 n lr bk w3 HK3.out (by omega) (HS.out.out bk (by omega)))
              clear hbk
              go_wp2_with (fail)
              refine HB.out.mono ?_
              rintro e w4 ⟨rfl, hk4, hO4⟩
              have HT := Lib.hid (take_any b g 0 n _ 1 w4 hk4)
              rw [show (1 : Int).toNat = 1 from rfl, HS.out.again bk (by omega)] at HT
              have HO4 := Lib.hid (HO3.out.trans' hO4 (S := fun _ => False) (fun i hi e => by omega))
              clear hk4 hO4 HB
              go_wp2_with (fail)
              refine HT.out.mono ?_
              rintro e w5 ⟨A, c, gO, rfl, hrow, _, _, hO5⟩
              obtain ⟨offj, rfl, hc⟩ := row_cell (m := 0) hrow (by simp)
              simp only [Nat.add_zero, List.getElem_cons_zero] at hc
              have HO5 := Lib.hid (HO4.out.trans' hO5 (S := fun _ => False) (fun i hi e => by omega))
              have tb : ((bk : Int) == (bk : Int)) = true := by simp
              clear hrow hO5 HT
              simp only [List.length_cons, List.length_nil, Nat.zero_add]
              go_wp2
              go_ret
              exact ⟨by simp, HO5.out.below (Nat.le_refl _) (fun i hi h => h)⟩
            · have hE : turnE lr 0 n back ≠ 0 := by
                unfold turnE
                by_cases hp : back < ((0 : Nat) : Int) ∨ ((n : Nat) : Int) ≤ back
                · rw [if_pos hp]; decide
                · rw [if_neg hp, HS.out.wait back.toNat (by omega) (by omega)]; decide
              have HB := Lib.hid (back_no b g 0 n lr back w3 HK3.out hE)
              have te : (turnE lr 0 n back != 0) = true := by simpa using hE
              generalize turnE lr 0 n back = E at *
              clear hE
              have hbb : back < 0 ∨ (0 ≤ back ∧ (nx : Int) ≤ back) := by omega
              clear hbk
              rcases hbb with h | ⟨h, h'⟩
              all_goals
                go_wp2_with (fail)
                refine HB.out.mono ?_
                rintro e w4 ⟨rfl, hO4⟩
                have HO4 := Lib.hid (HO3.out.trans hO4)
                clear hO4
                go_wp2
                go_ret
                exact ⟨by simp, HO4.out.below (Nat.le_refl _) (fun i hi h => h)⟩
end Go.Proofs.Ytookghkfghdadaa
