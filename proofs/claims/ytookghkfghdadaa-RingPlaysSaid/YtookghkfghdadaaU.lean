/- Ring: the law RingFinds, walked. -/
import Derived.Test.YtookghkfghdadaaQ
import Derived.Test.YtookghkfghdadaaI
namespace Go.Proofs.Ytookghkfghdadaa
open Go.RowKit

theorem slotOf_set (l : List RC) (q : Nat) (r : RC) (p : Nat) (hq : q < l.length) : slotOf (l.set q r) p = if p % l.length = q then r.x else slotOf l p := by
  unfold slotOf
  rw [List.length_set]
  by_cases h : p % l.length = q
  · rw [if_pos h, h]; simp [List.getD, hq]
  · rw [if_neg h]; simp only [List.getD]; rw [List.getElem?_set_ne (fun e => h e.symm)]

def okL (l : List Int) (lba : Int) (p : Nat) : Bool := l.getD p 0 == lba && decide (p % 3 ≠ 2)
def wantV (o : Option Nat) : Int := match o with
  | some p => p
  | none => 0
theorem fd_succ (ok : Nat → Bool) (k : Nat) : fd ok 0 (k + 1) = if ok k = true then some k else fd ok 0 k := by simp only [fd]; rw [if_pos (by omega)]

set_option maxRecDepth 100000 in
set_option maxHeartbeats 8000000 in
theorem ringFinds_walk (a : Int) (l : List Int) (g0 c0 : Nat) (A0 : Option Addr) (lba : Int) (w : World) (hr : Rd w g0 A0 (iv l)) (hlen : l.length ≤ 9223372036854775807) :
    Calls Try.prog 7 #[.int .i64 a, .slice A0 l.length c0, .int .i64 lba] w fun e w' => e = .returned (.bool true) ∧ Below w.heap.size w w' := by
  by_cases hbad : a < 1 ∨ 256 < a
  · have HN := Lib.hid (new_bad a hbad)
    rcases hbad with hbad | hbad
    all_goals
      go_enter Try.func7, Try.ntmps7
      go_wp2_with (fail)
      refine (awake_any _).mono ?_
      rintro e w1 ⟨rfl, hO⟩
      have HO := Lib.hid hO
      clear hO
      go_wp2_with (fail)
      refine (HN.out _).mono ?_
      rintro e w2 ⟨rfl, rfl⟩
      go_wp2
      go_ret
      exact ⟨by simp; try omega, HO.out.below (Nat.le_refl _) (fun i hi h => h)⟩
  obtain ⟨n, rfl⟩ : ∃ m : Nat, a = m := ⟨a.toNat, by omega⟩
  have n1 : 1 ≤ n := by omega
  have n2 : n ≤ 256 := by omega
  clear hbad
  have HR := Lib.hid hr
  have HN := Lib.hid (new_any n n1 n2)
  clear hr
  go_enter Try.func7, Try.ntmps7
  go_wp2_with (fail)
  refine (awake_any _).mono ?_
  rintro e w1 ⟨rfl, hO⟩
  have HO := Lib.hid hO
  clear hO
  go_wp2_with (fail)
  refine (HN.out _).mono ?_
  rintro e w2 ⟨b, g, rfl, hk, hb, hg, hO⟩
  have hb : w.heap.size ≤ b := by have := HO.out.size; omega
  have hg : w.heap.size ≤ g := by have := HO.out.size; omega
  have HO2 := Lib.hid (HO.out.trans hO)
  have HK2 := Lib.hid hk
  clear hk hO HO HN
  go_wp2_with (fail)
  go_loopw [10, 11, 12] (fun v10 v11 v12 wr => ∃ (k : Nat) (lr : List RC), k ≤ l.length ∧ k ≤ n ∧ v12 = .int .i64 k ∧ v10 = .int .i64 (wantV (fd (okL l lba) 0 k)) ∧ v11 = .bool (fd (okL l lba) 0 k).isSome ∧ lr.length = n ∧
      (∀ p, p < k → okAt lr lba p = okL l lba p) ∧ RgAt wr b g 0 k lr ∧ Only (fun _ => False) w wr) (fun v10 v11 v12 wr => (n - intOf v12).toNat)
  case atStart => exact ⟨0, _, by omega, by omega, rfl, rfl, rfl, by simp, fun p hp => by omega, HK2.out, HO2.out⟩
  case round =>
    obtain ⟨k, lr, hk, hkn', rfl, rfl, rfl, hll, hst, hK, hO⟩ := hrel
    have HK := Lib.hid hK
    have HO := Lib.hid hO
    have HST := Lib.hid hst
    clear hK hO hst HK2 HO2
    by_cases hkk : k < l.length ∧ k < n
    · obtain ⟨hkl, hkn⟩ := hkk
      have i0 : (0 : Int) ≤ k := by omega
      have i1 : (k : Int) < l.length := by omega
      have i2 : (k : Int) < n := by omega
      have hne : iv l ≠ [] := by
        intro e
        have := iv_len l
        rw [e] at this; simp at this; omega
      obtain ⟨off, rfl, hlt, hget⟩ := (HR.out.only HO.out id).at hne
      have ck := hget k _ (iv_get l k hkl)
      have hr3 : ∀ (w3 : World), Only (fun _ => False) w w3 → w3.cell? ⟨g0, off + k, none⟩ = some (.int .i64 l[k]) := fun w3 hO => by
        have h1 := (HR.out.at hne)
        obtain ⟨off', he, hlt', hg'⟩ := h1
        injection he with he
        injection he with _ he _
        subst he
        exact (hO.cell (p := ⟨g0, off + k, none⟩) hlt' id).trans (hg' k _ (iv_get l k hkl))
      have HR3 := Lib.hid hr3
      have hokk : okL l lba k = (l[k] == lba && decide (k % 3 ≠ 2)) := by simp [okL, List.getD, hkl]
      have hfs := fd_succ (okL l lba) k
      rw [hokk] at hfs
      have HFS := Lib.hid hfs
      have HOK := Lib.hid hokk
      clear hr3 hget hfs hokk
      generalize l[k] = z at *
      obtain ⟨o, ho⟩ : ∃ o, fd (okL l lba) 0 k = o := ⟨_, rfl⟩
      rw [ho] at HFS ⊢
      clear ho
      by_cases h3 : k % 3 = 2
      · have h3' : (((k : Int) % 3) == 2) = true := by first | (simp; done) | (simp; omega)
        have HP := Lib.hid (put_any b g 0 k lr ⟨0, z, 0, k, []⟩ none 0 0 wr HK.out (by omega) (by omega) (.inl rfl) (by simp))
        simp only [Sl.val, List.length_nil] at HP
        have kk : ¬ (k : Int) < 0 := by omega
        have kk2 : decide ((k : Int) < 0) = false := decide_eq_false (by omega)
        go_wp2_with (fail)
        refine HP.out.mono ?_
        rintro e w3 ⟨r, rfl, hk3, hrx, hrs, _, _, hO3⟩
        have HK3 := Lib.hid hk3
        have HO3 := Lib.hid (HO.out.trans' hO3 (S := fun _ => False) (fun i hi e => by omega))
        have hs3 : ∀ p, p < k + 1 → okAt (lr.set (k % lr.length) r) lba p = okL l lba p := by
          intro p hp
          unfold okAt
          rw [slotOf_set _ _ _ _ (Nat.mod_lt _ (by omega)), hll, Nat.mod_eq_of_lt hkn, Nat.mod_eq_of_lt (by omega)]
          by_cases hpk : p = k
          · subst hpk
            rw [if_pos rfl, hrx, HOK.out]
            simp [h3]; try omega
          · rw [if_neg hpk]
            exact HST.out p (by omega)
        have HS3 := Lib.hid hs3
        have hl3 : (lr.set (k % lr.length) r).length = n := by simp [hll]
        generalize lr.set (k % lr.length) r = l3 at *
        have ck3 := HR3.out _ HO3.out
        clear hk3 hO3 hs3 HP ck hrx
        by_cases hzl : z = lba
        · subst hzl
          have hr : fd (okL l z) 0 (k + 1) = o := by rw [HFS.out]; simp [h3]
          have HRR := Lib.hid hr
          clear hr
          go_wp2
          go_roundw
          case rel => exact ⟨k + 1, l3, by omega, by omega, by simp, by rw [HRR.out], by rw [HRR.out], hl3, HS3.out, HK3.out, HO3.out⟩
          case measure => simp [intOf]; omega
        · have hz : (z == lba) = false := beq_false_of_ne hzl
          have hr : fd (okL l lba) 0 (k + 1) = o := by rw [HFS.out]; simp [hzl]
          have HRR := Lib.hid hr
          clear hr hzl
          go_wp2
          go_roundw
          case rel => exact ⟨k + 1, l3, by omega, by omega, by simp, by rw [HRR.out], by rw [HRR.out], hl3, HS3.out, HK3.out, HO3.out⟩
          case measure => simp [intOf]; omega
      · have h3' : (((k : Int) % 3) == 2) = false := by first | (simp; done) | (simp; omega)
        have HP := Lib.hid (put_any b g 0 k lr ⟨0, z, 0, -1, []⟩ none 0 0 wr HK.out (by omega) (by omega) (.inl rfl) (by simp))
        simp only [Sl.val, List.length_nil] at HP
        skip
        go_wp2_with (fail)
        refine HP.out.mono ?_
        rintro e w3 ⟨r, rfl, hk3, hrx, hrs, _, _, hO3⟩
        have HK3 := Lib.hid hk3
        have HO3 := Lib.hid (HO.out.trans' hO3 (S := fun _ => False) (fun i hi e => by omega))
        have hs3 : ∀ p, p < k + 1 → okAt (lr.set (k % lr.length) r) lba p = okL l lba p := by
          intro p hp
          unfold okAt
          rw [slotOf_set _ _ _ _ (Nat.mod_lt _ (by omega)), hll, Nat.mod_eq_of_lt hkn, Nat.mod_eq_of_lt (by omega)]
          by_cases hpk : p = k
          · subst hpk
            rw [if_pos rfl, hrx, HOK.out]
            simp [h3]; try omega
          · rw [if_neg hpk]
            exact HST.out p (by omega)
        have HS3 := Lib.hid hs3
        have hl3 : (lr.set (k % lr.length) r).length = n := by simp [hll]
        generalize lr.set (k % lr.length) r = l3 at *
        have ck3 := HR3.out _ HO3.out
        clear hk3 hO3 hs3 HP ck hrx
        by_cases hzl : z = lba
        · subst hzl
          have hr : fd (okL l z) 0 (k + 1) = some k := by rw [HFS.out]; simp [h3]
          have HRR := Lib.hid hr
          clear hr
          go_wp2
          go_roundw
          case rel => exact ⟨k + 1, l3, by omega, by omega, by simp, by rw [HRR.out]; rfl, by rw [HRR.out]; rfl, hl3, HS3.out, HK3.out, HO3.out⟩
          case measure => simp [intOf]; omega
        · have hz : (z == lba) = false := beq_false_of_ne hzl
          have hr : fd (okL l lba) 0 (k + 1) = o := by rw [HFS.out]; simp [hzl]
          have HRR := Lib.hid hr
          clear hr hzl
          go_wp2
          go_roundw
          case rel => exact ⟨k + 1, l3, by omega, by omega, by simp, by rw [HRR.out], by rw [HRR.out], hl3, HS3.out, HK3.out, HO3.out⟩
          case measure => simp [intOf]; omega
    · have HFd := Lib.hid (find_any b g 0 k lr lba wr HK.out)
      have hcg : fd (okAt lr lba) 0 k = fd (okL l lba) 0 k := fd_congr HST.out
      rw [hcg] at HFd
      have hs : k = l.length ∨ (k < l.length ∧ n ≤ k) := by omega
      have hd : (k = l.length → decide ((k : Int) < l.length) = false ∧ decide (k < l.length) = false) ∧ (k < l.length ∧ n ≤ k → (k : Int) < l.length ∧ decide ((k : Int) < n) = false ∧ decide (k < n) = false) := by
        refine ⟨fun h => ⟨by simp; omega, by simp; omega⟩, fun h => ⟨by omega, by simp; omega, by simp; omega⟩⟩
      clear hcg hkk
      generalize fd (okL l lba) 0 k = o at *
      have go : ∀ (w3 : World), Only (fun _ => False) w w3 → Below w.heap.size w w3 := fun w3 h => h.below (Nat.le_refl _) (fun i hi h => h)
      have GO := Lib.hid go
      clear go
      rcases hs with hs | hs
      · obtain ⟨d1, d2⟩ := hd.1 hs
        clear hs hd
        cases o with
        | none =>
          simp only [foundV, wantV, Option.isSome_none] at HFd ⊢
          go_wp2_with (fail)
          refine HFd.out.mono ?_
          rintro e w3 ⟨rfl, hO3⟩
          have HO3 := Lib.hid (HO.out.trans hO3)
          clear hO3
          go_wp2
          go_ret
          exact ⟨by simp, GO.out _ HO3.out⟩
        | some p =>
          simp only [foundV, wantV, Option.isSome_some] at HFd ⊢
          have tp : ((p : Int) == (p : Int)) = true := by simp
          go_wp2_with (fail)
          refine HFd.out.mono ?_
          rintro e w3 ⟨rfl, hO3⟩
          have HO3 := Lib.hid (HO.out.trans hO3)
          clear hO3
          go_wp2
          go_ret
          exact ⟨by simp, GO.out _ HO3.out⟩
      · obtain ⟨d1, d2, d3⟩ := hd.2 hs
        clear hs hd
        cases o with
        | none =>
          simp only [foundV, wantV, Option.isSome_none] at HFd ⊢
          go_wp2_with (fail)
          refine HFd.out.mono ?_
          rintro e w3 ⟨rfl, hO3⟩
          have HO3 := Lib.hid (HO.out.trans hO3)
          clear hO3
          go_wp2
          go_ret
          exact ⟨by simp, GO.out _ HO3.out⟩
        | some p =>
          simp only [foundV, wantV, Option.isSome_some] at HFd ⊢
          have tp : ((p : Int) == (p : Int)) = true := by simp
          go_wp2_with (fail)
          refine HFd.out.mono ?_
          rintro e w3 ⟨rfl, hO3⟩
          have HO3 := Lib.hid (HO.out.trans hO3)
          clear hO3
          go_wp2
          go_ret
          exact ⟨by simp, GO.out _ HO3.out⟩
end Go.Proofs.Ytookghkfghdadaa
