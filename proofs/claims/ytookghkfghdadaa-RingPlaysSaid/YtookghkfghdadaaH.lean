/- Ring: awake; RingNews, walked. -/
import Derived.Test.YtookghkfghdadaaG
namespace Go.Proofs.Ytookghkfghdadaa
open Go.RowKit

theorem stOf_set (l : List RC) (q : Nat) (r : RC) (p : Nat) (hq : q < l.length) : stOf (l.set q r) p = if p % l.length = q then r.st else stOf l p := by
  unfold stOf
  rw [List.length_set]
  by_cases h : p % l.length = q
  · rw [if_pos h, h]; simp [List.getD, hq]
  · rw [if_neg h]; simp only [List.getD]; rw [List.getElem?_set_ne (fun e => h e.symm)]
theorem stOf_setSt (l : List RC) (p : Nat) (z : Int) (p' : Nat) (hl : 0 < l.length) : stOf (setSt l p z) p' = if p' % l.length = p % l.length then z else stOf l p' := by
  unfold setSt
  rw [stOf_set _ _ _ _ (Nat.mod_lt _ hl)]
theorem stOf_zero (n p : Nat) : stOf (List.replicate n RC.zero) p = 0 := by
  unfold stOf
  simp only [List.getD, List.length_replicate]
  by_cases h : p % n < n
  · simp [List.getElem?_replicate, h, RC.zero]
  · rw [List.getElem?_eq_none (by simp; omega)]; rfl

/-- Nothing lies where a nil slice leads. -/
theorem rd_nil (w : World) (g : Nat) : Rd w g none (bv []) := .inl rfl

set_option maxRecDepth 100000 in
set_option maxHeartbeats 4000000 in
theorem awake_any (w : World) : Calls Try.prog 10 #[] w fun e w' => e = .returned (.bool true) ∧ Only (fun _ => False) w w' := by
  have HN := Lib.hid (fun w => (new_any 1 (by omega) (by omega) w : Calls Try.prog 11 #[.int .i64 1] w _))
  go_enter Try.func10, Try.ntmps10
  go_wp2_with (fail)
  refine (HN.out w).mono ?_
  rintro e w1 ⟨b, g, rfl, hk, hb, hg, hO⟩
  have HP := Lib.hid (put_any b g 0 0 _ ⟨0, 7, 0, 0, []⟩ none 0 0 w1 hk (by simp) (by omega) (rd_nil _ _) (by simp))
  simp only [Sl.val, List.length_nil] at HP
  have HO := Lib.hid hO
  clear hO hk
  go_wp2_with (fail)
  refine HP.out.mono ?_
  rintro e w2 ⟨r, rfl, hk, hrx, hrs, _, _, hO⟩
  have hst : stOf ((List.replicate 1 RC.zero).set (0 % (List.replicate 1 RC.zero).length) r) 0 = 0 := by
    rw [stOf_set _ _ _ _ (by simp)]; simp [hrs]
  have hlen : ((List.replicate 1 RC.zero).set (0 % (List.replicate 1 RC.zero).length) r).length = 1 := by simp
  generalize (List.replicate 1 RC.zero).set (0 % (List.replicate 1 RC.zero).length) r = l1 at *
  have htk : tk l1 0 1 1 = (setSt l1 0 1, [0]) := by
    rw [tk_take l1 0 1 1 (by omega) (by omega) hst, tk_end _ _ _ _ (by omega)]; rfl
  have HT := Lib.hid (take_any b g 0 1 l1 1 w2 hk)
  rw [show (1 : Int).toNat = 1 from rfl, htk] at HT
  have HO2 := Lib.hid (HO.out.trans' hO (S := fun _ => False) (fun i hi e => by omega))
  have HL := Lib.hid hlen
  clear hk hO HP hst htk hlen
  go_wp2_with (fail)
  refine HT.out.mono ?_
  rintro e w3 ⟨A, c, gO, rfl, _, _, hk, hO⟩
  have hs1 : stOf (setSt l1 0 1) 0 = 1 := by rw [stOf_setSt _ _ _ _ (by rw [HL.out]; omega)]; simp
  have HD := Lib.hid (done_ok b g 0 1 _ 0 w3 hk (by omega) hs1)
  have hse : setl (setSt (setSt l1 0 1) 0 2) 0 1 = 1 := by
    rw [setl_go _ _ _ (by omega) (by rw [stOf_setSt _ _ _ _ (by rw [setSt_len, HL.out]; omega)]; simp), setl_stop _ _ _ (by omega)]
  rw [hse] at HD
  have HO3 := Lib.hid (HO2.out.trans' hO (S := fun _ => False) (fun i hi e => by omega))
  clear hk hO HT hse hs1
  simp only [List.length_cons, List.length_nil, Nat.zero_add]
  go_wp2_with (fail)
  refine HD.out.mono ?_
  rintro e w4 ⟨rfl, hk, hO⟩
  have HTl := Lib.hid (tail_any b g 1 1 _ w4 hk)
  have HHd := Lib.hid (head_any b g 1 1 _ w4 hk)
  have HO4 := Lib.hid (HO3.out.trans' hO (S := fun _ => False) (fun i hi e => by omega))
  clear hk hO HD
  go_wp2_with (fail)
  refine HTl.out.mono ?_
  rintro e w5 ⟨rfl, rfl⟩
  go_wp2_with (fail)
  refine HHd.out.mono ?_
  rintro e w6 ⟨rfl, rfl⟩
  go_wp2
  go_ret
  exact ⟨by simp, HO4.out⟩
end Go.Proofs.Ytookghkfghdadaa
