/- Ring: Same; RingFull: the plain part. -/
import Derived.Test.YtookghkfghdadaaV
import Derived.Test.YtookghkfghdadaaJ
import Derived.Test.YtookghkfghdadaaU
namespace Go.Proofs.Ytookghkfghdadaa
open Go.RowKit

set_option maxRecDepth 100000 in
set_option maxHeartbeats 4000000 in
/-- Two slots that differ, if at all, in their sectors. -/
theorem same_l (k l l' s f : Int) (data : List Int) (A A' : Option Addr) (c c' g g' : Nat) (w : World) (hr : Rd w g A (bv data)) (hr' : Rd w g' A' (bv data)) :
    Calls Try.prog 24 #[.agg #[.int .i64 k, .int .i64 l, .int .i64 s, .slice A data.length c, .int .i64 f], .agg #[.int .i64 k, .int .i64 l', .int .i64 s, .slice A' data.length c', .int .i64 f]] w
      fun e w' => e = .returned (.bool (l == l')) ∧ Only (fun _ => False) w w' := by
  have hO := (((Only.refl (fun _ => False) w).alloc (.cells #[.int .i64 k, .int .i64 l, .int .i64 s, .slice A data.length c, .int .i64 f] 37)).alloc (.cells #[.int .i64 k, .int .i64 l', .int .i64 s, .slice A' data.length c', .int .i64 f] 37))
  have v1 := conv_rd (hr.only hO id) c
  have v2 := conv_rd (hr'.only hO id) c'
  have HO := Lib.hid hO
  clear hr hr' hO
  have tk : (k == k) = true := by simp
  have ts : (s == s) = true := by simp
  have tf : (f == f) = true := by simp
  by_cases h : l = l'
  · subst h
    have tl : (l == l) = true := by simp
    go_enter Try.func24, Try.ntmps24
    go_wp2
    go_ret
    exact ⟨by simp, HO.out⟩
  · have tl : (l == l') = false := beq_false_of_ne h
    go_enter Try.func24, Try.ntmps24
    go_wp2
    go_ret
    exact ⟨by simp [tl], HO.out⟩

theorem slotOf_setSt (l : List RC) (p : Nat) (z : Int) (p' : Nat) (hl : 0 < l.length) : slotOf (setSt l p z) p' = slotOf l p' := by
  unfold setSt
  rw [slotOf_set _ _ _ _ (Nat.mod_lt _ hl)]
  split
  · rename_i h
    unfold slotOf
    rw [h]
  · rfl
theorem slotOf_tk (d : Nat) : ∀ (l : List RC) (p h m : Nat) (p' : Nat), h - p = d → 0 < l.length → slotOf (tk l p h m).1 p' = slotOf l p' := by
  induction d with
  | zero => intro l p h m p' hd _; rw [tk_end _ _ _ _ (by omega)]
  | succ d ih =>
    intro l p h m p' hd hl
    by_cases hm : p < h ∧ 0 < m
    · by_cases hs : stOf l p = 0
      · rw [tk_take _ _ _ _ hm.1 hm.2 hs]
        simp only
        rw [ih _ _ _ _ _ (by omega) (by rw [setSt_len]; exact hl), slotOf_setSt _ _ _ _ hl]
      · rw [tk_skip _ _ _ _ hm.1 hm.2 hs, ih _ _ _ _ _ (by omega) hl]
    · rw [tk_end _ _ _ _ hm]

/-- Of n slots those from i to d are done, the others are out; each is as it was put. -/
structure Dn (l : List RC) (n i d : Nat) : Prop where
  len : l.length = n
  st : ∀ p, p < n → stOf l p = if i ≤ p ∧ p < d then 2 else 1
  sl : ∀ p, p < n → slotOf l p = ⟨0, p, 0, 0, []⟩

theorem Dn.step {l : List RC} {n i d : Nat} (h : Dn l n (i + 1) d) (hi : i < d) (hd : d ≤ n) : Dn (setSt l i 2) n i d := by
  have hl : 0 < l.length := by have := h.len; omega
  refine ⟨by rw [setSt_len]; exact h.len, fun p hp => ?_, fun p hp => by rw [slotOf_setSt _ _ _ _ hl]; exact h.sl p hp⟩
  rw [stOf_setSt _ _ _ _ hl, h.len, Nat.mod_eq_of_lt hp, Nat.mod_eq_of_lt (by omega)]
  by_cases hpi : p = i
  · rw [if_pos hpi, if_pos (by omega)]
  · rw [if_neg hpi, h.st p hp]
    by_cases h2 : i + 1 ≤ p ∧ p < d
    · rw [if_pos h2, if_pos (by omega)]
    · rw [if_neg h2, if_neg (by omega)]

theorem setl_run (d : Nat) (l : List RC) (n : Nat) (hd : d ≤ n) (h2 : d < n → stOf l d ≠ 2) : ∀ (m p : Nat), d - p = m → p ≤ d → (∀ q, p ≤ q → q < d → stOf l q = 2) → setl l p n = d := by
  intro m
  induction m with
  | zero =>
    intro p hm hp _
    have : p = d := by omega
    subst this
    rw [setl_stop _ _ _ (fun e => h2 e.1 e.2)]
  | succ m ih =>
    intro p hm hp h
    rw [setl_go _ _ _ (by omega) (h p (Nat.le_refl _) (by omega))]
    exact ih (p + 1) (by omega) (by omega) (fun q hq hqd => h q (by omega) hqd)

theorem Dn.tail {l : List RC} {n i d : Nat} (h : Dn l n i d) (hi : i < d) (hd : d ≤ n) : setl l 0 n = if i = 0 then d else 0 := by
  by_cases h0 : i = 0
  · rw [if_pos h0]
    refine setl_run d l n hd (fun hdn => ?_) d 0 (by omega) (by omega) (fun q hq hqd => ?_)
    · rw [h.st d hdn, if_neg (by omega)]; decide
    · rw [h.st q (by omega), if_pos (by omega)]
  · rw [if_neg h0]
    exact setl_stop _ _ _ (fun e => by
      have := e.2
      rw [h.st 0 (by omega), if_neg (by omega)] at this
      exact absurd this (by decide))
end Go.Proofs.Ytookghkfghdadaa
