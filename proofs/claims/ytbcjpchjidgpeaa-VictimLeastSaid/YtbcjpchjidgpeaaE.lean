/- Victim, plain: which place a line takes; the first place is the picked line's. -/
import Derived.Test.YtbcjpchjidgpeaaD
namespace Go.Proofs.Ytbcjpchjidgpeaa
open Go.RowKit

/-- How many of the first k lines may be moved. -/
def cntTo (l : List Ln) : Nat → Nat
  | 0 => 0
  | k + 1 => match l[k]? with
    | some x => if x.may = true then cntTo l k + 1 else cntTo l k
    | none => cntTo l k

/-- How many of the first k lines are better than line x, number i. -/
def rkTo (l : List Ln) (x : Ln) (i : Nat) : Nat → Nat
  | 0 => 0
  | k + 1 => match l[k]? with
    | some y => if y.may = true ∧ bt y x k i = true then rkTo l x i k + 1 else rkTo l x i k
    | none => rkTo l x i k

/-- The order, as far as the first k lines have taken their places. -/
def outTo (l : List Ln) (n : Nat) : Nat → List Int
  | 0 => List.replicate n 0
  | k + 1 => match l[k]? with
    | some x => if x.may = true then (outTo l n k).set (rkTo l x k l.length) (k : Int) else outTo l n k
    | none => outTo l n k

theorem outTo_length (l : List Ln) (n k : Nat) : (outTo l n k).length = n := by
  induction k with
  | zero => simp [outTo]
  | succ k ih =>
    unfold outTo
    split
    · split
      · simpa using ih
      · exact ih
    · exact ih

theorem bt_irrefl (x : Ln) (i : Nat) : bt x x i i = false := by simp [bt]
theorem bt_trans {x y z : Ln} {a b c : Nat} (h1 : bt x y a b = true) (h2 : bt y z b c = true) : bt x z a c = true := by
  unfold bt at *
  repeat' split at h1
  all_goals repeat' split at h2
  all_goals simp at h1 h2
  all_goals repeat' split
  all_goals simp
  all_goals omega
theorem bt_total {x y : Ln} {a b : Nat} (h : a ≠ b) : bt x y a b = true ∨ bt y x b a = true := by
  unfold bt
  repeat' split
  all_goals simp
  all_goals omega

theorem rkTo_le (l : List Ln) (x : Ln) (i k : Nat) : rkTo l x i k ≤ cntTo l k := by
  induction k with
  | zero => simp [rkTo, cntTo]
  | succ k ih =>
    unfold rkTo cntTo
    split
    · rename_i y _
      by_cases hm : y.may = true
      · rw [if_pos hm]; split <;> omega
      · rw [if_neg hm, if_neg (fun h => hm h.1)]; exact ih
    · exact ih

theorem rkTo_lt (l : List Ln) (x : Ln) (i k : Nat) (hx : l[i]? = some x) (hm : x.may = true) (hk : i < k) : rkTo l x i k < cntTo l k := by
  induction k with
  | zero => omega
  | succ k ih =>
    by_cases e : i = k
    · subst e
      have := rkTo_le l x i i
      unfold rkTo cntTo
      rw [hx]
      simp only
      rw [if_pos hm, if_neg (by rw [bt_irrefl]; simp)]
      omega
    · have := ih (by omega)
      unfold rkTo cntTo
      split
      · rename_i y _
        by_cases hm' : y.may = true
        · rw [if_pos hm']; split <;> omega
        · rw [if_neg hm', if_neg (fun h => hm' h.1)]; exact this
      · exact this

theorem cntTo_mono (l : List Ln) (k : Nat) : cntTo l k ≤ cntTo l (k + 1) := by
  conv => rhs; unfold cntTo
  split
  · split <;> omega
  · omega

/-- What is known of the best of the first k. -/
def Best (l : List Ln) (k : Nat) : Prop :=
  (pk l k = -1 ∧ cntTo l k = 0) ∨
  ∃ (b : Nat) (y : Ln), pk l k = (b : Int) ∧ b < k ∧ l[b]? = some y ∧ y.may = true ∧ 0 < cntTo l k ∧ ∀ j x, j < k → l[j]? = some x → x.may = true → bt x y j b = false

theorem best_all (l : List Ln) (k : Nat) : Best l k := by
  induction k with
  | zero => exact .inl ⟨rfl, rfl⟩
  | succ k ih =>
    unfold Best
    cases hx : l[k]? with
    | none =>
      have hp : pk l (k + 1) = pk l k := by simp [pk, hx]
      have hc : cntTo l (k + 1) = cntTo l k := by simp [cntTo, hx]
      rw [hp, hc]
      rcases ih with h | ⟨b, y, h1, h2, h3, h4, h5, h6⟩
      · exact .inl h
      · refine .inr ⟨b, y, h1, by omega, h3, h4, h5, fun j x hj hjx hm => ?_⟩
        by_cases e : j = k
        · subst e; rw [hx] at hjx; cases hjx
        · exact h6 j x (by omega) hjx hm
    | some x =>
      by_cases hm : x.may = true
      · have hc : cntTo l (k + 1) = cntTo l k + 1 := by simp [cntTo, hx, hm]
        rw [hc]
        refine .inr ?_
        rcases ih with ⟨h1, h2⟩ | ⟨b, y, h1, h2, h3, h4, h5, h6⟩
        · have hp : pk l (k + 1) = (k : Int) := by simp [pk, hx, hm, h1]
          refine ⟨k, x, hp, by omega, hx, hm, by omega, fun j z hj hz hzm => ?_⟩
          by_cases e : j = k
          · subst e; rw [hx] at hz; injection hz with hz; subst hz; exact bt_irrefl _ _
          · exfalso
            have := rkTo_lt l z j k hz hzm (by omega)
            omega
        · by_cases hh : heldI x y < 0
          · have hp : pk l (k + 1) = (k : Int) := by
              simp only [pk, hx]
              rw [if_pos ⟨hm, .inr ⟨y, by rw [h1]; simpa using h3, hh⟩⟩]
            refine ⟨k, x, hp, by omega, hx, hm, by omega, fun j z hj hz hzm => ?_⟩
            by_cases e : j = k
            · subst e; rw [hx] at hz; injection hz with hz; subst hz; exact bt_irrefl _ _
            · have hj6 := h6 j z (by omega) hz hzm
              cases hb : bt z x j k with
              | false => rfl
              | true =>
                exfalso
                have hxy : bt x y k b = true := by
                  unfold heldI at hh
                  unfold bt
                  repeat' split at hh
                  all_goals repeat' split
                  all_goals simp
                  all_goals omega
                rw [bt_trans hb hxy] at hj6
                cases hj6
          · have hp : pk l (k + 1) = (b : Int) := by
              simp only [pk, hx]
              rw [if_neg, h1]
              rintro ⟨_, h | ⟨y', hy', hh'⟩⟩
              · omega
              · rw [h1] at hy'; simp [h3] at hy'; subst hy'; exact hh hh'
            refine ⟨b, y, hp, by omega, h3, h4, by omega, fun j z hj hz hzm => ?_⟩
            by_cases e : j = k
            · subst e
              rw [hx] at hz; injection hz with hz; subst hz
              unfold heldI at hh
              unfold bt
              repeat' split at hh
              all_goals repeat' split
              all_goals simp
              all_goals omega
            · exact h6 j z (by omega) hz hzm
      · have hm' : x.may = false := by simpa using hm
        have hp : pk l (k + 1) = pk l k := by simp [pk, hx, hm']
        have hc : cntTo l (k + 1) = cntTo l k := by simp [cntTo, hx, hm']
        rw [hp, hc]
        rcases ih with h | ⟨b, y, h1, h2, h3, h4, h5, h6⟩
        · exact .inl h
        · refine .inr ⟨b, y, h1, by omega, h3, h4, h5, fun j z hj hz hzm => ?_⟩
          by_cases e : j = k
          · subst e; rw [hx] at hz; injection hz with hz; subst hz; exact absurd hzm hm
          · exact h6 j z (by omega) hz hzm

theorem rk_zero (l : List Ln) (y : Ln) (b k : Nat) (h : ∀ j x, j < k → l[j]? = some x → x.may = true → bt x y j b = false) : rkTo l y b k = 0 := by
  induction k with
  | zero => rfl
  | succ k ih =>
    unfold rkTo
    split
    · rename_i x hx
      rw [if_neg (fun hh => by have := h k x (by omega) hx hh.1; rw [this] at hh; cases hh.2)]
      exact ih (fun j x hj => h j x (by omega))
    · exact ih (fun j x hj => h j x (by omega))

theorem rk_pos (l : List Ln) (x y : Ln) (i b k : Nat) (hb : b < k) (hy : l[b]? = some y) (hm : y.may = true) (hbt : bt y x b i = true) : 0 < rkTo l x i k := by
  induction k with
  | zero => omega
  | succ k ih =>
    unfold rkTo
    by_cases e : b = k
    · subst e
      rw [hy]
      simp only
      rw [if_pos ⟨hm, hbt⟩]
      omega
    · have := ih (by omega)
      split
      · split <;> omega
      · exact this

/-- The first place of the order is the picked line's. -/
theorem first_is_pick (l : List Ln) (h : 0 < cntTo l l.length) : ∃ b : Nat, pk l l.length = (b : Int) ∧ (outTo l (cntTo l l.length) l.length)[0]? = some (b : Int) := by
  rcases best_all l l.length with ⟨_, h0⟩ | ⟨b, y, h1, h2, h3, h4, h5, h6⟩
  · omega
  · refine ⟨b, h1, ?_⟩
    have key : ∀ k, k ≤ l.length → (outTo l (cntTo l l.length) k)[0]? = some (if b < k then (b : Int) else 0) := by
      intro k
      induction k with
      | zero => intro _; simp [outTo, List.getElem?_replicate, h]
      | succ k ih =>
        intro hk
        have ih := ih (by omega)
        have hx : l[k]? = some l[k] := List.getElem?_eq_getElem (by omega)
        by_cases e : k = b
        · subst e
          rw [h3] at hx
          injection hx with hx
          have hr := rk_zero l y k l.length h6
          simp only [outTo, h3]
          rw [if_pos h4, hr, if_pos (by omega)]
          rw [List.getElem?_set_self (by rw [outTo_length]; exact h)]
        · by_cases hm : (l[k]).may = true
          · have hn : bt l[k] y k b = false := h6 k _ (by omega) hx hm
            have hbk : bt y l[k] b k = true := by
              rcases bt_total (x := y) (y := l[k]) (a := b) (b := k) (fun h => e h.symm) with hh | hh
              · exact hh
              · rw [hn] at hh; cases hh
            have hr := rk_pos l l[k] y k b l.length (by omega) h3 h4 hbk
            simp only [outTo, hx]
            rw [if_pos hm, List.getElem?_set_ne (by omega), ih]
            by_cases hb : b < k
            · rw [if_pos hb, if_pos (by omega)]
            · rw [if_neg hb, if_neg (by omega)]
          · simp only [outTo, hx]
            rw [if_neg hm, ih]
            by_cases hb : b < k
            · rw [if_pos hb, if_pos (by omega)]
            · rw [if_neg hb, if_neg (by omega)]
    rw [key l.length (Nat.le_refl _), if_pos h2]

theorem none_is_none (l : List Ln) (h : cntTo l l.length = 0) : pk l l.length = -1 := by
  rcases best_all l l.length with ⟨h0, _⟩ | ⟨b, y, h1, h2, h3, h4, h5, h6⟩
  · exact h0
  · omega

end Go.Proofs.Ytbcjpchjidgpeaa
