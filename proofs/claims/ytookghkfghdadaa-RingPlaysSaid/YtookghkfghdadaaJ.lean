/- Ring: the law RingTakes: the plain part. -/
import Derived.Test.YtookghkfghdadaaI
namespace Go.Proofs.Ytookghkfghdadaa
open Go.RowKit

/-- Of n slots the first nx are out, the others wait. -/
structure St (l : List RC) (n nx : Nat) : Prop where
  len : l.length = n
  out : ∀ p, p < nx → stOf l p = 1
  wait : ∀ p, nx ≤ p → p < n → stOf l p = 0
  le : nx ≤ n

theorem St.take {l : List RC} {n nx : Nat} (h : St l n nx) (hn : nx < n) : St (setSt l nx 1) n (nx + 1) := by
  have hl : 0 < l.length := by have := h.len; omega
  have hst : ∀ p, p < n → stOf (setSt l nx 1) p = if p = nx then 1 else stOf l p := by
    intro p hp
    rw [stOf_setSt _ _ _ _ hl, h.len, Nat.mod_eq_of_lt hp, Nat.mod_eq_of_lt hn]
  refine ⟨by rw [setSt_len]; exact h.len, fun p hp => ?_, fun p hp hpn => ?_, by omega⟩
  · rw [hst p (by omega)]
    split
    · rfl
    · exact h.out p (by omega)
  · rw [hst p hpn, if_neg (by omega)]
    exact h.wait p (by omega) hpn

def upTo (nx c : Nat) : List Int := (List.range' nx c).map (fun i : Nat => (i : Int))
theorem upTo_len (nx c : Nat) : (upTo nx c).length = c := by simp [upTo]
theorem upTo_get (nx c k : Nat) (h : k < (upTo nx c).length) : (upTo nx c)[k] = ((nx + k : Nat) : Int) := by simp [upTo]
theorem upTo_succ (nx c : Nat) : upTo nx (c + 1) = (nx : Int) :: upTo (nx + 1) c := by simp [upTo, List.range'_succ]

theorem tk_from (d : Nat) : ∀ (l : List RC) (n nx m : Nat), n - nx = d → St l n nx → (tk l nx n m).2 = upTo nx (min m (n - nx)) ∧ St (tk l nx n m).1 n (nx + min m (n - nx)) := by
  induction d with
  | zero =>
    intro l n nx m hd h
    rw [tk_end _ _ _ _ (by omega)]
    have e : min m (n - nx) = 0 := by omega
    rw [e]
    exact ⟨rfl, h⟩
  | succ d ih =>
    intro l n nx m hd h
    by_cases hm : 0 < m
    · rw [tk_take _ _ _ _ (by omega) hm (h.wait nx (Nat.le_refl _) (by omega))]
      obtain ⟨h1, h2⟩ := ih (setSt l nx 1) n (nx + 1) (m - 1) (by omega) (h.take (by omega))
      have e : min m (n - nx) = min (m - 1) (n - (nx + 1)) + 1 := by omega
      rw [e, upTo_succ]
      refine ⟨by simp only; rw [h1], ?_⟩
      have e2 : nx + (min (m - 1) (n - (nx + 1)) + 1) = nx + 1 + min (m - 1) (n - (nx + 1)) := by omega
      rw [e2]
      exact h2
    · rw [tk_end _ _ _ _ (by omega)]
      have e : min m (n - nx) = 0 := by omega
      rw [e]
      exact ⟨rfl, h⟩

theorem tk_skips (d : Nat) : ∀ (l : List RC) (n m p q : Nat), q - p = d → p ≤ q → q ≤ n → 0 < m → (∀ i, p ≤ i → i < q → stOf l i ≠ 0) → tk l p n m = tk l q n m := by
  induction d with
  | zero => intro l n m p q hd hp hq hm h; rw [show p = q by omega]
  | succ d ih =>
    intro l n m p q hd hp hq hm h
    rw [tk_skip _ _ _ _ (by omega) hm (h p (Nat.le_refl _) (by omega))]
    exact ih l n m (p + 1) q (by omega) (by omega) hq hm (fun i hi hiq => h i (by omega) hiq)

theorem St.tk {l : List RC} {n nx : Nat} (h : St l n nx) (m : Nat) : (tk l 0 n m).2 = upTo nx (min m (n - nx)) ∧ St (Proofs.Ytookghkfghdadaa.tk l 0 n m).1 n (nx + min m (n - nx)) := by
  by_cases hm : 0 < m
  · rw [tk_skips nx l n m 0 nx (by omega) (by omega) h.le hm (fun i _ hi => by rw [h.out i hi]; decide)]
    exact tk_from (n - nx) l n nx m rfl h
  · rw [tk_end _ _ _ _ (by omega)]
    have e : min m (n - nx) = 0 := by omega
    rw [e]
    exact ⟨rfl, h⟩

theorem wait_from (d : Nat) : ∀ (l : List RC) (n nx p : Nat), n - p = d → St l n nx → waitN l p n = (n - max nx p) := by
  induction d with
  | zero => intro l n nx p hd h; rw [waitN_end _ _ _ (by omega)]; omega
  | succ d ih =>
    intro l n nx p hd h
    rw [waitN_go _ _ _ (by omega), ih l n nx (p + 1) (by omega) h]
    have := h.le
    by_cases hp : p < nx
    · rw [h.out p hp]; simp; omega
    · rw [h.wait p (by omega) (by omega)]; simp; omega
theorem St.waits {l : List RC} {n nx : Nat} (h : St l n nx) : waitN l 0 n = n - nx := by
  rw [wait_from n l n nx 0 (by omega) h]; omega

/-- One that came back is taken first. -/
theorem St.again {l : List RC} {n nx : Nat} (h : St l n nx) (b : Nat) (hb : b < nx) : (Proofs.Ytookghkfghdadaa.tk (setSt l b 0) 0 n 1).2 = [(b : Int)] := by
  have hl : 0 < l.length := by have := h.len; have := h.le; omega
  have hle := h.le
  have hst : ∀ p, p < n → stOf (setSt l b 0) p = if p = b then 0 else stOf l p := by
    intro p hp
    rw [stOf_setSt _ _ _ _ hl, h.len, Nat.mod_eq_of_lt hp, Nat.mod_eq_of_lt (by omega)]
  rw [tk_skips b _ n 1 0 b (by omega) (by omega) (by omega) (by omega) (fun i _ hi => by rw [hst i (by omega), if_neg (by omega), h.out i (by omega)]; decide)]
  rw [tk_take _ _ _ _ (by omega) (by omega) (by rw [hst b (by omega), if_pos rfl])]
  rw [tk_end _ _ _ _ (by omega)]
end Go.Proofs.Ytookghkfghdadaa
