/- Victim: two sorted runs become one: the plain part. -/
import Derived.Test.YtbcjpchjidgpeaaJ
namespace Go.Proofs.Ytbcjpchjidgpeaa
open Go.RowKit

/-- All numbers of the run ahead are less than those of the run behind. -/
def Xo (d : List Nat) (a m b : Nat) : Prop := ∀ p q, a ≤ p → p < m → m ≤ q → q < b → ix d p < ix d q
/-- A search between lo and hi. -/
structure BS (P : Nat → Prop) (lo hi s r : Nat) : Prop where
  rg : lo ≤ s ∧ s ≤ r ∧ r ≤ hi
  lo : s = lo ∨ P (s - 1)
  hi : r = hi ∨ ¬ P r
theorem BS.start {P : Nat → Prop} {lo hi : Nat} (h : lo ≤ hi) : BS P lo hi lo hi := ⟨by omega, .inl rfl, .inl rfl⟩
theorem BS.up {P : Nat → Prop} {lo hi s r h : Nat} (k : BS P lo hi s r) (h1 : s ≤ h ∧ h < r) (hP : P h) : BS P lo hi (h + 1) r := ⟨by have := k.rg; omega, .inr hP, k.hi⟩
theorem BS.down {P : Nat → Prop} {lo hi s r h : Nat} (k : BS P lo hi s r) (h1 : s ≤ h ∧ h < r) (hP : ¬ P h) : BS P lo hi s h := ⟨by have := k.rg; omega, k.lo, .inr hP⟩

theorem So.le {l : List Ln} {d : List Nat} {a b : Nat} (h : So l d a b) {p q : Nat} (h1 : a ≤ p) (h2 : p ≤ q) (h3 : q < b) {z : Nat} (hz : lt l (ix d q) z) : lt l (ix d p) z := by
  by_cases e : p = q
  · subst e; exact hz
  · exact lt_trans (h p q h1 (by omega) h3) hz
theorem So.ge {l : List Ln} {d : List Nat} {a b : Nat} (h : So l d a b) {p q : Nat} (h1 : a ≤ p) (h2 : p ≤ q) (h3 : q < b) {z : Nat} (hz : lt l z (ix d p)) : lt l z (ix d q) := by
  by_cases e : p = q
  · subst e; exact hz
  · exact lt_trans hz (h p q h1 (by omega) h3)

theorem rot_fr {d e : List Nat} {a m b : Nat} (h1 : a ≤ m) (h2 : m ≤ b) (hp : e.Perm d) (h : ∀ p, ix e p = rotF d a m b p) : Fr d e a b := by
  refine ⟨fun p hp => ?_, fun p p1 p2 => ?_, hp⟩
  · rw [h]; unfold rotF; rw [if_pos hp]
  · rw [h]; unfold rotF
    rw [if_neg (by omega)]
    split
    · exact ⟨_, by omega, by omega, rfl⟩
    · exact ⟨_, by omega, by omega, rfl⟩

/-- The one ahead is led to its place among those behind. -/
theorem merge_left {l : List Ln} {d e : List Nat} {a b i : Nat} (hs : So l d (a + 1) b) (hx : Xo d a (a + 1) b) (h1 : a + 1 ≤ i ∧ i ≤ b) (hlo : i = a + 1 ∨ lt l (ix d (i - 1)) (ix d a)) (hhi : i = b ∨ ¬ lt l (ix d i) (ix d a))
    (he : ∀ p, ix e p = rotF d a (a + 1) i p) : So l e a b := by
  intro p q p1 p2 p3
  rw [he, he]
  unfold rotF
  have hbig : ∀ q, i ≤ q → q < b → lt l (ix d a) (ix d q) := fun q q1 q2 => by
    rcases hhi with h | h
    · omega
    · have : lt l (ix d a) (ix d i) := lt_not (by have := hx a i (by omega) (by omega) (by omega) (by omega); omega) h
      exact hs.ge (by omega) q1 q2 this
  have hsm : ∀ p, a + 1 ≤ p → p < i → lt l (ix d p) (ix d a) := fun p q1 q2 => by
    rcases hlo with h | h
    · omega
    · exact hs.le q1 (by omega) (by omega) h
  by_cases c1 : p < a + (i - (a + 1))
  · rw [if_neg (by omega), if_pos c1]
    by_cases c2 : i ≤ q
    · rw [if_pos (by omega)]
      exact hs _ _ (by omega) (by omega) p3
    · rw [if_neg (by omega)]
      by_cases c3 : q < a + (i - (a + 1))
      · rw [if_pos c3]; exact hs _ _ (by omega) (by omega) (by omega)
      · rw [if_neg c3, show q - (i - (a + 1)) = a by omega]
        exact hsm _ (by omega) (by omega)
  · by_cases c2 : i ≤ p
    · rw [if_pos (by omega), if_pos (by omega)]
      exact hs _ _ (by omega) p2 p3
    · rw [if_neg (by omega), if_neg c1, show p - (i - (a + 1)) = a by omega, if_pos (by omega)]
      exact hbig q (by omega) p3
/-- The one behind is led to its place among those ahead. -/
theorem merge_right {l : List Ln} {d e : List Nat} {a m i : Nat} (hs : So l d a m) (hx : Xo d a m (m + 1)) (h1 : a ≤ i ∧ i ≤ m) (hlo : i = a ∨ ¬ lt l (ix d m) (ix d (i - 1))) (hhi : i = m ∨ lt l (ix d m) (ix d i))
    (he : ∀ p, ix e p = rotF d i m (m + 1) p) : So l e a (m + 1) := by
  intro p q p1 p2 p3
  rw [he, he]
  unfold rotF
  have hbig : ∀ q, i ≤ q → q < m → lt l (ix d m) (ix d q) := fun q q1 q2 => by
    rcases hhi with h | h
    · omega
    · exact hs.ge (by omega) q1 q2 h
  have hsm : ∀ p, a ≤ p → p < i → lt l (ix d p) (ix d m) := fun p q1 q2 => by
    rcases hlo with h | h
    · omega
    · have : lt l (ix d (i - 1)) (ix d m) := lt_not (by have := hx (i - 1) m (by omega) (by omega) (by omega) (by omega); omega) h
      exact hs.le q1 (by omega) (by omega) this
  by_cases c1 : p < i
  · rw [if_pos (.inl c1)]
    by_cases c2 : q < i
    · rw [if_pos (.inl c2)]
      exact hs _ _ (by omega) p2 (by omega)
    · rw [if_neg (by omega)]
      by_cases c3 : q < i + (m + 1 - m)
      · rw [if_pos c3, show q + (m - i) = m by omega]
        exact hsm p p1 c1
      · rw [if_neg c3]
        exact hs _ _ (by omega) (by omega) (by omega)
  · rw [if_neg (by omega)]
    by_cases c3 : p < i + (m + 1 - m)
    · rw [if_pos c3, show p + (m - i) = m by omega, if_neg (by omega), if_neg (by omega)]
      exact hbig _ (by omega) (by omega)
    · rw [if_neg c3, if_neg (by omega), if_neg (by omega)]
      exact hs _ _ (by omega) (by omega) (by omega)

/-- What the rotation leaves: two halves, each of two sorted runs, the first half less than the second. -/
structure Half (l : List Ln) (e : List Nat) (a s mid t b : Nat) : Prop where
  s1 : So l e a s
  s2 : So l e s mid
  s3 : So l e mid t
  s4 : So l e t b
  x1 : Xo e a s mid
  x2 : Xo e mid t b
  lh : ∀ p q, a ≤ p → p < mid → mid ≤ q → q < b → lt l (ix e p) (ix e q)
theorem rot_half {l : List Ln} {d e : List Nat} {a m b s t : Nat} (h1 : So l d a m) (h2 : So l d m b) (hx : Xo d a m b) (hs : a ≤ s ∧ s ≤ m) (ht : m ≤ t ∧ t ≤ b)
    (c1 : ∀ x y, s ≤ x → x < m → m ≤ y → y < t → lt l (ix d y) (ix d x)) (c2 : ∀ x y, a ≤ x → x < s → t ≤ y → y < b → lt l (ix d x) (ix d y)) (he : ∀ p, ix e p = rotF d s m t p) : Half l e a s (s + (t - m)) t b := by
  have eL1 : ∀ p, p < s → ix e p = ix d p := fun p h => by rw [he]; unfold rotF; rw [if_pos (.inl h)]
  have eR1 : ∀ p, s ≤ p → p < s + (t - m) → ix e p = ix d (p + (m - s)) := fun p h h' => by rw [he]; unfold rotF; rw [if_neg (by omega), if_pos h']
  have eL2 : ∀ p, s + (t - m) ≤ p → p < t → ix e p = ix d (p - (t - m)) := fun p h h' => by rw [he]; unfold rotF; rw [if_neg (by omega), if_neg (by omega)]
  have eR2 : ∀ p, t ≤ p → ix e p = ix d p := fun p h => by rw [he]; unfold rotF; rw [if_pos (.inr h)]
  refine ⟨fun p q p1 p2 p3 => ?_, fun p q p1 p2 p3 => ?_, fun p q p1 p2 p3 => ?_, fun p q p1 p2 p3 => ?_, fun p q p1 p2 p3 p4 => ?_, fun p q p1 p2 p3 p4 => ?_, fun p q p1 p2 p3 p4 => ?_⟩
  · rw [eL1 _ (by omega), eL1 _ (by omega)]; exact h1 _ _ p1 p2 (by omega)
  · rw [eR1 _ (by omega) (by omega), eR1 _ (by omega) (by omega)]; exact h2 _ _ (by omega) (by omega) (by omega)
  · rw [eL2 _ (by omega) (by omega), eL2 _ (by omega) (by omega)]; exact h1 _ _ (by omega) (by omega) (by omega)
  · rw [eR2 _ (by omega), eR2 _ (by omega)]; exact h2 _ _ (by omega) (by omega) (by omega)
  · rw [eL1 _ (by omega), eR1 _ (by omega) (by omega)]; exact hx _ _ (by omega) (by omega) (by omega) (by omega)
  · rw [eL2 _ (by omega) (by omega), eR2 _ (by omega)]; exact hx _ _ (by omega) (by omega) (by omega) (by omega)
  · by_cases k1 : p < s
    · rw [eL1 _ k1]
      by_cases k2 : q < t
      · rw [eL2 _ p3 k2]; exact h1 _ _ p1 (by omega) (by omega)
      · rw [eR2 _ (by omega)]; exact c2 _ _ p1 k1 (by omega) p4
    · rw [eR1 _ (by omega) p2]
      by_cases k2 : q < t
      · rw [eL2 _ p3 k2]; exact c1 _ _ (by omega) (by omega) (by omega) (by omega)
      · rw [eR2 _ (by omega)]; exact h2 _ _ (by omega) (by omega) p4
/-- Both halves sorted: all is. -/
theorem half_all {l : List Ln} {e f f' : List Nat} {a mid b : Nat} (hlh : ∀ p q, a ≤ p → p < mid → mid ≤ q → q < b → lt l (ix e p) (ix e q)) (hm : a ≤ mid ∧ mid ≤ b)
    (f1 : Fr e f a mid) (o1 : So l f a mid) (f2 : Fr f f' mid b) (o2 : So l f' mid b) : So l f' a b ∧ Fr e f' a b := by
  refine ⟨fun p q p1 p2 p3 => ?_, (f1.widen (Nat.le_refl _) hm.2).trans (f2.widen hm.1 (Nat.le_refl _))⟩
  by_cases k1 : q < mid
  · rw [f2.out _ (.inl (by omega)), f2.out _ (.inl (by omega))]; exact o1 _ _ p1 p2 k1
  · by_cases k2 : mid ≤ p
    · exact o2 _ _ k2 p2 p3
    · rw [f2.out _ (.inl (by omega))]
      obtain ⟨r, r1, r2, r3⟩ := f1.inn p p1 (by omega)
      obtain ⟨s, s1, s2, s3⟩ := f2.inn q (by omega) p3
      rw [r3, s3, f1.out _ (.inr (by omega))]
      exact hlh _ _ r1 r2 s1 s2
theorem Half.s12 {l : List Ln} {e : List Nat} {a s mid t b : Nat} (h : Half l e a s mid t b) (hs : s ≤ a ∨ mid ≤ s) : So l e a mid := by
  rcases hs with hs | hs
  · exact fun p q p1 p2 p3 => h.s2 p q (by omega) p2 p3
  · exact fun p q p1 p2 p3 => h.s1 p q p1 p2 (by omega)
theorem Half.s34 {l : List Ln} {e : List Nat} {a s mid t b : Nat} (h : Half l e a s mid t b) (hs : t ≤ mid ∨ b ≤ t) : So l e mid b := by
  rcases hs with hs | hs
  · exact fun p q p1 p2 p3 => h.s4 p q (by omega) p2 p3
  · exact fun p q p1 p2 p3 => h.s3 p q p1 p2 (by omega)

/-- What the search finds. -/
theorem found {l : List Ln} {d : List Nat} {a m b mid s0 r0 s : Nat} (h1 : So l d a m) (h2 : So l d m b) (hx : Xo d a m b) (hm : a < m ∧ m < b) (hmid : mid = (a + b) / 2)
    (h0 : (mid < m ∧ s0 = mid + m - b ∧ r0 = mid) ∨ (m ≤ mid ∧ s0 = a ∧ r0 = m))
    (hb : BS (fun c => ¬ lt l (ix d (mid + m - 1 - c)) (ix d c)) s0 r0 s s) :
    (a ≤ s ∧ s ≤ m ∧ s ≤ mid) ∧ (m ≤ mid + m - s ∧ mid + m - s ≤ b) ∧
      (∀ x y, s ≤ x → x < m → m ≤ y → y < mid + m - s → lt l (ix d y) (ix d x)) ∧ (∀ x y, a ≤ x → x < s → mid + m - s ≤ y → y < b → lt l (ix d x) (ix d y)) := by
  have hrg := hb.rg
  have hA : (a ≤ s ∧ s ≤ m ∧ s ≤ mid) ∧ (m ≤ mid + m - s ∧ mid + m - s ≤ b) := by omega
  refine ⟨hA.1, hA.2, fun x y x1 x2 y1 y2 => ?_, fun x y x1 x2 y1 y2 => ?_⟩
  · rcases hb.hi with h | h
    · omega
    · have h' : lt l (ix d (mid + m - 1 - s)) (ix d s) := by
        by_cases hc : lt l (ix d (mid + m - 1 - s)) (ix d s)
        · exact hc
        · exact absurd hc h
      exact h2.le (q := mid + m - 1 - s) y1 (by omega) (by omega) (h1.ge (p := s) hA.1.1 x1 x2 h')
  · rcases hb.lo with h | h
    · omega
    · have e1 : mid + m - 1 - (s - 1) = mid + m - s := by omega
      simp only [e1] at h
      have h' : lt l (ix d (s - 1)) (ix d (mid + m - s)) := lt_not (by have := hx (s - 1) (mid + m - s) (by omega) (by omega) (by omega) (by omega); omega) h
      exact h1.le (q := s - 1) x1 (by omega) (by omega) (h2.ge (p := mid + m - s) (by omega) y1 y2 h')
end Go.Proofs.Ytbcjpchjidgpeaa
