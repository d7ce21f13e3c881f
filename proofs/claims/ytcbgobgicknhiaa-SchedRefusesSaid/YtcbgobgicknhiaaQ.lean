/- Sched: who is ready each time does not wait for long: the plain law. -/
import Derived.Test.YtcbgobgicknhiaaG
namespace Go.Proofs.Ytcbgobgicknhiaa

/-- How many of the first n. -/
def cg (f : Nat → Bool) : Nat → Nat
  | 0 => 0
  | n + 1 => cg f n + if f n = true then 1 else 0
theorem cg_le {f g : Nat → Bool} : ∀ {n : Nat}, (∀ i, i < n → f i = true → g i = true) → cg f n ≤ cg g n
  | 0, _ => Nat.le_refl _
  | n + 1, h => by
    have ih := cg_le (f := f) (g := g) (n := n) (fun i hi => h i (by omega))
    have hn := h n (by omega)
    simp only [cg]
    by_cases hf : f n = true
    · rw [if_pos hf, if_pos (hn hf)]; omega
    · rw [if_neg hf]; omega
theorem cg_lt {f g : Nat → Bool} {i0 : Nat} (hg : g i0 = true) (hf : f i0 = false) : ∀ {n : Nat}, i0 < n → (∀ i, i < n → f i = true → g i = true) → cg f n + 1 ≤ cg g n
  | 0, h0, _ => by omega
  | n + 1, h0, h => by
    simp only [cg]
    by_cases hi : i0 = n
    · subst hi
      have ih := cg_le (f := f) (g := g) (n := i0) (fun i hi => h i (by omega))
      rw [if_pos hg, if_neg (by rw [hf]; simp)]; omega
    · have ih := cg_lt hg hf (n := n) (by omega) (fun i hi => h i (by omega))
      have hn := h n (by omega)
      by_cases hf' : f n = true
      · rw [if_pos hf', if_pos (hn hf')]; omega
      · rw [if_neg hf']; omega
theorem cg_zero {f : Nat → Bool} : ∀ {n : Nat}, (∀ i, i < n → f i = false) → cg f n = 0
  | 0, _ => rfl
  | n + 1, h => by simp only [cg]; rw [cg_zero (fun i hi => h i (by omega)), if_neg (by rw [h n (by omega)]; simp)]
theorem cg_bd (f : Nat → Bool) : ∀ n : Nat, cg f n ≤ n
  | 0 => Nat.le_refl _
  | n + 1 => by have := cg_bd f n; simp only [cg]; split <;> omega
theorem cg_pos {f : Nat → Bool} {n i0 : Nat} (h : i0 < n) (hf : f i0 = true) : 1 ≤ cg f n := by
  have := cg_lt (f := fun _ => false) (g := f) hf rfl h (fun i _ h => by cases h)
  omega

def late (ws : List Int) (t : Int) (i : Nat) : Bool := decide (t ≤ ws.getD i 0)
/-- Few have waited long. -/
def Fair (ws : List Int) (p : Int) (n : Nat) : Prop := ∀ j : Nat, cg (late ws (p + j)) n = 0 ∨ cg (late ws (p + j)) n + j + 1 ≤ n

theorem fair_zero (n m : Nat) {p : Int} (hp : 1 ≤ p) : Fair (List.replicate m 0) p n := by
  intro j
  left
  apply cg_zero
  intro i _
  have : (List.replicate m (0 : Int)).getD i 0 = 0 := by
    simp only [List.getD, List.getElem?_replicate]; split <;> rfl
  unfold late
  rw [this]
  exact decide_eq_false (by omega)

theorem plTo_max {ws : List Int} {rd : List Bool} {p : Int} {i : Nat} (hr : rd.getD i false = true) (hp : p ≤ ws.getD i 0) : ∀ {k : Nat}, i < k → 0 ≤ plTo ws rd p k ∧ ws.getD i 0 ≤ ws.getD (plTo ws rd p k).toNat 0
  | 0, h => by omega
  | k + 1, h => by
    by_cases hi : i = k
    · subst hi
      by_cases hl : longer ws (plTo ws rd p i) i = true
      · rw [pl_step_yes hr hp hl]; simp
      · have hl' : longer ws (plTo ws rd p i) i = false := by simpa using hl
        rw [pl_step_no (.inr (.inr hl'))]
        simp only [longer, Bool.or_eq_false_iff, decide_eq_false_iff_not] at hl'
        omega
    · have ih := plTo_max hr hp (k := k) (by omega)
      by_cases hc : rd.getD k false = true ∧ p ≤ ws.getD k 0 ∧ longer ws (plTo ws rd p k) k = true
      · rw [pl_step_yes hc.1 hc.2.1 hc.2.2]
        have hl := hc.2.2
        simp only [longer, Bool.or_eq_true, decide_eq_true_eq] at hl
        simp only [Int.toNat_natCast]
        omega
      · have hs : plTo ws rd p (k + 1) = plTo ws rd p k := by simp only [plTo]; rw [if_neg hc]
        rw [hs]; exact ih

theorem fair_step {ws : List Int} {rd : List Bool} {p want : Int} {n who : Nat} (h : Fair ws p n) (hn : ws.length = n) (hp : 1 ≤ p) (hl : rd.length = ws.length) (hw : IsWho ws rd p want who) : Fair (stepWN ws rd who) p n := by
  have hwn : who < n := by have := hw.lt; omega
  have hwho : (stepWN ws rd who).getD who 0 = 0 := by rw [stepWN_at (by omega), if_pos (.inl rfl)]
  have hf : ∀ j : Nat, late (stepWN ws rd who) (p + j) who = false := by
    intro j; unfold late; rw [hwho]; exact decide_eq_false (by omega)
  have hi : ∀ (j i : Nat), i < n → late (stepWN ws rd who) (p + j) i = true → rd.getD i false = true ∧ p + j ≤ ws.getD i 0 + 1 := by
    intro j i hin h
    unfold late at h
    rw [stepWN_at (by omega)] at h
    have h := of_decide_eq_true h
    by_cases hc : i = who ∨ rd.getD i false = false
    · rw [if_pos hc] at h; omega
    · rw [if_neg hc] at h
      rw [not_or] at hc
      exact ⟨by simpa using hc.2, h⟩
  intro j
  rcases j with _ | j
  · right
    have h1 := cg_lt (f := late (stepWN ws rd who) (p + (0 : Nat))) (g := fun _ => true) (i0 := who) rfl (hf 0) hwn (fun _ _ _ => rfl)
    have h2 := cg_bd (fun _ => true) n
    omega
  · by_cases he : ∃ i0, i0 < n ∧ rd.getD i0 false = true ∧ p + j ≤ ws.getD i0 0
    · obtain ⟨i0, h1, h2, h3⟩ := he
      have hm := plTo_max (ws := ws) (p := p) h2 (by omega) (k := rd.length) (by omega)
      have hpl := hw.pl hm.1
      have hlw : late ws (p + j) who = true := by
        unfold late
        apply decide_eq_true
        have : (plTo ws rd p rd.length).toNat = who := by omega
        rw [this] at hm
        omega
      have h4 := cg_lt hlw (hf (j + 1)) hwn (fun i hin h => by
        have := (hi (j + 1) i hin h).2
        unfold late
        apply decide_eq_true
        omega)
      have h5 := cg_pos hwn hlw
      rcases h j with h6 | h6
      · omega
      · right; omega
    · left
      apply cg_zero
      intro i hin
      rcases hb : late (stepWN ws rd who) (p + ((j + 1 : Nat) : Int)) i with _ | _
      · rfl
      · have := hi (j + 1) i hin hb
        exact absurd ⟨i, hin, this.1, by omega⟩ he

theorem fair_bound {ws : List Int} {p : Int} {n i : Nat} (h : Fair ws p n) (hi : i < n) : ws.getD i 0 < p + n - 1 := by
  rcases Int.lt_or_le (ws.getD i 0) (p + n - 1) with hlt | hge
  · exact hlt
  · exfalso
    have hl : late ws (p + ((n - 1 : Nat) : Int)) i = true := by unfold late; apply decide_eq_true; omega
    have h1 := cg_pos hi hl
    rcases h (n - 1) with h2 | h2 <;> omega

theorem cnt_pos {rd : List Bool} {i k : Nat} (h : rd.getD i false = true) (hi : i < k) : 0 < cnt rd k := by
  have := cnt_mono rd (show i + 1 ≤ k by omega)
  rw [cnt_yes h] at this; omega
theorem noneP_false {ws : List Int} {rd : List Bool} {i : Nat} (hl : rd.length = ws.length) (h : rd.getD i false = true) (hi : i < rd.length) : noneP ws rd = false := by
  have := cnt_pos h hi
  simp [noneP, hl]; rw [hl] at this; omega
end Go.Proofs.Ytcbgobgicknhiaa
