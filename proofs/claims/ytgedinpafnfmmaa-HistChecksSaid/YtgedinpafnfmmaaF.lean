/- Hist: what Check tells, by lists. -/
import Derived.Test.YtgedinpafnfmmaaE
namespace Go.Proofs.Ytgedinpafnfmmaa
open Go.RowKit

/-- These operations can follow, if the sector has v. -/
inductive Ser : List Dd → Int → Prop
  | done {L : List Dd} {v : Int} : (∀ x ∈ L, x.e = -1) → Ser L v
  | step {L R : List Dd} {v : Int} (x : Dd) : L.Perm (x :: R) → (∀ y ∈ R, y.before x = false) → (x.k = 2 ∨ x.v = v) → Ser R x.v → Ser L v

def left (l : List Dd) (d : Nat) : List Dd := ((List.range l.length).filter (fun i => !d.testBit i)).map (gt l)

theorem mem_left {l : List Dd} {d : Nat} {x : Dd} : x ∈ left l d ↔ ∃ i, i < l.length ∧ d.testBit i = false ∧ gt l i = x := by
  simp only [left, List.mem_map, List.mem_filter, List.mem_range, Bool.not_eq_true']
  constructor
  · rintro ⟨i, ⟨h1, h2⟩, h3⟩; exact ⟨i, h1, h2, h3⟩
  · rintro ⟨i, h1, h2, h3⟩; exact ⟨i, ⟨h1, h2⟩, h3⟩
theorem left_take {l : List Dd} {d i : Nat} (hi : i < l.length) (hb : d.testBit i = false) : (left l d).Perm (gt l i :: left l (d ||| 1 <<< i)) := by
  have h1 : i ∈ (List.range l.length).filter (fun i => !d.testBit i) := by simp [hi, hb]
  have h2 := (List.perm_cons_erase h1).map (gt l)
  have h3 : ((List.range l.length).filter (fun i => !d.testBit i)).erase i = (List.range l.length).filter (fun j => !(d ||| 1 <<< i).testBit j) := by
    rw [List.Nodup.erase_eq_filter (List.Pairwise.filter _ List.nodup_range), List.filter_filter]
    apply List.filter_congr
    intro j _
    rw [Nat.testBit_or, Nat.one_shiftLeft, Nat.testBit_two_pow]
    by_cases hj : j = i
    · subst hj; simp
    · have : ¬ i = j := fun e => hj e.symm
      simp [hj, this]
  rw [h3] at h2
  exact h2
theorem left_zero (l : List Dd) : left l 0 = l := by
  unfold left
  have : (List.range l.length).filter (fun i => !(0 : Nat).testBit i) = List.range l.length := by
    rw [List.filter_eq_self]; intro i _; simp
  rw [this]
  apply List.ext_getElem
  · simp
  · intro i h1 h2
    simp [gt_eq h2]

def mayAll (l : List Dd) : Prop := ∀ x ∈ l, x.may = true
theorem before_self {x : Dd} (h : x.may = true) : x.before x = false := by
  simp [Dd.may] at h
  simp only [Dd.before]
  by_cases he : x.e = -1
  · simp [he]
  · have : ¬ x.e < x.b := by omega
    simp [this]
theorem mayAll_gt {l : List Dd} (h : mayAll l) {i : Nat} (hi : i < l.length) : (gt l i).may = true := by rw [gt_eq hi]; exact h _ (List.getElem_mem hi)

theorem done_iff (l : List Dd) (d : Nat) : d &&& over l = over l ↔ ∀ x ∈ left l d, x.e = -1 := by
  constructor
  · intro h x hx
    obtain ⟨i, hi, hb, rfl⟩ := mem_left.1 hx
    have := congrArg (·.testBit i) h
    simp only [Nat.testBit_and, over, ovTo_bit, hb, Bool.false_and] at this
    simpa [hi] using this.symm
  · intro h
    apply Nat.eq_of_testBit_eq
    intro i
    rw [Nat.testBit_and, over, ovTo_bit]
    by_cases hi : i < l.length
    · cases hb : d.testBit i
      · have := h _ (mem_left.2 ⟨i, hi, hb, rfl⟩)
        simp [this]
      · simp
    · simp [hi]

theorem Can.ser {l : List Dd} {d : Nat} {v : Int} (h : Can l d v) : Ser (left l d) v := by
  induction h with
  | done h => exact .done ((done_iff _ _).1 h)
  | @step d v i hi hn _ ih =>
    have hb := nxt_bit hn
    simp [nxt] at hn
    refine .step (gt l i) (left_take hi hb) (fun y hy => ?_) ?_ ih
    · obtain ⟨k, hk, hkb, rfl⟩ := mem_left.1 hy
      have h1 := hn.1 k hk
      rw [Nat.testBit_or, Bool.or_eq_false_iff] at hkb
      simpa [blk, hkb.1] using h1
    · exact hn.2.2

theorem Ser.can {l : List Dd} (hm : mayAll l) {L : List Dd} {v : Int} (h : Ser L v) : ∀ d, L.Perm (left l d) → Can l d v := by
  induction h with
  | done h => exact fun d hp => .done ((done_iff _ _).2 (fun x hx => h x (hp.mem_iff.2 hx)))
  | @step L R v x hL hB hk _ ih =>
    intro d hp
    obtain ⟨i, hi, hb, rfl⟩ := mem_left.1 (hp.mem_iff.1 (hL.mem_iff.2 List.mem_cons_self))
    have hR : R.Perm (left l (d ||| 1 <<< i)) := (List.perm_cons _).1 (hL.symm.trans (hp.trans (left_take hi hb)))
    refine .step i hi ?_ (ih _ hR)
    simp only [nxt, Bool.and_eq_true, List.all_eq_true, List.mem_range, Bool.not_eq_true', Bool.or_eq_true, beq_iff_eq]
    refine ⟨fun k hk => ?_, hb, hk⟩
    unfold blk
    cases hkb : d.testBit k
    · by_cases hki : k = i
      · subst hki; simp [before_self (mayAll_gt hm hi)]
      · have : gt l k ∈ R := by
          rw [hR.mem_iff, mem_left]
          refine ⟨k, hk, ?_, rfl⟩
          rw [Nat.testBit_or, hkb, Nat.one_shiftLeft, Nat.testBit_two_pow]
          have : ¬ i = k := fun e => hki e.symm
          simp [this]
        simp [hB _ this]
    · simp

theorem right_may {l : List Dd} (h : right l = true) : mayAll l := by
  simp [right] at h
  exact fun x hx => h.1 x hx
theorem chk_iff {l : List Dd} (h : right l = true) : chk l = true ↔ Ser l 0 := by
  simp only [chk, h, Bool.true_and, decide_eq_true_eq]
  constructor
  · intro hc
    have := hc.ser
    rwa [left_zero] at this
  · intro hs
    exact hs.can (right_may h) 0 (by rw [left_zero])
theorem chk_wrong {l : List Dd} (h : right l = false) : chk l = false := by simp [chk, h]

theorem Ser.perm {L L' : List Dd} {v : Int} (h : Ser L v) (hp : L.Perm L') : Ser L' v := by
  cases h with
  | done h => exact .done (fun x hx => h x (hp.mem_iff.2 hx))
  | step x h1 h2 h3 h4 => exact .step x (hp.symm.trans h1) h2 h3 h4

/-- One that is not over, besides. -/
theorem Ser.more {L : List Dd} {v : Int} (h : Ser L v) (x : Dd) (hx : x.e = -1) : Ser (x :: L) v := by
  induction h with
  | done h =>
    refine .done (fun y hy => ?_)
    rcases List.mem_cons.1 hy with rfl | hy
    · exact hx
    · exact h y hy
  | @step L R v y hL hB hk _ ih =>
    refine .step y (R := x :: R) ((hL.cons x).trans (List.Perm.swap _ _ _)) (fun z hz => ?_) hk ih
    rcases List.mem_cons.1 hz with rfl | hz
    · simp [Dd.before, hx]
    · exact hB z hz
/-- A read that is not over may be left out. -/
theorem Ser.less {M : List Dd} {v : Int} (h : Ser M v) : ∀ (x : Dd) (L : List Dd), M.Perm (x :: L) → x.e = -1 → x.k ≠ 2 → Ser L v := by
  induction h with
  | done h => exact fun x L hp _ _ => .done (fun y hy => h y (hp.mem_iff.2 (List.mem_cons_of_mem _ hy)))
  | @step M R v y hM hB hk hs ih =>
    intro x L hp hx hxk
    by_cases hxy : x = y
    · subst hxy
      have hRL : R.Perm L := (List.perm_cons _).1 (hM.symm.trans hp)
      have : x.v = v := hk.resolve_left hxk
      rw [← this]
      exact hs.perm hRL
    · have hxR : x ∈ R := by
        have := hM.mem_iff.1 (hp.mem_iff.2 List.mem_cons_self)
        rcases List.mem_cons.1 this with h | h
        · exact absurd h hxy
        · exact h
      obtain ⟨R', hR'⟩ : ∃ R', R.Perm (x :: R') := by
        obtain ⟨s, t, rfl⟩ := List.append_of_mem hxR
        exact ⟨s ++ t, List.perm_middle⟩
      refine .step y (R := R') ?_ (fun z hz => hB z (hR'.mem_iff.2 (List.mem_cons_of_mem _ hz))) hk (ih x R' hR' hx hxk)
      exact (List.perm_cons x).1 (hp.symm.trans (hM.trans ((hR'.cons y).trans (List.Perm.swap _ _ _))))
end Go.Proofs.Ytgedinpafnfmmaa
