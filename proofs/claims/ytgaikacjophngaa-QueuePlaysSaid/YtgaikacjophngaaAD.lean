/- Queue: both kinds of queues hold the same. -/
import Derived.Test.YtgaikacjophngaaAC
import Derived.Test.YtgaikacjophngaaU
namespace Go.Proofs.Ytgaikacjophngaa
open Go.RowKit

def told (rl : List RL) (c : Int) : List Jb := (rl.filter (hit c)).map (fun x => x.s.j)

theorem told_append (rl : List RL) (x : RL) (c : Int) (hx : x.gone = false) : told (rl ++ [x]) c = if x.c = c then told rl c ++ [x.s.j] else told rl c := by
  simp only [told, List.filter_append, List.map_append]
  by_cases h : x.c = c
  · simp [List.filter, hit, h, hx]
  · have : hit c x = false := by simp [hit, h]
    simp [List.filter, this, h]

theorem told_none {rl : List RL} {c : Int} (h : told rl c = []) : ∀ j (hj : j < rl.length), hit c rl[j] = false := by
  intro j hj
  have h1 : rl.filter (hit c) = [] := by simpa [told] using h
  rw [List.filter_eq_nil_iff] at h1
  simpa using h1 _ (List.getElem_mem hj)

theorem told_some {rl : List RL} {c : Int} {j : Jb} {r : List Jb} (h : told rl c = j :: r) :
    ∃ m, ∃ hm : m < rl.length, hit c rl[m] = true ∧ (∀ i (hi : i < rl.length), i < m → hit c rl[i] = false) ∧ rl[m].s.j = j ∧ (∀ c', told (rl.set m rl[m].off) c' = if c' = c then r else told rl c') ∧ rl[m].c = c := by
  obtain ⟨x, t, hf, hxj, htr⟩ : ∃ x t, rl.filter (hit c) = x :: t ∧ x.s.j = j ∧ t.map (fun x => x.s.j) = r := by
    unfold told at h
    cases hf : rl.filter (hit c) with
    | nil => rw [hf] at h; cases h
    | cons x t => rw [hf] at h; simp at h; exact ⟨x, t, rfl, h.1, h.2⟩
  obtain ⟨l1, l2, rfl, h1, h2, h3⟩ := List.filter_eq_cons_iff.1 hf
  have hget : (l1 ++ x :: l2)[l1.length]'(by simp) = x := by simp
  have hxc := hit_iff.1 h2
  refine ⟨l1.length, by simp, by rw [hget]; exact h2, fun i hi him => ?_, by rw [hget]; exact hxj, fun c' => ?_, by rw [hget]; exact hxc.1⟩
  · rw [List.getElem_append_left him]
    simpa using h1 _ (List.getElem_mem him)
  · rw [hget]
    have hset : (l1 ++ x :: l2).set l1.length x.off = l1 ++ x.off :: l2 := by simp
    rw [hset]
    have ho : ∀ c', hit c' x.off = false := fun c' => by simp [hit, RL.off]
    by_cases hc : c' = c
    · subst hc
      rw [if_pos rfl, ← htr, ← h3]
      have : l1.filter (hit c') = [] := List.filter_eq_nil_iff.2 h1
      simp [told, List.filter_append, List.filter_cons, ho, this]
    · rw [if_neg hc]
      have hx' : hit c' x = false := by simp [hit, hxc.1]; intro e; exact absurd e.symm hc
      simp [told, List.filter_append, List.filter_cons, ho, hx']

theorem told_len (rl : List RL) (c : Int) : (told rl c).length = rl.countP (hit c) := by
  simp [told, List.countP_eq_length_filter]
theorem told_le (rl : List RL) (c : Int) : (told rl c).length ≤ rl.length := by
  rw [told_len]; exact List.countP_le_length
theorem told_out (rl : List RL) (chans : Nat) (h : ∀ x ∈ rl, 0 ≤ x.c ∧ x.c < chans) (c : Int) (hc : c < 0 ∨ chans ≤ c) : told rl c = [] := by
  have : rl.filter (hit c) = [] := by
    rw [List.filter_eq_nil_iff]
    intro x hx hh
    have := (hit_iff.1 hh).1
    have := h x hx
    omega
  simp [told, this]

theorem busy_told (rl : List RL) (line : Int) (h : ∀ x ∈ rl, 0 ≤ x.c ∧ x.c < 4) : busyA (fun c => told rl (c : Int)) line = rl.countP (has line) := by
  induction rl with
  | nil => rfl
  | cons x t ih =>
    have hx := h x (by simp)
    have iht := ih (fun y hy => h y (by simp [hy]))
    have ht : ∀ c : Int, cntA (told (x :: t) c) line = cntA (told t c) line + if (x.c = c ∧ x.gone = false) ∧ x.s.j.l = line then 1 else 0 := by
      intro c
      by_cases hh : hit c x = true
      · have h1 := hit_iff.1 hh
        have : told (x :: t) c = x.s.j :: told t c := by simp [told, List.filter_cons, hh]
        rw [this, cntA_cons]
        by_cases hl : x.s.j.l = line
        · rw [if_pos hl, if_pos ⟨h1, hl⟩]
        · rw [if_neg hl, if_neg (fun e => hl e.2)]
      · have : told (x :: t) c = told t c := by simp [told, List.filter_cons, hh]
        rw [this, if_neg (fun e => hh (hit_iff.2 e.1))]
        rfl
    simp only [busyA] at iht ⊢
    rw [ht, ht, ht, ht, List.countP_cons, ← iht]
    have hc : x.c = ((0 : Nat) : Int) ∨ x.c = ((1 : Nat) : Int) ∨ x.c = ((2 : Nat) : Int) ∨ x.c = ((3 : Nat) : Int) := by omega
    by_cases hg : x.gone = false
    · by_cases hl : x.s.j.l = line
      · have : has line x = true := by simp [has, hg, hl]
        rcases hc with e | e | e | e <;> simp [e, hg, hl, this] <;> omega
      · have : has line x = false := by simp [has, hl]
        simp [hl, this]
    · have : has line x = false := by simp at hg; simp [has, hg]
      simp [hg, this]

/-- Both hold the same jobs. -/
structure Both (B : Nat) (w : World) (b rb chans : Nat) (P P' : Nat → Prop) (A : Option Addr) (cap g : Nat) (rl : List RL) : Prop where
  q : QJ P w b chans (fun c => told rl (c : Int))
  r : RAt w rb chans A cap g rl
  own : ∀ i, RS rb A g i ∨ RP rl i → P' i
  apart : ∀ i, P i → ¬ P' i
  base : ∀ i, P i ∨ P' i → B ≤ i
  inn : ∀ x ∈ rl, 0 ≤ x.c ∧ x.c < chans

section
variable {B : Nat} {w w' : World} {b rb chans : Nat} {P P' : Nat → Prop} {A : Option Addr} {cap g : Nat} {rl : List RL}
theorem Both.quiet (h : Both B w b rb chans P P' A cap g rl) (k : Only (fun _ => False) w w') : Both B w' b rb chans P P' A cap g rl :=
  ⟨h.q.quiet k, h.r.quiet k, h.own, h.apart, h.base, h.inn⟩
/-- All of it lies below the memory's end. -/
theorem Both.sharp (h : Both B w b rb chans P P' A cap g rl) : Both B w b rb chans (fun i => P i ∧ i < w.heap.size) (fun i => P' i ∧ i < w.heap.size) A cap g rl :=
  ⟨h.q.mono (fun i hi hp => ⟨hp, hi⟩), h.r, fun i hi => ⟨h.own i hi, h.r.lt hi⟩, fun i hp hp' => h.apart i hp.1 hp'.1, fun i hi => h.base i (by rcases hi with hi | hi; exact .inl hi.1; exact .inr hi.1), h.inn⟩
theorem Both.hc (h : Both B w b rb chans P P' A cap g rl) : 1 ≤ chans ∧ chans ≤ 4 := h.r.hc
theorem Both.out (h : Both B w b rb chans P P' A cap g rl) (c : Int) (hc : ¬ isInA chans (fun c => told rl (c : Int)) c) : told rl c = [] := by
  by_cases h1 : c < 0 ∨ (chans : Int) ≤ c
  · exact told_out rl chans h.inn c h1
  · rcases ht : told rl c with _ | ⟨x, t⟩
    · rfl
    · refine absurd ⟨by omega, by omega, ?_⟩ hc
      have : ((c.toNat : Nat) : Int) = c := by omega
      simp only [this, ht]
      simp
end
end Go.Proofs.Ytgaikacjophngaa
