/- Queue: each call, at both. -/
import Derived.Test.YtgaikacjophngaaAD
namespace Go.Proofs.Ytgaikacjophngaa
open Go.RowKit

section
variable {P : Nat → Prop} {w : World} {b chans : Nat} {a : Nat → List Jb}
theorem qj_put_out (n : Int) (hn : n < 0 ∨ chans ≤ n) (v0 v1 v2 v3 v4 : Value) (h : QJ P w b chans a) :
    Calls Try.prog 10 #[.pointer (some ⟨b, 0, none⟩), .int .i64 n, .agg #[v0, v1, v2, v3, v4]] w fun e w' => e = .returned (.int .i64 2) ∧ Only (fun _ => False) w w' := by
  obtain ⟨q, h1, h2, h3⟩ := h
  exact put_out b chans q n hn v0 v1 v2 v3 v4 w h1
theorem qj_pop_none (n : Int) (h : QJ P w b chans a) (hn : ¬ isInA chans a n) :
    Calls Try.prog 11 #[.pointer (some ⟨b, 0, none⟩), .int .i64 n] w fun e w' => e = .returned (.tuple #[zeroJob, .bool false]) ∧ Only (fun _ => False) w w' := by
  obtain ⟨q, h1, h2, h3⟩ := h
  exact pop_none b chans q n (isIn_of h1.hc.2 h2 hn) w h1
theorem qj_first_none (n : Int) (h : QJ P w b chans a) (hn : ¬ isInA chans a n) :
    Calls Try.prog 13 #[.pointer (some ⟨b, 0, none⟩), .int .i64 n] w fun e w' => e = .returned (.tuple #[zeroJob, .bool false]) ∧ Only (fun _ => False) w w' := by
  obtain ⟨q, h1, h2, h3⟩ := h
  exact first_none b chans q n (isIn_of h1.hc.2 h2 hn) w h1
theorem qj_len_zero (n : Int) (h : QJ P w b chans a) (hn : ¬ isInA chans a n) :
    Calls Try.prog 12 #[.pointer (some ⟨b, 0, none⟩), .int .i64 n] w fun e w' => e = .returned (.int .i64 0) ∧ w' = w := by
  obtain ⟨q, h1, h2, h3⟩ := h
  exact len_zero b chans q n (isIn_of h1.hc.2 h2 hn) w h1
theorem qj_len (n : Nat) (h : QJ P w b chans a) (hn : n < chans) :
    Calls Try.prog 12 #[.pointer (some ⟨b, 0, none⟩), .int .i64 n] w fun e w' => e = .returned (.int .i64 (a n).length) ∧ w' = w := by
  obtain ⟨q, h1, h2, h3⟩ := h
  have e : (a n).length = (q n).js.length := by rw [← h2 n (by have := h1.hc; omega)]; simp
  rw [e]
  exact len_in b chans q n hn w h1
theorem qj_busy (line : Int) (h : QJ P w b chans a) (hl : ∀ i, i < 4 → (a i).length ≤ 100000) :
    Calls Try.prog 16 #[.pointer (some ⟨b, 0, none⟩), .int .i64 line] w fun e w' => e = .returned (.int .i64 (busyA a line)) ∧ Only (fun _ => False) w w' := by
  obtain ⟨q, h1, h2, h3⟩ := h
  have e : ∀ i, i < 4 → cntA (a i) line = cnt (q i).js line := fun i hi => by
    rw [← h2 i hi]
    simp only [cntA, cnt, List.countP_map]
    rfl
  have := busy_any b chans q line w h1 (fun i hi => by have := hl i hi; rw [← h2 i hi] at this; simpa using this)
  simp only [busyA, e 0 (by omega), e 1 (by omega), e 2 (by omega), e 3 (by omega)]
  exact this
end

section
variable {B : Nat} {w : World} {b rb chans : Nat} {P P' : Nat → Prop} {A : Option Addr} {cap g : Nat} {rl : List RL}

def Some2 (B : Nat) (w : World) (b rb chans n : Nat) : Prop := ∃ P P' A cap g rl, Both B w b rb chans P P' A cap g rl ∧ rl.length ≤ n

theorem Both.some (h : Both B w b rb chans P P' A cap g rl) {n : Nat} (hn : rl.length ≤ n) : Some2 B w b rb chans n := ⟨P, P', A, cap, g, rl, h, hn⟩

theorem puts (h : Both B w b rb chans P P' A cap g rl) (hB : B ≤ w.heap.size) (hP : ∀ i, P i ∨ P' i → i < w.heap.size) (c : Int) (k l u p : Int) (pos : List Int) (Ao : Option Addr) (co gs : Nat) (hr : Rd w gs Ao (iv pos)) (hgs : ¬ P gs) (hpl : pos.length ≤ 1000000) (hl : rl.length ≤ 1000) :
    ∃ z : Int, Calls Try.prog 10 #[.pointer (some ⟨b, 0, none⟩), .int .i64 c, .agg #[.int .i64 k, .int .i64 l, .int .i64 u, .int .i64 p, .slice Ao pos.length co]] w fun e w1 => e = .returned (.int .i64 z) ∧ Only P w w1 ∧
      Calls Try.prog 20 #[.pointer (some ⟨rb, 0, none⟩), .int .i64 c, .agg #[.int .i64 k, .int .i64 l, .int .i64 u, .int .i64 p, .slice Ao pos.length co]] w1 fun e' w2 => e' = .returned (.int .i64 z) ∧ Only P' w1 w2 ∧ Some2 B w2 b rb chans (rl.length + 1) := by
  by_cases hin : c < 0 ∨ (chans : Int) ≤ c
  · refine ⟨2, (qj_put_out c hin _ _ _ _ _ h.q).mono ?_⟩
    rintro e w1 ⟨rfl, hO⟩
    have h1 := h.quiet hO
    refine ⟨rfl, hO.mono (fun _ _ h => h.elim), (refPut_out rb chans A cap g rl c hin _ _ _ _ _ w1 h1.r).mono ?_⟩
    rintro e w2 ⟨rfl, hO2⟩
    exact ⟨rfl, hO2.mono (fun _ _ h => h.elim), (h1.quiet hO2).some (by omega)⟩
  · obtain ⟨n, rfl⟩ : ∃ n : Nat, c = n := ⟨c.toNat, by omega⟩
    have hn : n < chans := by omega
    have h4 := h.hc
    refine ⟨0, (qj_put (P := fun i => P i ∨ w.heap.size ≤ i) n (h.q.mono (fun i _ hp => .inl hp)) (fun i hi => .inr hi) hn k l u p pos Ao co gs hr hpl (by have := told_le rl n; omega)).mono ?_⟩
    rintro e w1 ⟨rfl, hq, hO⟩
    have hO1 : Only P w w1 := hO.mono (fun i hi hp => by rcases hp with hp | hp; exact hp; omega)
    have hr1 : RAt w1 rb chans A cap g rl := h.r.only hO1 (fun i hi hp => h.apart i hp (h.own i (.inl hi))) (fun i hi hp => h.apart i hp (h.own i (.inr hi)))
    refine ⟨rfl, hO1, (refPut_in rb chans A cap g rl n (by omega) k l u p pos Ao co gs w1 hr1 (hr.only hO1 hgs) hpl (by omega)).mono ?_⟩
    rintro e w2 ⟨A3, c3, g3, s, rfl, hR, hsj, hg3, hsg, hO2⟩
    have hO2' : Only P' w1 w2 := hO2.mono (fun i _ hi => h.own i (.inl hi))
    refine ⟨rfl, hO2', ⟨fun i => (P i ∨ w.heap.size ≤ i) ∧ i < w1.heap.size ∧ ¬ P' i, fun i => P' i ∨ w1.heap.size ≤ i, A3, c3, g3, _, ⟨?_, hR, ?_, ?_, ?_, ?_⟩, by simp⟩⟩
    · have hq2 := (hq.mono (P' := fun i => (P i ∨ w.heap.size ≤ i) ∧ i < w1.heap.size ∧ ¬ P' i) (fun i hi hp => ⟨hp, hi, fun hp' => by
        rcases hp with hp | hp
        · exact h.apart i hp hp'
        · have := hP i (.inr hp'); omega⟩)).only hO2' (fun i hi hp' => hi.2.2 hp')
      have e : (fun c : Nat => told (rl ++ [⟨(n : Int), s, false⟩]) (c : Int)) = updA (fun c => told rl (c : Int)) n (told rl n ++ [⟨k, l, u, p, pos⟩]) := by
        funext c'
        rw [told_append _ _ _ rfl]
        simp only [updA]
        by_cases hc : c' = n
        · subst hc; simp [hsj]
        · rw [if_neg hc, if_neg (fun e : (n : Int) = (c' : Int) => hc (by omega))]
      rw [e]; exact hq2
    · intro i hi
      rcases hi with (rfl | ⟨hA, rfl⟩) | ⟨x, hx, hA, rfl⟩
      · exact .inl (h.own _ (.inl (.inl rfl)))
      · rcases hg3 with ⟨q1, rfl⟩ | q
        · exact .inl (h.own _ (.inl (.inr ⟨q1, rfl⟩)))
        · exact .inr q
      · rcases List.mem_append.1 hx with hx | hx
        · exact .inl (h.own _ (.inr ⟨x, hx, hA, rfl⟩))
        · simp at hx; subst hx; exact .inr hsg
    · rintro i ⟨_, hi, hnp⟩ (hp | hp)
      · exact hnp hp
      · omega
    · have := hO.size
      rintro i (⟨hp | hp, _⟩ | hp | hp)
      · exact h.base i (.inl hp)
      · omega
      · exact h.base i (.inr hp)
      · omega
    · intro x hx
      rcases List.mem_append.1 hx with hx | hx
      · exact h.inn x hx
      · simp at hx; subst hx; simp; omega

theorem lens (h : Both B w b rb chans P P' A cap g rl) (c : Int) (hl : rl.length ≤ 1000) :
    ∃ z : Int, Calls Try.prog 12 #[.pointer (some ⟨b, 0, none⟩), .int .i64 c] w (fun e w' => e = .returned (.int .i64 z) ∧ w' = w) ∧ Calls Try.prog 23 #[.pointer (some ⟨rb, 0, none⟩), .int .i64 c] w (fun e w' => e = .returned (.int .i64 z) ∧ w' = w) := by
  have hR := refLen_any rb chans A cap g rl c w h.r (by omega)
  rw [← told_len] at hR
  by_cases hin : isInA chans (fun c => told rl (c : Int)) c
  · obtain ⟨h0, h1, _⟩ := hin
    obtain ⟨n, rfl⟩ : ∃ n : Nat, c = n := ⟨c.toNat, by omega⟩
    exact ⟨_, qj_len n h.q (by omega), hR⟩
  · rw [h.out c hin] at hR
    exact ⟨_, qj_len_zero c h.q hin, hR⟩

theorem busies (h : Both B w b rb chans P P' A cap g rl) (c : Int) (hl : rl.length ≤ 1000) :
    ∃ z : Int, Calls Try.prog 16 #[.pointer (some ⟨b, 0, none⟩), .int .i64 c] w (fun e w' => e = .returned (.int .i64 z) ∧ Only (fun _ => False) w w') ∧ ∀ w1, Only (fun _ => False) w w1 → Calls Try.prog 24 #[.pointer (some ⟨rb, 0, none⟩), .int .i64 c] w1 (fun e w' => e = .returned (.int .i64 z) ∧ w' = w1) := by
  have h4 := h.hc
  refine ⟨_, qj_busy c h.q (fun i _ => by have := told_le rl i; omega), fun w1 hO => ?_⟩
  rw [busy_told rl c (fun x hx => by have := h.inn x hx; omega)]
  exact refBusy_any rb chans A cap g rl c w1 (h.quiet hO).r (by omega)

/-- A job is told, and whether there was one. -/
def Told (k l u p : Int) (pos : List Int) (z : Bool) (w : World) (e : Ending) (w' : World) : Prop :=
  ∃ A1 c1 g1, e = .returned (.tuple #[.agg #[.int .i64 k, .int .i64 l, .int .i64 u, .int .i64 p, .slice A1 pos.length c1], .bool z]) ∧ Rd w' g1 A1 (iv pos) ∧ w.heap.size ≤ g1

theorem firsts (h : Both B w b rb chans P P' A cap g rl) (c : Int) (hl : rl.length ≤ 1000) :
    ∃ k l u p pos z, pos.length ≤ 1000000 ∧ (∀ w1, Only (fun _ => False) w w1 → Calls Try.prog 13 #[.pointer (some ⟨b, 0, none⟩), .int .i64 c] w1 (fun e w' => Told k l u p pos z w1 e w' ∧ Only (fun _ => False) w1 w')) ∧
      ∀ w1, Only (fun _ => False) w w1 → Calls Try.prog 22 #[.pointer (some ⟨rb, 0, none⟩), .int .i64 c] w1 (fun e w' => Told k l u p pos z w1 e w' ∧ Only (fun _ => False) w1 w') := by
  by_cases hin : isInA chans (fun c => told rl (c : Int)) c
  · obtain ⟨h0, h1, h2⟩ := hin
    obtain ⟨n, rfl⟩ : ∃ n : Nat, c = n := ⟨c.toNat, by omega⟩
    simp only [Int.toNat_natCast] at h2
    rcases hj : told rl (n : Int) with _ | ⟨j, r⟩
    · exact absurd hj h2
    · obtain ⟨m, hm, q1, q2, q3, q4, _⟩ := told_some hj
      have hjl : j.pos.length ≤ 1000000 := by rw [← q3]; exact (h.r.ok _ (List.getElem_mem hm)).len
      refine ⟨j.k, j.l, j.u, j.p, j.pos, true, hjl, fun w1 hO => ?_, fun w1 hO => ?_⟩
      · refine (qj_first n (h.quiet hO).q (by omega) j r hj (by have := told_le rl n; omega)).mono ?_
        rintro e w' ⟨A1, c1, gp, rfl, p1, p2, p3, p4⟩
        exact ⟨⟨A1, c1, gp, rfl, p1.rd, p3⟩, p4⟩
      · have := refFirst_at rb chans A cap g rl n m w1 (h.quiet hO).r hm (by omega) q1 q2
        rw [q3] at this
        refine this.mono ?_
        rintro e w' ⟨A1, c1, gp, rfl, p1, p2, p3, p4⟩
        exact ⟨⟨A1, c1, gp, rfl, p1.rd, p3⟩, p4⟩
  · have ht := h.out c hin
    refine ⟨0, 0, 0, 0, [], false, by simp, fun w1 hO => ?_, fun w1 hO => ?_⟩
    · refine (qj_first_none c (h.quiet hO).q hin).mono ?_
      rintro e w' ⟨rfl, hO⟩
      exact ⟨⟨none, 0, w1.heap.size, rfl, .inl rfl, Nat.le_refl _⟩, hO⟩
    · refine (refFirst_no rb chans A cap g rl c w1 (h.quiet hO).r (by omega) (told_none ht)).mono ?_
      rintro e w' ⟨rfl, hO⟩
      exact ⟨⟨none, 0, w1.heap.size, rfl, .inl rfl, Nat.le_refl _⟩, hO⟩

theorem pops (h : Both B w b rb chans P P' A cap g rl) (hP : ∀ i, P i ∨ P' i → i < w.heap.size) (c : Int) (hl : rl.length ≤ 1000) :
    ∃ k l u p pos z, pos.length ≤ 1000000 ∧ Calls Try.prog 11 #[.pointer (some ⟨b, 0, none⟩), .int .i64 c] w (fun e w1 => Told k l u p pos z w e w1 ∧ Only P w w1 ∧
      ∀ w2, Only (fun _ => False) w1 w2 → Calls Try.prog 21 #[.pointer (some ⟨rb, 0, none⟩), .int .i64 c] w2 (fun e w3 => Told k l u p pos z w2 e w3 ∧ Only P' w2 w3 ∧ Some2 B w3 b rb chans rl.length)) := by
  by_cases hin : isInA chans (fun c => told rl (c : Int)) c
  · obtain ⟨h0, h1, h2⟩ := hin
    obtain ⟨n, rfl⟩ : ∃ n : Nat, c = n := ⟨c.toNat, by omega⟩
    simp only [Int.toNat_natCast] at h2
    rcases hj : told rl (n : Int) with _ | ⟨j, r⟩
    · exact absurd hj h2
    · obtain ⟨m, hm, q1, q2, q3, q4, q5⟩ := told_some hj
      have hjl : j.pos.length ≤ 1000000 := by rw [← q3]; exact (h.r.ok _ (List.getElem_mem hm)).len
      refine ⟨j.k, j.l, j.u, j.p, j.pos, true, hjl, (qj_pop n h.q (by omega) j r hj (by have := told_le rl n; omega)).mono ?_⟩
      rintro e w1 ⟨A1, c1, gp, rfl, p1, p2, p3, hq, hO⟩
      refine ⟨⟨A1, c1, gp, rfl, p1.rd, p3⟩, hO, fun w2 hO2 => ?_⟩
      have hr1 : RAt w1 rb chans A cap g rl := h.r.only hO (fun i hi hp => h.apart i hp (h.own i (.inl hi))) (fun i hi hp => h.apart i hp (h.own i (.inr hi)))
      have := refPop_at rb chans A cap g rl n m w2 (hr1.quiet hO2) hm (by omega) q1 q2
      rw [q3] at this
      refine this.mono ?_
      rintro e w3 ⟨A2, c2, gp2, rfl, p1, p2, p3, hR, hO3⟩
      have hO3' : Only P' w2 w3 := hO3.mono (fun i _ hi => h.own i (.inl (.inr hi)))
      refine ⟨⟨A2, c2, gp2, rfl, p1.rd, p3⟩, hO3', ⟨P, P', A, cap, g, _, ⟨?_, hR, ?_, h.apart, h.base, ?_⟩, by simp⟩⟩
      · have e : (fun c : Nat => told (rl.set m rl[m].off) (c : Int)) = updA (fun c => told rl (c : Int)) n r := by
          funext c'
          rw [q4]
          simp only [updA]
          by_cases hc : c' = n
          · subst hc; simp
          · rw [if_neg hc, if_neg (by omega)]
        rw [e]
        exact (hq.quiet hO2).only hO3' (fun i hi => h.apart i hi)
      · rintro i (hi | ⟨x, hx, hA, rfl⟩)
        · exact h.own _ (.inl hi)
        · rcases List.mem_or_eq_of_mem_set hx with hx | rfl
          · exact h.own _ (.inr ⟨x, hx, hA, rfl⟩)
          · exact h.own _ (.inr ⟨_, List.getElem_mem hm, hA, rfl⟩)
      · intro x hx
        rcases List.mem_or_eq_of_mem_set hx with hx | rfl
        · exact h.inn x hx
        · exact h.inn rl[m] (List.getElem_mem hm)
  · have ht := h.out c hin
    refine ⟨0, 0, 0, 0, [], false, by simp, (qj_pop_none c h.q hin).mono ?_⟩
    rintro e w1 ⟨rfl, hO⟩
    refine ⟨⟨none, 0, w.heap.size, rfl, .inl rfl, Nat.le_refl _⟩, hO.mono (fun _ _ h => h.elim), fun w2 hO2 => ?_⟩
    have h2 := (h.quiet hO).quiet hO2
    refine (refPop_no rb chans A cap g rl c w2 h2.r (by omega) (told_none ht)).mono ?_
    rintro e w3 ⟨rfl, hO3⟩
    exact ⟨⟨none, 0, w2.heap.size, rfl, .inl rfl, Nat.le_refl _⟩, hO3.mono (fun _ _ h => h.elim), (h2.quiet hO3).some (Nat.le_refl _)⟩
end
end Go.Proofs.Ytgaikacjophngaa
