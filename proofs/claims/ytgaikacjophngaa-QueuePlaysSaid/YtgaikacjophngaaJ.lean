/- Queue: the queues told by their jobs alone. -/
import Derived.Test.YtgaikacjophngaaI
namespace Go.Proofs.Ytgaikacjophngaa
open Go.RowKit

def updA (a : Nat → List Jb) (n : Nat) (l : List Jb) : Nat → List Jb := fun i => if i = n then l else a i

def QI (B : Nat) (w : World) (b chans : Nat) (a : Nat → List Jb) : Prop :=
  ∃ q, QAt w b chans q ∧ (∀ i, i < 4 → (q i).js.map SJ.j = a i) ∧ ∀ i, QS b q i ∨ QP q i → B ≤ i

section
variable {B : Nat} {w w' : World} {b chans : Nat} {a : Nat → List Jb}
theorem QI.only {S : Nat → Prop} (h : QI B w b chans a) (k : Only S w w') (hS : ∀ i, B ≤ i → ¬ S i) : QI B w' b chans a := by
  obtain ⟨q, h1, h2, h3⟩ := h
  exact ⟨q, h1.only k (fun i hi => hS i (h3 i (.inl hi))) (fun i hi => hS i (h3 i (.inr hi))), h2, h3⟩
theorem QI.quiet (h : QI B w b chans a) (k : Only (fun _ => False) w w') : QI B w' b chans a := h.only k (fun _ _ => id)
theorem QI.hc (h : QI B w b chans a) : 1 ≤ chans ∧ chans ≤ 4 := by
  obtain ⟨q, h1, _⟩ := h
  exact h1.hc
theorem QI.lt (h : QI B w b chans a) : b < w.heap.size ∧ B ≤ b := by
  obtain ⟨q, h1, _, h3⟩ := h
  exact ⟨h1.st.lt, h3 b (.inl (.inl rfl))⟩

theorem qi_new (n : Nat) (h1 : 1 ≤ n) (h2 : n ≤ 4) (B : Nat) (w : World) (hB : B ≤ w.heap.size) :
    Calls Try.prog 9 #[.int .i64 n] w fun e w' => ∃ b, e = .returned (.tuple #[.pointer (some ⟨b, 0, none⟩), .int .i64 0]) ∧ QI B w' b n (fun _ => []) ∧ Only (fun _ => False) w w' := by
  refine (new_any n h1 h2 w).mono ?_
  rintro e w' ⟨rfl, hq, hO⟩
  refine ⟨_, rfl, ⟨_, hq, fun i _ => rfl, ?_⟩, hO⟩
  rintro i ((rfl | ⟨k, _, hA, _⟩) | ⟨k, _, s, hs, _⟩)
  · exact hB
  · exact absurd rfl hA
  · cases hs

theorem qi_len (n : Nat) (h : QI B w b chans a) (hn : n < chans) :
    Calls Try.prog 12 #[.pointer (some ⟨b, 0, none⟩), .int .i64 n] w fun e w' => e = .returned (.int .i64 (a n).length) ∧ w' = w := by
  obtain ⟨q, h1, h2, h3⟩ := h
  have e : (a n).length = (q n).js.length := by rw [← h2 n (by have := h1.hc; omega)]; simp
  rw [e]
  exact len_in b chans q n hn w h1

def isInA (chans : Nat) (a : Nat → List Jb) (n : Int) : Prop := 0 ≤ n ∧ n < chans ∧ a n.toNat ≠ []

theorem isIn_of {q : Nat → QRow} {n : Int} (hc : chans ≤ 4) (h2 : ∀ i, i < 4 → (q i).js.map SJ.j = a i) (h : ¬ isInA chans a n) : ¬ isIn chans q n := by
  rintro ⟨x, y, z⟩
  refine h ⟨x, y, fun e => z ?_⟩
  have := h2 n.toNat (by omega)
  rw [e] at this
  simpa using this

theorem qi_len_zero (n : Int) (h : QI B w b chans a) (hn : ¬ isInA chans a n) :
    Calls Try.prog 12 #[.pointer (some ⟨b, 0, none⟩), .int .i64 n] w fun e w' => e = .returned (.int .i64 0) ∧ w' = w := by
  obtain ⟨q, h1, h2, h3⟩ := h
  exact len_zero b chans q n (isIn_of h1.hc.2 h2 hn) w h1

theorem qi_first_none (n : Int) (h : QI B w b chans a) (hn : ¬ isInA chans a n) :
    Calls Try.prog 13 #[.pointer (some ⟨b, 0, none⟩), .int .i64 n] w fun e w' => e = .returned (.tuple #[zeroJob, .bool false]) ∧ Only (fun _ => False) w w' := by
  obtain ⟨q, h1, h2, h3⟩ := h
  exact first_none b chans q n (isIn_of h1.hc.2 h2 hn) w h1

theorem qi_pop_none (n : Int) (h : QI B w b chans a) (hn : ¬ isInA chans a n) :
    Calls Try.prog 11 #[.pointer (some ⟨b, 0, none⟩), .int .i64 n] w fun e w' => e = .returned (.tuple #[zeroJob, .bool false]) ∧ Only (fun _ => False) w w' := by
  obtain ⟨q, h1, h2, h3⟩ := h
  exact pop_none b chans q n (isIn_of h1.hc.2 h2 hn) w h1

theorem head_of {l : List SJ} {j : Jb} {r : List Jb} (h : l.map SJ.j = j :: r) : ∃ s t, l = s :: t ∧ s.j = j ∧ t.map SJ.j = r := by
  cases l with
  | nil => cases h
  | cons s t => simp at h; exact ⟨s, t, rfl, h.1, h.2⟩

theorem qi_first (n : Nat) (h : QI B w b chans a) (hn : n < chans) (j : Jb) (r : List Jb) (hj : a n = j :: r) (hl : (a n).length ≤ 100000) :
    Calls Try.prog 13 #[.pointer (some ⟨b, 0, none⟩), .int .i64 n] w (FirstPost j w) := by
  obtain ⟨q, h1, h2, h3⟩ := h
  have e := h2 n (by have := h1.hc; omega)
  obtain ⟨s, t, h4, rfl, h5⟩ := head_of (e.trans hj)
  refine first_some b chans q n hn s t h4 w h1 ?_
  rw [← e] at hl; simpa using hl

def PopPost (B b chans : Nat) (a : Nat → List Jb) (n : Nat) (j : Jb) (r : List Jb) (w : World) (e : Ending) (w' : World) : Prop :=
  ∃ A c gp, e = .returned (.tuple #[.agg #[.int .i64 j.k, .int .i64 j.l, .int .i64 j.u, .int .i64 j.p, .slice A j.pos.length c], .bool true]) ∧ RowAt w' A j.pos.length c gp 3 1 (iv j.pos) ∧ A ≠ none ∧ w.heap.size ≤ gp ∧
    QI B w' b chans (updA a n r) ∧ Only (fun i => B ≤ i) w w'

theorem qi_pop (n : Nat) (h : QI B w b chans a) (hn : n < chans) (j : Jb) (r : List Jb) (hj : a n = j :: r) (hl : (a n).length ≤ 100000) :
    Calls Try.prog 11 #[.pointer (some ⟨b, 0, none⟩), .int .i64 n] w (PopPost B b chans a n j r w) := by
  obtain ⟨q, h1, h2, h3⟩ := h
  have hc := h1.hc
  have e := h2 n (by omega)
  obtain ⟨s, t, h4, rfl, h5⟩ := head_of (e.trans hj)
  refine (pop_some b chans q n hn s t h4 w h1 (by rw [← e] at hl; simpa using hl)).mono ?_
  rintro e' w' ⟨A, c, gp, r', rfl, p1, p2, p3, p4, p5, p6, p7, p8⟩
  refine ⟨A, c, gp, rfl, p1, p2, p3, ⟨_, p4, fun i hi => ?_, ?_⟩, p8.mono (fun i _ hi => by subst hi; exact h3 _ (.inl (.inl rfl)))⟩
  · by_cases hin : i = n
    · subst hin; rw [upd_self, p5]; simp [updA, h5]
    · rw [upd_ne _ _ _ _ hin]; simp [updA, hin, h2 i hi]
  · rintro i ((rfl | ⟨k, hk, hA, rfl⟩) | ⟨k, hk, x, hx, hA, rfl⟩)
    · exact h3 _ (.inl (.inl rfl))
    · by_cases hkn : k = n
      · subst hkn; rw [upd_self, p6]; exact h3 _ (.inl (.inr ⟨k, hk, p7, rfl⟩))
      · rw [upd_ne _ _ _ _ hkn] at hA ⊢; exact h3 _ (.inl (.inr ⟨k, hk, hA, rfl⟩))
    · by_cases hkn : k = n
      · subst hkn; rw [upd_self, p5] at hx
        exact h3 _ (.inr ⟨k, hk, x, by rw [h4]; simp [hx], hA, rfl⟩)
      · rw [upd_ne _ _ _ _ hkn] at hx; exact h3 _ (.inr ⟨k, hk, x, hx, hA, rfl⟩)

theorem qi_put_out (n : Int) (hn : n < 0 ∨ chans ≤ n) (v0 v1 v2 v3 v4 : Value) (h : QI B w b chans a) :
    Calls Try.prog 10 #[.pointer (some ⟨b, 0, none⟩), .int .i64 n, .agg #[v0, v1, v2, v3, v4]] w fun e w' => e = .returned (.int .i64 2) ∧ Only (fun _ => False) w w' := by
  obtain ⟨q, h1, h2, h3⟩ := h
  exact put_out b chans q n hn v0 v1 v2 v3 v4 w h1

theorem qi_put (n : Nat) (h : QI B w b chans a) (hB : B ≤ w.heap.size) (hn : n < chans) (k l u p : Int) (pos : List Int) (A : Option Addr) (c gs : Nat) (hr : Rd w gs A (iv pos)) (hpl : pos.length ≤ 1000000) (hl : (a n).length ≤ 100000) :
    Calls Try.prog 10 #[.pointer (some ⟨b, 0, none⟩), .int .i64 n, .agg #[.int .i64 k, .int .i64 l, .int .i64 u, .int .i64 p, .slice A pos.length c]] w fun e w' =>
      e = .returned (.int .i64 0) ∧ QI B w' b chans (updA a n (a n ++ [⟨k, l, u, p, pos⟩])) ∧ Only (fun i => B ≤ i) w w' := by
  obtain ⟨q, h1, h2, h3⟩ := h
  have hc := h1.hc
  have e := h2 n (by omega)
  refine (put_in b chans q n hn k l u p pos A c gs w h1 hr hpl (by rw [← e] at hl; simpa using hl)).mono ?_
  rintro e' w' ⟨r', s, rfl, p1, p2, p3, p4, p5, p6, p7⟩
  refine ⟨rfl, ⟨_, p1, fun i hi => ?_, ?_⟩, p7.mono (fun i _ hi => ?_)⟩
  · by_cases hin : i = n
    · subst hin; rw [upd_self, p2]; simp [updA, e, p3]
    · rw [upd_ne _ _ _ _ hin]; simp [updA, hin, h2 i hi]
  · rintro i ((rfl | ⟨m, hm, hA, rfl⟩) | ⟨m, hm, x, hx, hA, rfl⟩)
    · exact h3 _ (.inl (.inl rfl))
    · by_cases hkn : m = n
      · subst hkn; rw [upd_self]
        rcases p5 with ⟨q1, q2⟩ | q2
        · rw [q2]; exact h3 _ (.inl (.inr ⟨m, hm, q1, rfl⟩))
        · omega
      · rw [upd_ne _ _ _ _ hkn] at hA ⊢; exact h3 _ (.inl (.inr ⟨m, hm, hA, rfl⟩))
    · by_cases hkn : m = n
      · subst hkn; rw [upd_self, p2] at hx
        rcases List.mem_append.1 hx with hx | hx
        · exact h3 _ (.inr ⟨m, hm, x, hx, hA, rfl⟩)
        · simp at hx; subst hx; omega
      · rw [upd_ne _ _ _ _ hkn] at hx; exact h3 _ (.inr ⟨m, hm, x, hx, hA, rfl⟩)
  · rcases hi with rfl | ⟨q1, rfl⟩
    · exact h3 _ (.inl (.inl rfl))
    · exact h3 _ (.inl (.inr ⟨n, by omega, q1, rfl⟩))

def cntA (l : List Jb) (line : Int) : Nat := l.countP (fun j => j.l == line)
def busyA (a : Nat → List Jb) (line : Int) : Nat := cntA (a 0) line + cntA (a 1) line + cntA (a 2) line + cntA (a 3) line

theorem qi_busy (line : Int) (h : QI B w b chans a) (hl : ∀ i, i < 4 → (a i).length ≤ 100000) :
    Calls Try.prog 16 #[.pointer (some ⟨b, 0, none⟩), .int .i64 line] w fun e w' => e = .returned (.int .i64 (busyA a line)) ∧ Only (fun _ => False) w w' := by
  obtain ⟨q, h1, h2, h3⟩ := h
  have e : ∀ i, i < 4 → cntA (a i) line = cnt (q i).js line := fun i hi => by
    rw [← h2 i hi]
    simp only [cntA, cnt, List.countP_map]
    rfl
  have := busy_any b chans q line w h1 (fun i hi => by have := hl i hi; rw [← h2 i hi] at this; simpa using this)
  simp only [busyA, e 0 (by omega), e 1 (by omega), e 2 (by omega), e 3 (by omega)]
  exact this
end

/-- Nothing lies where a nil slice leads. -/
theorem rd_nil (w : World) (g : Nat) : Rd w g none (iv []) := .inl rfl

set_option maxRecDepth 100000 in
set_option maxHeartbeats 4000000 in
theorem awake_any (w : World) : Calls Try.prog 8 #[] w fun e w' => e = .returned (.bool true) ∧ Only (fun _ => False) w w' := by
  have HN := Lib.hid (fun (w' : World) (h : w.heap.size ≤ w'.heap.size) => (qi_new 2 (by omega) (by omega) w.heap.size w' h : Calls Try.prog 9 #[.int .i64 2] w' _))
  go_enter Try.func8, Try.ntmps8
  go_wp2_with (fail)
  refine (HN.out w (Nat.le_refl _)).mono ?_
  rintro e w1 ⟨b, rfl, hq, hO1⟩
  have HP1 := Lib.hid (qi_put (w := w1) 1 hq hO1.size (by omega) 0 3 0 0 [] none 0 0 (rd_nil _ _) (by simp) (by simp) : Calls Try.prog 10 #[.pointer (some ⟨b, 0, none⟩), .int .i64 1, .agg #[.int .i64 0, .int .i64 3, .int .i64 0, .int .i64 0, .slice none 0 0]] w1 _)
  have HO1 := Lib.hid hO1
  clear hq hO1
  go_wp2_with (fail)
  refine HP1.out.mono ?_
  rintro e w2 ⟨rfl, hq, hO2⟩
  have HP2 := Lib.hid (qi_put (w := w2) 1 hq (Nat.le_trans HO1.out.size hO2.size) (by omega) 0 4 0 0 [] none 0 0 (rd_nil _ _) (by simp) (by simp [updA]) : Calls Try.prog 10 #[.pointer (some ⟨b, 0, none⟩), .int .i64 1, .agg #[.int .i64 0, .int .i64 4, .int .i64 0, .int .i64 0, .slice none 0 0]] w2 _)
  have HO2 := Lib.hid (HO1.out.trans' hO2 (S := fun _ => False) (fun i hi h => by omega))
  clear hq hO2 HP1
  go_wp2_with (fail)
  refine HP2.out.mono ?_
  rintro e w3 ⟨rfl, hq, hO3⟩
  have HP3 := Lib.hid (qi_pop (w := w3) 1 hq (by omega) ⟨0, 3, 0, 0, []⟩ [⟨0, 4, 0, 0, []⟩] (by simp [updA]) (by simp [updA]) : Calls Try.prog 11 #[.pointer (some ⟨b, 0, none⟩), .int .i64 1] w3 _)
  have HO3 := Lib.hid (HO2.out.trans' hO3 (S := fun _ => False) (fun i hi h => by omega))
  clear hq hO3 HP2
  go_wp2_with (fail)
  refine HP3.out.mono ?_
  rintro e w4 ⟨A, c, gp, rfl, hr, hA, hg, hq, hO4⟩
  have HO4 := Lib.hid (HO3.out.trans' hO4 (S := fun _ => False) (fun i hi h => by omega))
  have HQ4 := Lib.hid (hq.quiet ((Only.refl _ _).alloc (.cells #[.int .i64 0, .int .i64 3, .int .i64 0, .int .i64 0, .slice A 0 c] 31)))
  have HA4 := Lib.hid (At.new w4 31 #[.int .i64 0, .int .i64 3, .int .i64 0, .int .i64 0, .slice A 0 c])
  have HP4 := Lib.hid (qi_first 1 HQ4.out (by omega) ⟨0, 4, 0, 0, []⟩ [] (by simp [updA]) (by simp [updA]) : Calls Try.prog 13 #[.pointer (some ⟨b, 0, none⟩), .int .i64 1] _ _)
  simp only [List.length_nil]
  clear hq hO4 HP3 hr hg
  go_wp2_with (fail)
  refine HP4.out.mono ?_
  rintro e w5 ⟨A', c', gp', rfl, hr, hA', hg, hO5⟩
  have hA5 := (HA4.out.only hO5 id).alloc (.cells #[.int .i64 0, .int .i64 4, .int .i64 0, .int .i64 0, .slice A' 0 c'] 31)
  have c1 := hA5.cell 1
  simp at c1
  have HO5 := Lib.hid (((HO4.out.alloc (.cells #[.int .i64 0, .int .i64 3, .int .i64 0, .int .i64 0, .slice A 0 c] 31)).trans hO5).alloc (.cells #[.int .i64 0, .int .i64 4, .int .i64 0, .int .i64 0, .slice A' 0 c'] 31))
  have HQ5 := Lib.hid ((HQ4.out.quiet hO5).quiet ((Only.refl _ _).alloc (.cells #[.int .i64 0, .int .i64 4, .int .i64 0, .int .i64 0, .slice A' 0 c'] 31)))
  have HL := Lib.hid (qi_len 1 HQ5.out (by omega) : Calls Try.prog 12 #[.pointer (some ⟨b, 0, none⟩), .int .i64 1] _ _)
  simp only [List.length_nil]
  clear hA5 hO5 hr hg HP4
  go_wp2_with (fail)
  refine HL.out.mono ?_
  rintro e w6 ⟨rfl, rfl⟩
  go_wp2
  go_ret
  exact ⟨by simp [updA], HO5.out⟩
end Go.Proofs.Ytgaikacjophngaa
