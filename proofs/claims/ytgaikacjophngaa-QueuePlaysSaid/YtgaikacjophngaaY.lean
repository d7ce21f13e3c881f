/- Queue: the queues told by their jobs, with a word on where they lie; QueueOwn, walked. -/
import Derived.Test.YtgaikacjophngaaO
import Derived.BigQuiet
namespace Go.Proofs.Ytgaikacjophngaa
open Go.RowKit

def QJ (P : Nat → Prop) (w : World) (b chans : Nat) (a : Nat → List Jb) : Prop :=
  ∃ q, QAt w b chans q ∧ (∀ i, i < 4 → (q i).js.map SJ.j = a i) ∧ ∀ i, QS b q i ∨ QP q i → P i

theorem QI.toJ {B : Nat} {w : World} {b chans : Nat} {a : Nat → List Jb} (h : QI B w b chans a) : QJ (fun i => B ≤ i) w b chans a := h

section
variable {P : Nat → Prop} {w w' : World} {b chans : Nat} {a : Nat → List Jb}
theorem QJ.only {S : Nat → Prop} (h : QJ P w b chans a) (k : Only S w w') (hS : ∀ i, P i → ¬ S i) : QJ P w' b chans a := by
  obtain ⟨q, h1, h2, h3⟩ := h
  exact ⟨q, h1.only k (fun i hi => hS i (h3 i (.inl hi))) (fun i hi => hS i (h3 i (.inr hi))), h2, h3⟩
theorem QJ.quiet (h : QJ P w b chans a) (k : Only (fun _ => False) w w') : QJ P w' b chans a := h.only k (fun _ _ => id)
theorem QJ.mono {P' : Nat → Prop} (h : QJ P w b chans a) (hp : ∀ i, i < w.heap.size → P i → P' i) : QJ P' w b chans a := by
  obtain ⟨q, h1, h2, h3⟩ := h
  refine ⟨q, h1, h2, fun i hi => hp i ?_ (h3 i hi)⟩
  rcases hi with hi | hi
  · exact h1.lt hi
  · obtain ⟨cs, hc⟩ := h1.tyP hi
    exact hc.lt
theorem QJ.hc (h : QJ P w b chans a) : 1 ≤ chans ∧ chans ≤ 4 := by
  obtain ⟨q, h1, _⟩ := h
  exact h1.hc

theorem qj_first (n : Nat) (h : QJ P w b chans a) (hn : n < chans) (j : Jb) (r : List Jb) (hj : a n = j :: r) (hl : (a n).length ≤ 100000) :
    Calls Try.prog 13 #[.pointer (some ⟨b, 0, none⟩), .int .i64 n] w (FirstPost j w) := by
  obtain ⟨q, h1, h2, h3⟩ := h
  have e := h2 n (by have := h1.hc; omega)
  obtain ⟨s, t, h4, rfl, h5⟩ := head_of (e.trans hj)
  refine first_some b chans q n hn s t h4 w h1 ?_
  rw [← e] at hl; simpa using hl

def PopPostJ (P : Nat → Prop) (b chans : Nat) (a : Nat → List Jb) (n : Nat) (j : Jb) (r : List Jb) (w : World) (e : Ending) (w' : World) : Prop :=
  ∃ A c gp, e = .returned (.tuple #[.agg #[.int .i64 j.k, .int .i64 j.l, .int .i64 j.u, .int .i64 j.p, .slice A j.pos.length c], .bool true]) ∧ RowAt w' A j.pos.length c gp 3 1 (iv j.pos) ∧ A ≠ none ∧ w.heap.size ≤ gp ∧
    QJ P w' b chans (updA a n r) ∧ Only P w w'

theorem qj_pop (n : Nat) (h : QJ P w b chans a) (hn : n < chans) (j : Jb) (r : List Jb) (hj : a n = j :: r) (hl : (a n).length ≤ 100000) :
    Calls Try.prog 11 #[.pointer (some ⟨b, 0, none⟩), .int .i64 n] w (PopPostJ P b chans a n j r w) := by
  obtain ⟨q, h1, h2, h3⟩ := h
  have hc := h1.hc
  have e := h2 n (by omega)
  obtain ⟨s, t, h4, rfl, h5⟩ := head_of (e.trans hj)
  refine (pop_some b chans q n hn s t h4 w h1 (by rw [← e] at hl; simpa using hl)).mono ?_
  rintro e' w' ⟨A, c, gp, r', rfl, p1, p2, p3, p4, p5, p6, p7, p8⟩
  refine ⟨A, c, gp, rfl, p1, p2, p3, ⟨_, p4, fun i hi => ?_, ?_⟩, p8.mono (fun i _ hi => by subst hi; exact h3 _ (.inl (.inl rfl)))⟩
  · by_cases hin : i = n
    · subst hin; rw [upd_self, p5]; simp [updA, h5]
    · rw [upd_ne _ _ _ _ hin]; simp [updA, hin, h2 i hi]
  · rintro i ((rfl | ⟨k, hk, hA, rfl⟩) | ⟨k, hk, x, hx, hA, rfl⟩)
    · exact h3 _ (.inl (.inl rfl))
    · by_cases hkn : k = n
      · subst hkn; rw [upd_self, p6]; exact h3 _ (.inl (.inr ⟨k, hk, p7, rfl⟩))
      · rw [upd_ne _ _ _ _ hkn] at hA ⊢; exact h3 _ (.inl (.inr ⟨k, hk, hA, rfl⟩))
    · by_cases hkn : k = n
      · subst hkn; rw [upd_self, p5] at hx
        exact h3 _ (.inr ⟨k, hk, x, by rw [h4]; simp [hx], hA, rfl⟩)
      · rw [upd_ne _ _ _ _ hkn] at hx; exact h3 _ (.inr ⟨k, hk, x, hx, hA, rfl⟩)

theorem qj_put (n : Nat) (h : QJ P w b chans a) (hB : ∀ i, w.heap.size ≤ i → P i) (hn : n < chans) (k l u p : Int) (pos : List Int) (A : Option Addr) (c gs : Nat) (hr : Rd w gs A (iv pos)) (hpl : pos.length ≤ 1000000) (hl : (a n).length ≤ 100000) :
    Calls Try.prog 10 #[.pointer (some ⟨b, 0, none⟩), .int .i64 n, .agg #[.int .i64 k, .int .i64 l, .int .i64 u, .int .i64 p, .slice A pos.length c]] w fun e w' =>
      e = .returned (.int .i64 0) ∧ QJ P w' b chans (updA a n (a n ++ [⟨k, l, u, p, pos⟩])) ∧ Only P w w' := by
  obtain ⟨q, h1, h2, h3⟩ := h
  have hc := h1.hc
  have e := h2 n (by omega)
  refine (put_in b chans q n hn k l u p pos A c gs w h1 hr hpl (by rw [← e] at hl; simpa using hl)).mono ?_
  rintro e' w' ⟨r', s, rfl, p1, p2, p3, p4, p5, p6, p7⟩
  refine ⟨rfl, ⟨_, p1, fun i hi => ?_, ?_⟩, p7.mono (fun i _ hi => ?_)⟩
  · by_cases hin : i = n
    · subst hin; rw [upd_self, p2]; simp [updA, e, p3]
    · rw [upd_ne _ _ _ _ hin]; simp [updA, hin, h2 i hi]
  · rintro i ((rfl | ⟨m, hm, hA, rfl⟩) | ⟨m, hm, x, hx, hA, rfl⟩)
    · exact h3 _ (.inl (.inl rfl))
    · by_cases hkn : m = n
      · subst hkn; rw [upd_self]
        rcases p5 with ⟨q1, q2⟩ | q2
        · rw [q2]; exact h3 _ (.inl (.inr ⟨m, hm, q1, rfl⟩))
        · exact hB _ q2
      · rw [upd_ne _ _ _ _ hkn] at hA ⊢; exact h3 _ (.inl (.inr ⟨m, hm, hA, rfl⟩))
    · by_cases hkn : m = n
      · subst hkn; rw [upd_self, p2] at hx
        rcases List.mem_append.1 hx with hx | hx
        · exact h3 _ (.inr ⟨m, hm, x, hx, hA, rfl⟩)
        · simp at hx; subst hx; exact hB _ p6
      · rw [upd_ne _ _ _ _ hkn] at hx; exact h3 _ (.inr ⟨m, hm, x, hx, hA, rfl⟩)
  · rcases hi with rfl | ⟨q1, rfl⟩
    · exact h3 _ (.inl (.inl rfl))
    · exact h3 _ (.inl (.inr ⟨n, by omega, q1, rfl⟩))
end

/-- Cell m of a row of numbers. -/
theorem row_cell {w : World} {A : Option Addr} {n c g : Nat} {l : List Int} {m : Nat} (h : RowAt w A n c g 3 1 (iv l)) (hm : m < l.length) : ∃ off, A = some ⟨g, off, none⟩ ∧ w.cell? ⟨g, off + m, none⟩ = some (.int .i64 l[m]) ∧ w.frozen? ⟨g, off + m, none⟩ = false := by
  rcases h with ⟨_, _, _, h⟩ | ⟨off, cells, h1, h2, h3, h4, h5, h6, h7⟩
  · have := iv_len l; rw [h] at this; simp at this; omega
  · exact ⟨off, h1, (h2.cell _).trans (h7 m _ (iv_get l m hm)), h2.frozen _⟩
/-- A number stored into a row. -/
theorem row_set {w : World} {A : Option Addr} {n c g off : Nat} {l : List Int} {m : Nat} {z : Int} (h : RowAt w A n c g 3 1 (iv l)) (hA : A = some ⟨g, off, none⟩) (hm : m < l.length) :
    RowAt (w.setCell ⟨g, off + m, none⟩ (.int .i64 z)) A n c g 3 1 (iv (l.set m z)) := by
  rcases h with ⟨h, _⟩ | ⟨off', cells, h1, h2, h3, h4, h5, h6, h7⟩
  · rw [h] at hA; cases hA
  · rw [hA] at h1
    injection h1 with h1
    injection h1 with _ h1 _
    subst h1
    have hml : (iv l).length = l.length := iv_len l
    refine .inr ⟨off, cells.setIfInBounds (off + m) (.int .i64 z), hA, h2.set _ _, h3, h4, by simpa using h5, by rw [iv_len, List.length_set, ← hml, h6], fun j u hu => ?_⟩
    have hj : j < l.length := by have := (List.getElem?_eq_some_iff.1 hu).1; rw [iv_len, List.length_set] at this; exact this
    rw [iv_get _ _ (by rw [List.length_set]; exact hj)] at hu
    by_cases hjm : j = m
    · subst hjm
      rw [Array.getElem?_setIfInBounds_self_of_lt (by have : j < n * 1 := by omega
                                                      have h8 : n * 1 ≤ c * 1 := Nat.mul_le_mul_right _ h3
                                                      omega)]
      simpa using hu
    · rw [Array.getElem?_setIfInBounds_ne (by omega)]
      rw [List.getElem_set_ne (fun e => hjm e.symm)] at hu
      exact h7 j u (by rw [iv_get l j hj]; exact hu)

set_option maxRecDepth 100000 in
set_option maxHeartbeats 4000000 in
theorem queueOwn_walk (l : List Int) (g c : Nat) (A : Option Addr) (w : World) (hr : Rd w g A (iv l)) (hlen : l.length ≤ 9223372036854775807) :
    Calls Try.prog 4 #[.slice A l.length c] w fun e w' => e = .returned (.bool true) ∧ Below w.heap.size w w' := by
  have HR := Lib.hid hr
  clear hr
  have HN := Lib.hid (fun (w' : World) (h : w.heap.size ≤ w'.heap.size) => (qi_new 1 (by omega) (by omega) w.heap.size w' h : Calls Try.prog 9 #[.int .i64 1] w' _))
  by_cases hbig : 500 < l.length
  · have i1 : (500 : Int) < l.length := by omega
    go_enter Try.func4, Try.ntmps4
    go_wp2_with (fail)
    refine (awake_any _).mono ?_
    rintro e w1 ⟨rfl, hO⟩
    have HO := Lib.hid hO
    clear hO
    go_wp2_with (fail)
    refine (HN.out _ HO.out.size).mono ?_
    rintro e w2 ⟨b, rfl, hq, hO⟩
    have HO2 := Lib.hid (HO.out.trans hO)
    clear hq hO HO HN
    go_wp2
    go_ret
    exact ⟨rfl, HO2.out.below (Nat.le_refl _) (fun i hi h => h)⟩
  have i1 : (l.length : Int) ≤ 500 := by omega
  have i2 : l.length ≤ 500 := by omega
  clear hbig
  obtain ⟨i0, hi⟩ : ∃ i, Try.prog.info? 3 = some i := ⟨_, rfl⟩
  have hz0 : i0.zero = some (.int .i64 0) := by cases hi; rfl
  have hz1 : i0.size = 1 := by cases hi; rfl
  have hz2 : i0.bytes = 8 := by cases hi; rfl
  have HI := Lib.hid (And.intro hi (And.intro hz0 (And.intro hz1 hz2)))
  clear hi hz0 hz1 hz2
  go_enter Try.func4, Try.ntmps4
  go_wp2_with (fail)
  refine (awake_any _).mono ?_
  rintro e w1 ⟨rfl, hO⟩
  have HO := Lib.hid hO
  clear hO
  go_wp2_with (fail)
  refine (HN.out _ HO.out.size).mono ?_
  rintro e w2 ⟨b, rfl, hq, hO⟩
  have HO2 := Lib.hid (HO.out.trans hO)
  have HQ2 := Lib.hid hq
  clear hq hO HO HN
  have hown := ownsRow_fresh w2 3 1
  have HOWN := Lib.hid hown
  have HRa := Lib.hid ((HR.out.only HO2.out id).only ((Only.refl (fun _ => False) w2).alloc (.cells #[] 3)) id)
  clear hown
  go_wp2_with (at_builtin; go_loud (refine wpList_append_src _ rfl (.tmp 30) (.tmp 31) 22 rfl w2.heap.size 3 i0 (.int .i64 0) 1 8 Try.underlying22 HI.out.1 HI.out.2.1 HI.out.2.2.1 HI.out.2.2.2 rfl (by decide) (.slice (some ⟨w2.heap.size, 0, none⟩) 0 0) 0 [] rfl HOWN.out g A l.length c (iv l) rfl (by simp [iv]) HRa.out (iv_one l) (by unfold maxLen; omega) (by omega) (by simp) ?_); intro A1 c1 w3 hc1 hown1 hgrow1 hat1; have HOWN1 := Lib.hid hown1; have HAT := Lib.hid hat1; have HGR := Lib.hid hgrow1; clear hown1 hgrow1 hat1)
  have hGb : ∃ G, (w2.heap.size ≤ G ∧ G < w3.heap.size) ∧ RowAt w3 A1 l.length c1 G 3 1 (iv l) ∧ A1 ≠ none := by
    have hown1 := HOWN1.out
    obtain ⟨g', hg', hrow⟩ := ownsRow_rowAt hown1
    have hA1 : A1 ≠ none := by
      rintro rfl
      have := HAT.out
      simp [Value.ownBlock] at this
    simp only [Nat.zero_add, List.nil_append] at hrow
    exact ⟨g', ⟨hg' hA1, hrow.lt hA1⟩, hrow, hA1⟩
  obtain ⟨G, hG, hrow, hA1⟩ := hGb
  have HO3 := Lib.hid ((HO2.out.alloc (.cells #[] 3)).grown HGR.out (S := fun _ => False) (by intro i hi e; simp [Value.ownBlock] at e; have := HO2.out.size; omega))
  have hq3 : QJ (fun i => w.heap.size ≤ i ∧ i ≠ G) w3 b 1 (fun _ => []) := by
    have h1 := HQ2.out.toJ.mono (P' := fun i => w.heap.size ≤ i ∧ i ≠ G ∧ i < w2.heap.size) (fun i hi h => ⟨h, by omega, hi⟩)
    have h2 := h1.quiet ((Only.refl (fun _ => False) w2).alloc (.cells #[] 3))
    have h3 := h2.only (Only.of_grown HGR.out) (fun i hi e => by simp [Value.ownBlock] at e; omega)
    exact h3.mono (fun i _ h => ⟨h.1, h.2.1⟩)
  have HQ3 := Lib.hid hq3
  have HROW := Lib.hid hrow
  have hs23 := HO3.out.size
  have HP := Lib.hid (qj_put 0 HQ3.out (fun i hi => ⟨by omega, by omega⟩) (by omega) 0 0 0 0 l A1 c1 G HROW.out.rd (by omega) (by simp) : Calls Try.prog 10 #[.pointer (some ⟨b, 0, none⟩), .int .i64 0, .agg #[.int .i64 0, .int .i64 0, .int .i64 0, .int .i64 0, .slice A1 l.length c1]] w3 _)
  clear hrow hq3 HOWN HOWN1 HAT HGR HRa HQ2 HI
  have d500 : decide (500 < (l.length : Int)) = false := by simp; omega
  simp only [d500]
  refine HP.out.mono ?_
  rintro e w4 ⟨rfl, hq, hO⟩
  have HQ4 := Lib.hid hq
  have HO4 := Lib.hid (HO3.out.trans' hO (S := fun _ => False) (fun i hi h => by omega))
  have HROW4 := Lib.hid (HROW.out.only hO (fun _ h => h.2 rfl))
  clear hq hO HP HROW HQ3
  go_wp2_with (fail)
  go_loopw [7] (fun v wr => ∃ (m : Nat) (l' : List Int), m ≤ l.length ∧ l'.length = l.length ∧ v = .int .i64 m ∧ RowAt wr A1 l.length c1 G 3 1 (iv l') ∧ Only (fun i => i = G) w4 wr) (fun v wr => (l.length - intOf v).toNat)
  case atStart => exact ⟨0, l, by omega, rfl, rfl, HROW4.out, Only.refl _ _⟩
  case round =>
    obtain ⟨m, l', hm, hl', rfl, hrow, hOm⟩ := hrel
    have HROWm := Lib.hid hrow
    have HOm := Lib.hid hOm
    clear hrow hOm
    by_cases hml : m < l.length
    · have j1 : (m : Int) < l.length := by omega
      have j0 : (0 : Int) ≤ m := by omega
      obtain ⟨off, hA, hc, hf⟩ := row_cell HROWm.out (by omega : m < l'.length)
      have hset := fun z => row_set (z := z) HROWm.out hA (by omega : m < l'.length)
      have HSET := Lib.hid hset
      clear hset
      rw [hA]
      rw [hA] at HROWm HSET HROW4
      clear hA hA1
      generalize l'[m] = z at *
      go_wp2
      go_roundw
      case rel =>
        exact ⟨m + 1, _, by omega, by simpa using hl', by simp, HSET.out _, HOm.out.setCell (p := ⟨G, off + m, none⟩) (fun _ => rfl) _⟩
      case measure => simp [intOf]; omega
    · obtain rfl : m = l.length := by omega
      have hq5 := HQ4.out.only HOm.out (fun i h e => h.2 e)
      have HQ5 := Lib.hid (hq5.mono (P' := fun i => w.heap.size ≤ i ∧ i < wr.heap.size) (fun i hi h => ⟨h.1, hi⟩))
      have HO5 := Lib.hid (HO4.out.trans' HOm.out (S := fun _ => False) (fun i hi h => by have := HO2.out.size; omega))
      have HF := Lib.hid (qj_first 0 HQ5.out (by omega) ⟨0, 0, 0, 0, l⟩ [] (by simp [updA]) (by simp [updA]) : Calls Try.prog 13 #[.pointer (some ⟨b, 0, none⟩), .int .i64 0] _ _)
      clear hq5 HQ4 HOm HROWm HROW4 HO4 HO3
      go_wp2_with (fail)
      refine HF.out.mono ?_
      rintro e w5 ⟨A2, c2, gp, rfl, hr2, hA2, hg2, hO⟩
      have HO6 := Lib.hid ((HO5.out.trans hO).alloc (.cells #[.int .i64 0, .int .i64 0, .int .i64 0, .int .i64 0, .slice A2 l.length c2] 31))
      have HQ6 := Lib.hid ((HQ5.out.quiet hO).quiet ((Only.refl _ _).alloc (.cells #[.int .i64 0, .int .i64 0, .int .i64 0, .int .i64 0, .slice A2 l.length c2] 31)))
      have HR6 := Lib.hid (hr2.only ((Only.refl (fun _ => False) _).alloc (.cells #[.int .i64 0, .int .i64 0, .int .i64 0, .int .i64 0, .slice A2 l.length c2] 31)) (fun _ => id))
      have HA6 := Lib.hid (At.new w5 31 #[.int .i64 0, .int .i64 0, .int .i64 0, .int .i64 0, .slice A2 l.length c2])
      have hgp5 := hr2.lt hA2
      have x4 : (w5.alloc (.cells #[.int .i64 0, .int .i64 0, .int .i64 0, .int .i64 0, .slice A2 l.length c2] 31)).cell? ⟨w5.heap.size, 4, none⟩ = some (.slice A2 l.length c2) := HA6.out.cell 4
      have hll : ((l.length : Int) != (l.length : Int)) = false := by simp
      have hwg : w.heap.size ≤ gp := by have := HO5.out.size; omega
      have hwg5 : w.heap.size ≤ w5.heap.size := by omega
      clear hr2 hO HF HQ5 HO5
      go_wp2_with (fail)
      clear x4 hll
      generalize hw6 : w5.alloc (.cells #[.int .i64 0, .int .i64 0, .int .i64 0, .int .i64 0, .slice A2 l.length c2] 31) = w6 at *
      clear hw6
      go_loopw [10] (fun v wr => ∃ (m : Nat) (l' : List Int), m ≤ l.length ∧ l'.length = l.length ∧ v = .int .i64 m ∧ (∀ j, m ≤ j → l'[j]? = l[j]?) ∧ RowAt wr A2 l.length c2 gp 3 1 (iv l') ∧ Only (fun i => i = gp) w6 wr) (fun v wr => (l.length - intOf v).toNat)
      case atStart => exact ⟨0, l, by omega, rfl, rfl, fun _ _ => rfl, HR6.out, Only.refl _ _⟩
      case round =>
        obtain ⟨m, l', hm, hl', rfl, hsame, hrow, hOm⟩ := hrel
        have x4 : wr.cell? ⟨w5.heap.size, 4, none⟩ = some (.slice A2 l.length c2) := (HA6.out.only hOm (by omega)).cell 4
        have HROWm := Lib.hid hrow
        have HOm := Lib.hid hOm
        have HX := Lib.hid (HA6.out.only hOm (by omega))
        have HSAME := Lib.hid hsame
        clear hrow hOm hsame
        by_cases hml : m < l.length
        · have j1 : (m : Int) < l.length := by omega
          have j0 : (0 : Int) ≤ m := by omega
          obtain ⟨off, hA, hc, hf⟩ := row_cell HROWm.out (by omega : m < l'.length)
          have hset := fun z => row_set (z := z) HROWm.out hA (by omega : m < l'.length)
          have HSET := Lib.hid hset
          have hmm : l'[m]'(by omega) = l[m] := by
            have := HSAME.out m (Nat.le_refl _)
            rw [List.getElem?_eq_getElem (by omega), List.getElem?_eq_getElem hml] at this
            simpa using this
          have hne : iv l ≠ [] := by
            intro e
            have := iv_len l
            rw [e] at this; simp at this; omega
          obtain ⟨offa, hAa, hlt, hget⟩ := HR.out.at hne
          have ca : wr.cell? ⟨g, offa + m, none⟩ = some (.int .i64 l[m]) := (HOm.out.cell (p := ⟨g, offa + m, none⟩) (by have := HO6.out.size; simp; omega) (by simp; omega)).trans ((HO6.out.cell (p := ⟨g, offa + m, none⟩) hlt id).trans (hget m _ (iv_get l m hml)))
          rw [hmm] at hc
          have hx : gp ≠ w5.heap.size := by omega
          have HAa := Lib.hid hAa
          rw [hA] at x4 HROWm HSET HX HA6 HR6 ⊢
          rw [hAa]
          clear hset hA hAa hget hmm
          generalize hz : l[m] = z at *
          have zz : (z != z) = false := by simp
          go_wp2_with (fail)
          go_region
          go_wp2_with (fail)
          go_region
          go_wp2
          go_roundw
          case rel =>
            refine ⟨m + 1, _, by omega, by simpa using hl', by simp, ?_, (HSET.out _).only (S := fun _ => False) ((Only.refl _ _).drewN 2) (fun _ => id), (HOm.out.setCell (p := ⟨gp, off + m, none⟩) (fun _ => rfl) _).drewN 2⟩
            intro j hj
            rw [List.getElem?_set_ne (by omega)]
            exact HSAME.out j (by omega)
          case measure => simp [intOf]; omega
        · obtain rfl : m = l.length := by omega
          have HQ7 := Lib.hid ((HQ6.out.mono (P' := fun i => w.heap.size ≤ i ∧ i ≠ gp ∧ True) (fun i hi h => ⟨h.1, by omega, trivial⟩)).only HOm.out (fun i h e => h.2.1 e))
          have HO7 := Lib.hid (HO6.out.trans' HOm.out (S := fun _ => False) (fun i hi h => by omega))
          have HP7 := Lib.hid (qj_pop 0 HQ7.out (by omega) ⟨0, 0, 0, 0, l⟩ [] (by simp [updA]) (by simp [updA]) : Calls Try.prog 11 #[.pointer (some ⟨b, 0, none⟩), .int .i64 0] _ _)
          clear HQ6 HOm HROWm HSAME HX x4 HR6 HA6
          go_wp2_with (fail)
          refine HP7.out.mono ?_
          rintro e w8 ⟨A3, c3, gp3, rfl, hr3, hA3, hg3, _, hO⟩
          have HO8 := Lib.hid ((HO7.out.trans' hO (S := fun _ => False) (fun i hi h => by omega)).alloc (.cells #[.int .i64 0, .int .i64 0, .int .i64 0, .int .i64 0, .slice A3 l.length c3] 31))
          have HR8 := Lib.hid (hr3.only ((Only.refl (fun _ => False) _).alloc (.cells #[.int .i64 0, .int .i64 0, .int .i64 0, .int .i64 0, .slice A3 l.length c3] 31)) (fun _ => id))
          have HS := Lib.hid (same_true 0 0 0 0 l A3 A c3 c gp3 g _ HR8.out.rd (HR.out.only HO8.out id) (by omega))
          clear hr3 hO HP7
          go_wp2_with (fail)
          refine HS.out.mono ?_
          rintro e w9 ⟨rfl, hO⟩
          have HO9 := Lib.hid (HO8.out.trans hO)
          clear hO
          go_wp2
          go_ret
          exact ⟨rfl, HO9.out.below (Nat.le_refl _) (fun i hi h => h)⟩
end Go.Proofs.Ytgaikacjophngaa
