/- Victim: the stable sort. -/
import Derived.Test.YtbcjpchjidgpeaaO
namespace Go.Proofs.Ytbcjpchjidgpeaa
open Go.RowKit

/-- A run that is sorted and holds what the same run of d0 held. -/
def Good (l : List Ln) (d0 d : List Nat) (u e : Nat) : Prop := So l d u e ∧ ∀ p, u ≤ p → p < e → ∃ q, u ≤ q ∧ q < e ∧ ix d p = ix d0 q
theorem Good.keep {l : List Ln} {d0 d d' : List Nat} {u e a b : Nat} (h : Good l d0 d u e) (f : Fr d d' a b) (hd : e ≤ a ∨ b ≤ u) : Good l d0 d' u e :=
  ⟨fun p q p1 p2 p3 => by rw [f.out p (by omega), f.out q (by omega)]; exact h.1 p q p1 p2 p3, fun p p1 p2 => by rw [f.out p (by omega)]; exact h.2 p p1 p2⟩
theorem Good.none {l : List Ln} {d0 d : List Nat} {u e : Nat} (h : e ≤ u) : Good l d0 d u e := ⟨fun p q p1 p2 p3 => by omega, fun p p1 p2 => by omega⟩
theorem Good.ins {l : List Ln} {d0 d d' : List Nat} {a b : Nat} (f : Fr d d' a b) (s : So l d' a b) (h : ∀ p, a ≤ p → p < b → ix d p = ix d0 p) : Good l d0 d' a b :=
  ⟨s, fun p p1 p2 => by
    obtain ⟨q, q1, q2, q3⟩ := f.inn p p1 p2
    exact ⟨q, q1, q2, q3.trans (h q q1 q2)⟩⟩
theorem Good.merge {l : List Ln} {d0 d d' : List Nat} {a m b : Nat} (f : Fr d d' a b) (s : So l d' a b) (h1 : Good l d0 d a m) (h2 : Good l d0 d m b) (hm : a ≤ m ∧ m ≤ b) : Good l d0 d' a b :=
  ⟨s, fun p p1 p2 => by
    obtain ⟨q, q1, q2, q3⟩ := f.inn p p1 p2
    by_cases hq : q < m
    · obtain ⟨r, r1, r2, r3⟩ := h1.2 q q1 hq
      exact ⟨r, r1, by omega, q3.trans r3⟩
    · obtain ⟨r, r1, r2, r3⟩ := h2.2 q (by omega) q2
      exact ⟨r, by omega, r2, q3.trans r3⟩⟩
theorem Good.xo {l : List Ln} {d0 d : List Nat} {n a m b : Nat} (hA : Asc d0 0 n) (h1 : Good l d0 d a m) (h2 : Good l d0 d m b) (hb : b ≤ n) : Xo d a m b := fun p q p1 p2 q1 q2 => by
  obtain ⟨r, r1, r2, r3⟩ := h1.2 p p1 p2
  obtain ⟨s, s1, s2, s3⟩ := h2.2 q q1 q2
  rw [r3, s3]
  exact hA r s (by omega) (by omega) (by omega)
/-- All runs of s places are good. -/
def Lv (l : List Ln) (d0 d : List Nat) (n s : Nat) : Prop := ∀ k, Good l d0 d (k * s) (min (k * s + s) n)
/-- The first t runs of s places are good, behind them nothing has changed. -/
structure L1 (l : List Ln) (d0 d : List Nat) (n s t : Nat) : Prop where
  perm : d.Perm d0
  le : t * s ≤ n
  front : ∀ k, k < t → Good l d0 d (k * s) (k * s + s)
  rest : ∀ p, t * s ≤ p → ix d p = ix d0 p
theorem mul_far {k t s : Nat} (h : k < t) : k * s + s ≤ t * s := by
  have : (k + 1) * s ≤ t * s := Nat.mul_le_mul_right _ h
  rwa [Nat.succ_mul] at this
theorem L1.step {l : List Ln} {d0 d d' : List Nat} {n s t : Nat} (h : L1 l d0 d n s t) (hn : t * s + s ≤ n) (f : Fr d d' (t * s) (t * s + s)) (o : So l d' (t * s) (t * s + s)) : L1 l d0 d' n s (t + 1) := by
  refine ⟨f.perm.trans h.perm, by rw [Nat.succ_mul]; exact hn, fun k hk => ?_, fun p hp => ?_⟩
  · by_cases e : k = t
    · subst e; exact Good.ins f o (fun p p1 _ => h.rest p p1)
    · exact (h.front k (by omega)).keep f (.inl (mul_far (by omega)))
  · rw [Nat.succ_mul] at hp
    rw [f.out p (by omega)]; exact h.rest p (by omega)
theorem L1.stop {l : List Ln} {d0 d d' : List Nat} {n s t : Nat} (h : L1 l d0 d n s t) (hn : n < t * s + s) (f : Fr d d' (t * s) n) (o : So l d' (t * s) n) : Lv l d0 d' n s := by
  intro k
  have := h.le
  rcases Nat.lt_trichotomy k t with hk | hk | hk
  · have hf := mul_far (s := s) hk
    rw [show min (k * s + s) n = k * s + s by omega]
    exact (h.front k hk).keep f (.inl hf)
  · subst hk
    rw [show min (k * s + s) n = n by omega]
    exact Good.ins f o (fun p p1 _ => h.rest p p1)
  · have hf := mul_far (s := s) hk
    exact Good.none (by omega)
/-- The first t runs of 2 s places are good, behind them all runs of s places. -/
structure L2 (l : List Ln) (d0 d : List Nat) (n s t : Nat) : Prop where
  perm : d.Perm d0
  le : t * (2 * s) ≤ n
  front : ∀ k, k < t → Good l d0 d (k * (2 * s)) (k * (2 * s) + 2 * s)
  rest : ∀ k, Good l d0 d (t * (2 * s) + k * s) (min (t * (2 * s) + k * s + s) n)
theorem L2.start {l : List Ln} {d0 d : List Nat} {n s : Nat} (hp : d.Perm d0) (h : Lv l d0 d n s) : L2 l d0 d n s 0 :=
  ⟨hp, by omega, fun k hk => by omega, fun k => by
    have := h k
    rwa [show 0 * (2 * s) + k * s = k * s by omega]⟩
theorem L2.two {l : List Ln} {d0 d : List Nat} {n s t : Nat} (h : L2 l d0 d n s t) : Good l d0 d (t * (2 * s)) (min (t * (2 * s) + s) n) ∧ Good l d0 d (t * (2 * s) + s) (min (t * (2 * s) + s + s) n) := by
  have h0 := h.rest 0
  have h1 := h.rest 1
  rw [Nat.zero_mul, Nat.add_zero] at h0
  rw [Nat.one_mul] at h1
  exact ⟨h0, h1⟩
theorem L2.step {l : List Ln} {d0 d d' : List Nat} {n s t : Nat} (h : L2 l d0 d n s t) (hn : t * (2 * s) + 2 * s ≤ n) (f : Fr d d' (t * (2 * s)) (t * (2 * s) + 2 * s)) (o : So l d' (t * (2 * s)) (t * (2 * s) + 2 * s)) : L2 l d0 d' n s (t + 1) := by
  obtain ⟨g1, g2⟩ := h.two
  rw [show min (t * (2 * s) + s) n = t * (2 * s) + s by omega] at g1
  rw [show min (t * (2 * s) + s + s) n = t * (2 * s) + 2 * s by omega] at g2
  have hG := Good.merge f o g1 g2 (by omega)
  refine ⟨f.perm.trans h.perm, by rw [Nat.succ_mul]; exact hn, fun k hk => ?_, fun k => ?_⟩
  · by_cases e : k = t
    · subst e; exact hG
    · exact (h.front k (by omega)).keep f (.inl (mul_far (by omega)))
  · have := h.rest (k + 2)
    rw [Nat.add_mul] at this
    rw [Nat.succ_mul, show t * (2 * s) + 2 * s + k * s = t * (2 * s) + (k * s + 2 * s) by omega]
    exact this.keep f (.inr (by omega))
theorem L2.stop1 {l : List Ln} {d0 d d' : List Nat} {n s t : Nat} (h : L2 l d0 d n s t) (hn : n < t * (2 * s) + 2 * s) (hm : t * (2 * s) + s < n) (f : Fr d d' (t * (2 * s)) n) (o : So l d' (t * (2 * s)) n) : Lv l d0 d' n (2 * s) := by
  obtain ⟨g1, g2⟩ := h.two
  rw [show min (t * (2 * s) + s) n = t * (2 * s) + s by omega] at g1
  rw [show min (t * (2 * s) + s + s) n = n by omega] at g2
  have hG := Good.merge f o g1 g2 (by omega)
  intro k
  rcases Nat.lt_trichotomy k t with hk | hk | hk
  · have hf := mul_far (s := 2 * s) hk
    rw [show min (k * (2 * s) + 2 * s) n = k * (2 * s) + 2 * s by omega]
    exact (h.front k hk).keep f (.inl hf)
  · subst hk
    rw [show min (k * (2 * s) + 2 * s) n = n by omega]
    exact hG
  · have hf := mul_far (s := 2 * s) hk
    exact Good.none (by omega)
theorem L2.stop2 {l : List Ln} {d0 d : List Nat} {n s t : Nat} (h : L2 l d0 d n s t) (hn : n < t * (2 * s) + 2 * s) (hm : n ≤ t * (2 * s) + s) : Lv l d0 d n (2 * s) := by
  obtain ⟨g1, _⟩ := h.two
  rw [show min (t * (2 * s) + s) n = n by omega] at g1
  have hle := h.le
  intro k
  rcases Nat.lt_trichotomy k t with hk | hk | hk
  · have hf := mul_far (s := 2 * s) hk
    rw [show min (k * (2 * s) + 2 * s) n = k * (2 * s) + 2 * s by omega]
    exact h.front k hk
  · subst hk
    rw [show min (k * (2 * s) + 2 * s) n = n by omega]
    exact g1
  · have hf := mul_far (s := 2 * s) hk
    exact Good.none (by omega)
theorem perm_fr {d d' : List Nat} {n : Nat} (hn : d.length = n) (h : d'.Perm d) : Fr d d' 0 n := by
  have hl := h.length_eq
  refine ⟨fun p hp => ?_, fun p _ hp => ?_, h⟩
  · have hp : n ≤ p := by omega
    simp only [ix, List.getD]
    rw [List.getElem?_eq_none (by omega), List.getElem?_eq_none (by omega)]
  · have hm : ix d' p ∈ d := h.mem_iff.1 (by
      simp only [ix, List.getD, List.getElem?_eq_getElem (show p < d'.length by omega), Option.getD_some]
      exact List.getElem_mem _)
    obtain ⟨q, hq, he⟩ := List.getElem_of_mem hm
    exact ⟨q, by omega, by omega, by rw [← he]; simp [ix, List.getD, hq]⟩

set_option maxRecDepth 100000 in
set_option maxHeartbeats 16000000 in
theorem stable_any (l : List Ln) (x : Nat) (A : Option Addr) (c g : Nat) (d : List Nat) (n : Nat) (hn : d.length = n) (w : World) (h : RowAt w A n c g 3 1 (nv d)) (hC : Cmp l x g w) (hBd : Bd l d) (hA : Asc d 0 n) (h4 : n ≤ 100000) :
    Calls Try.prog 24 #[.slice A n c, .int .i64 n, .func (.func 21) #[] #[.pointer (some ⟨x, 0, none⟩)]] w (SortP l A c g n d 0 n w) := by
  have HR := Lib.hid h
  have HN := Lib.hid hn
  have HC := Lib.hid hC
  have HBD := Lib.hid hBd
  have HA := Lib.hid hA
  have HB2 : Hid (∀ e : List Nat, e.Perm d → e.length = n ∧ Bd l e) := Lib.hid (fun e he => ⟨by rw [he.length_eq, hn], fun z hz => hBd z (he.mem_iff.1 hz)⟩)
  clear hn h hC hBd hA
  unfold SortP
  go_enter Try.func24, Try.ntmps24
  go_wp2_with (fail)
  go_loopw [7, 8] (fun v7 v8 wr => ∃ (t a : Nat) (e : List Nat), a = t * 20 ∧ v7 = .int .i64 (a : Int) ∧ v8 = .int .i64 ((a : Int) + 20) ∧ L1 l d e n 20 t ∧ RowAt wr A n c g 3 1 (nv e) ∧ Only (fun i => i = g) w wr) (fun v7 _ _ => (n + 20 - intOf v7).toNat)
  case atStart => exact ⟨0, 0, d, rfl, rfl, rfl, ⟨List.Perm.refl _, by omega, fun k hk => by omega, fun p _ => rfl⟩, HR.out, Only.refl _ _⟩
  case round =>
    obtain ⟨t, a, e, ha, rfl, rfl, hL, hrow, hO⟩ := hrel
    have HL := Lib.hid hL
    have HO := Lib.hid hO
    have HROW := Lib.hid hrow
    have HTA := Lib.hid ha
    have hle := hL.le
    rw [← ha] at hle
    obtain ⟨hel, hbe⟩ := HB2.out e hL.perm
    have HEL := Lib.hid hel
    have HBE := Lib.hid hbe
    have hasc : ∀ b, b ≤ n → Asc e a b := fun b hb p q p1 p2 p3 => by
      rw [hL.rest p (by omega), hL.rest q (by omega)]
      exact HA.out p q (by omega) p2 (by omega)
    have HASC := Lib.hid hasc
    clear hL hO hrow ha hel hbe hasc
    by_cases hb : a + 20 ≤ n
    · have i1 : (a : Int) + 20 ≤ n := by omega
      have HI := Lib.hid (ins_any l x A c g e a (a + 20) n HEL.out wr HROW.out (HC.out.next HO.out) HBE.out (HASC.out _ hb) (by omega) hb h4)
      rw [Int.natCast_add] at HI
      go_wp2_with (fail)
      refine HI.out.mono ?_
      rintro e2 w1 ⟨e', rfl, hf, ho, hr1, hO1⟩
      have hL' := HL.out.step (by rw [← HTA.out]; exact hb) (by rw [← HTA.out]; exact hf) (by rw [← HTA.out]; exact ho)
      have HF := Lib.hid (And.intro hL' (And.intro hr1 (HO.out.trans hO1)))
      clear hf ho hr1 hO1 hL'
      go_wp2
      go_roundw
      case rel => exact ⟨t + 1, a + 20, e', by have := HTA.out; omega, by simp, by simp, HF.out.1, HF.out.2.1, HF.out.2.2⟩
      case measure => simp [intOf]; omega
    · have i1 : ¬ (a : Int) + 20 ≤ n := by omega
      have HI := Lib.hid (ins_any l x A c g e a n n HEL.out wr HROW.out (HC.out.next HO.out) HBE.out (HASC.out _ (Nat.le_refl _)) hle (Nat.le_refl _) h4)
      go_wp2_with (fail)
      refine HI.out.mono ?_
      rintro e2 w1 ⟨e', rfl, hf, ho, hr1, hO1⟩
      have hL' : Lv l d e' n 20 := HL.out.stop (by rw [← HTA.out]; omega) (by rw [← HTA.out]; exact hf) (by rw [← HTA.out]; exact ho)
      have HLV := Lib.hid hL'
      have HP1 := Lib.hid (hf.perm.trans HL.out.perm)
      have HR1 := Lib.hid hr1
      have HO1 := Lib.hid (HO.out.trans hO1)
      clear hf ho hr1 hO1 hL' HL HO HROW HTA HASC HEL HBE HI
      obtain ⟨w0, hw0⟩ : ∃ w0, w0 = w := ⟨_, rfl⟩
      subst hw0
      go_wp2_with (fail)
      go_loopw [6, 7, 8, 9] (fun v6 v7 v8 v9 wr => ∃ (s : Nat) (e : List Nat), 20 ≤ s ∧ s ≤ 2 * n + 20 ∧ v6 = .int .i64 s ∧ e.Perm d ∧ Lv l d e n s ∧ RowAt wr A n c g 3 1 (nv e) ∧ Only (fun i => i = g) w0 wr) (fun v6 _ _ _ _ => (n - intOf v6).toNat)
      case atStart => exact ⟨20, e', by omega, by omega, rfl, HP1.out, HLV.out, HR1.out, HO1.out⟩
      case round =>
        obtain ⟨s, e, hs1, hs2, rfl, hp, hlv, hrow, hO⟩ := hrel
        have HP := Lib.hid hp
        have HLV2 := Lib.hid hlv
        have HROW := Lib.hid hrow
        have HO := Lib.hid hO
        clear hp hlv hrow hO HP1 HLV HR1 HO1
        by_cases hsn : s < n
        case neg =>
          have i2 : ¬ (s : Int) < n := by omega
          have hG := HLV2.out 0
          rw [Nat.zero_mul, show min (0 + s) n = n by omega] at hG
          have HF := Lib.hid (And.intro (perm_fr HN.out HP.out) hG.1)
          clear hG
          go_wp2
          refine bodyPost_end (results_none rfl _ _ _) rfl ?_
          first
            | exact ⟨rfl, e, HF.out.1, HF.out.2, HROW.out, HO.out⟩
            | exact ⟨e, rfl, HF.out.1, HF.out.2, HROW.out, HO.out⟩
        have i2 : (s : Int) < n := by omega
        obtain ⟨wo, hwo⟩ : ∃ wo : World, wo = wr := ⟨_, rfl⟩
        subst hwo
        go_wp2_with (fail)
        go_loopw [7, 8] (fun v7 v8 wr => ∃ (t a : Nat) (f : List Nat), a = t * (2 * s) ∧ v7 = .int .i64 (a : Int) ∧ v8 = .int .i64 ((a : Int) + 2 * s) ∧ L2 l d f n s t ∧ RowAt wr A n c g 3 1 (nv f) ∧ Only (fun i => i = g) w0 wr) (fun v7 _ _ => (2 * n - intOf v7).toNat)
        case atStart => exact ⟨0, 0, e, by omega, rfl, by simp, L2.start HP.out HLV2.out, HROW.out, HO.out⟩
        case round =>
          obtain ⟨t, a, f, ha, rfl, rfl, hL, hrow, hO⟩ := hrel
          have HL := Lib.hid hL
          have HO2 := Lib.hid hO
          have HROW2 := Lib.hid hrow
          have HTA := Lib.hid ha
          have hle := hL.le
          rw [← ha] at hle
          obtain ⟨hfl, hbf⟩ := HB2.out f hL.perm
          have HFL := Lib.hid hfl
          have HBF := Lib.hid hbf
          have h2 := hL.two
          rw [← ha] at h2
          have H2 := Lib.hid h2
          clear hL hO hrow ha hfl hbf h2 HO HROW HLV2
          by_cases hb : a + 2 * s ≤ n
          · have i3 : (a : Int) + 2 * s ≤ n := by omega
            obtain ⟨g1, g2⟩ := H2.out
            rw [show min (a + s) n = a + s by omega] at g1
            rw [show min (a + s + s) n = a + 2 * s by omega] at g2
            have HS := Lib.hid (sym_any l x A c g n h4 _ f a (a + s) (a + 2 * s) wr (Nat.le_refl _) HFL.out HROW2.out (HC.out.next HO2.out) HBF.out g1.1 g2.1 (Good.xo HA.out g1 g2 hb) (by omega) (by omega) hb)
            rw [Int.natCast_add, Int.natCast_add, Int.natCast_mul] at HS
            rw [show ((2 : Nat) : Int) = 2 from rfl] at HS
            clear g1 g2 H2
            go_wp2_with (fail)
            refine HS.out.mono ?_
            rintro e2 w1 ⟨f', rfl, hf, ho, hr1, hO1⟩
            have hL' := HL.out.step (by rw [← HTA.out]; exact hb) (by rw [← HTA.out]; exact hf) (by rw [← HTA.out]; exact ho)
            have HF := Lib.hid (And.intro hL' (And.intro hr1 (HO2.out.trans hO1)))
            clear hf ho hr1 hO1 hL'
            go_wp2
            go_roundw
            case rel => exact ⟨t + 1, a + 2 * s, f', by have h1 := HTA.out; have h2 := Nat.add_mul t 1 (2 * s); omega, by simp, by simp, HF.out.1, HF.out.2.1, HF.out.2.2⟩
            case measure => simp [intOf]; omega
          · have i3 : ¬ (a : Int) + 2 * s ≤ n := by omega
            by_cases hm : a + s < n
            · have i4 : (a : Int) + s < n := by omega
              obtain ⟨g1, g2⟩ := H2.out
              rw [show min (a + s) n = a + s by omega] at g1
              rw [show min (a + s + s) n = n by omega] at g2
              have HS := Lib.hid (sym_any l x A c g n h4 _ f a (a + s) n wr (Nat.le_refl _) HFL.out HROW2.out (HC.out.next HO2.out) HBF.out g1.1 g2.1 (Good.xo HA.out g1 g2 (Nat.le_refl _)) (by omega) hm (Nat.le_refl _))
              rw [Int.natCast_add] at HS
              clear g1 g2 H2
              go_wp2_with (fail)
              refine HS.out.mono ?_
              rintro e2 w1 ⟨f', rfl, hf, ho, hr1, hO1⟩
              have hL' := HL.out.stop1 (by rw [← HTA.out]; omega) (by rw [← HTA.out]; exact hm) (by rw [← HTA.out]; exact hf) (by rw [← HTA.out]; exact ho)
              have HF := Lib.hid (And.intro hL' (And.intro hr1 (HO2.out.trans hO1)))
              have HPF := Lib.hid (hf.perm.trans HL.out.perm)
              clear hf ho hr1 hO1 hL'
              go_wp2
              go_roundw
              case rel => exact ⟨2 * s, f', by omega, by omega, by simp; try omega, HPF.out, HF.out.1, HF.out.2.1, HF.out.2.2⟩
              case measure => simp [intOf]; omega
            · have i4 : ¬ (a : Int) + s < n := by omega
              have HL' := Lib.hid (HL.out.stop2 (by rw [← HTA.out]; omega) (by rw [← HTA.out]; omega))
              go_wp2
              go_roundw
              case rel => exact ⟨2 * s, f, by omega, by omega, by simp; try omega, HL.out.perm, HL'.out, HROW2.out, HO2.out⟩
              case measure => simp [intOf]; omega

set_option maxHeartbeats 2000000 in
theorem sort_any (l : List Ln) (x : Nat) (A : Option Addr) (c g : Nat) (d : List Nat) (n : Nat) (hn : d.length = n) (w : World) (h : RowAt w A n c g 3 1 (nv d)) (hC : Cmp l x g w) (hBd : Bd l d) (hA : Asc d 0 n) (h4 : n ≤ 100000) :
    Calls Try.prog 20 #[.slice A n c, .func (.func 21) #[] #[.pointer (some ⟨x, 0, none⟩)]] w (SortP l A c g n d 0 n w) := by
  have HS := Lib.hid (stable_any l x A c g d n hn w h hC hBd hA h4)
  clear hn h hC hBd hA
  unfold SortP
  go_enter Try.func20, Try.ntmps20
  go_wp2_with (fail)
  refine HS.out.mono ?_
  rintro e2 w1 ⟨f', rfl, hf, ho, hr1, hO1⟩
  have HF := Lib.hid (And.intro hf (And.intro ho (And.intro hr1 hO1)))
  clear hf ho hr1 hO1
  go_wp2
  refine bodyPost_end (results_none rfl _ _ _) rfl ?_
  first
    | exact ⟨rfl, f', HF.out⟩
    | exact ⟨f', rfl, HF.out⟩
end Go.Proofs.Ytbcjpchjidgpeaa
