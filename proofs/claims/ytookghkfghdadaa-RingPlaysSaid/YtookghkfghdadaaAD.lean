/- Ring: the document's ring in memory; its Head, Tail, Waiting, Free; Same of two lists. -/
import Derived.Test.YtookghkfghdadaaAB
import Derived.Test.YtookghkfghdadaaK
import Derived.Test.YtookghkfghdadaaI
namespace Go.Proofs.Ytookghkfghdadaa
open Go.RowKit

/-- Where the two rows of the document's ring lie. -/
structure XL where
  A8 : Option Addr
  c8 : Nat
  g8 : Nat
  A9 : Option Addr
  c9 : Nat
  g9 : Nat
/-- The blocks of the document's ring. -/
def XL.S (L : XL) (d : Nat) (i : Nat) : Prop := i = d ∨ (L.A8 ≠ none ∧ i = L.g8) ∨ (L.A9 ≠ none ∧ i = L.g9)
/-- The document's ring at block d: its size, its slots, their states. -/
structure XM (B : Nat) (w : World) (d : Nat) (size : Int) (ps : List PS) (ss : List Int) (L : XL) : Prop where
  st : At w d 60 #[.int .i64 size, .slice L.A8 ps.length L.c8, .slice L.A9 ss.length L.c9]
  sl : RowAt w L.A8 ps.length L.c8 L.g8 37 5 (psc ps)
  ok : ∀ r ∈ ps, r.Ok w
  sr : RowAt w L.A9 ss.length L.c9 L.g9 3 1 (iv ss)
  eq : ss.length = ps.length
  len : ps.length ≤ 100000
  hd : B ≤ d
  h8 : L.A8 ≠ none → B ≤ L.g8
  h9 : L.A9 ≠ none → B ≤ L.g9
section
variable {S : Nat → Prop} {B : Nat} {w w' : World} {d : Nat} {size : Int} {ps : List PS} {ss : List Int} {L : XL}
theorem XM.only (k : XM B w d size ps ss L) (o : Only S w w') (h1 : ¬ S d) (h2 : L.A8 ≠ none → ¬ S L.g8) (h3 : L.A9 ≠ none → ¬ S L.g9) (h4 : ∀ r ∈ ps, r.A ≠ none → ¬ S r.gp) : XM B w' d size ps ss L :=
  ⟨k.st.only o h1, k.sl.only o h2, fun r hr => ⟨(k.ok r hr).row.only o (h4 r hr), (k.ok r hr).len⟩, k.sr.only o h3, k.eq, k.len, k.hd, k.h8, k.h9⟩
theorem XM.quiet (k : XM B w d size ps ss L) (o : Only (fun _ => False) w w') : XM B w' d size ps ss L := k.only o id (fun _ => id) (fun _ => id) (fun _ _ _ => id)
theorem XM.above (k : XM B w d size ps ss L) {i : Nat} (h : L.S d i) : B ≤ i := by
  rcases h with rfl | ⟨h, rfl⟩ | ⟨h, rfl⟩
  · exact k.hd
  · exact k.h8 h
  · exact k.h9 h
/-- The document's ring lies apart from the ring. -/
theorem XM.apart (k : XM B w d size ps ss L) {b g t h : Nat} {l : List RC} (r : RgAt w b g t h l) {i : Nat} (hi : L.S d i) : i ≠ b ∧ i ≠ g ∧ ¬ RgP l i := by
  rcases hi with rfl | ⟨hA, rfl⟩ | ⟨hA, rfl⟩
  · refine ⟨k.st.ne r.st (by decide), k.st.ne r.row (by decide), fun hp => ?_⟩
    obtain ⟨cs, hc⟩ := r.tyP hp
    exact k.st.ne hc (by decide) rfl
  · refine ⟨k.sl.neAt r.st hA (by decide), k.sl.neAt r.row hA (by decide), fun hp => ?_⟩
    obtain ⟨cs, hc⟩ := r.tyP hp
    exact k.sl.neAt hc hA (by decide) rfl
  · refine ⟨k.sr.neAt r.st hA (by decide), k.sr.neAt r.row hA (by decide), fun hp => ?_⟩
    obtain ⟨cs, hc⟩ := r.tyP hp
    exact k.sr.neAt hc hA (by decide) rfl
/-- The ring has turned: the document's ring keeps as it was. -/
theorem XM.turned (k : XM B w d size ps ss L) {b g t h : Nat} {l : List RC} (r : RgAt w b g t h l) (o : Only (fun i => i = b ∨ i = g) w w') : XM B w' d size ps ss L := by
  refine k.only o (fun e => ?_) (fun hA e => ?_) (fun hA e => ?_) (fun q hq hA e => ?_)
  · have := k.apart r (i := d) (.inl rfl); omega
  · have := k.apart r (i := L.g8) (.inr (.inl ⟨hA, rfl⟩)); omega
  · have := k.apart r (i := L.g9) (.inr (.inr ⟨hA, rfl⟩)); omega
  · rcases e with e | e
    · exact (k.ok q hq).row.neAt r.st hA (by decide) e
    · exact (k.ok q hq).row.neAt r.row hA (by decide) e
/-- The document's ring has turned: the ring keeps as it was. -/
theorem XM.other (k : XM B w d size ps ss L) {b g t h : Nat} {l : List RC} (r : RgAt w b g t h l) (o : Only (L.S d) w w') : RgAt w' b g t h l := by
  refine r.only o (fun e => (k.apart r e).1 rfl) (fun e => (k.apart r e).2.1 rfl) (fun i hi e => (k.apart r e).2.2 hi)
end

/-- So many ahead are done, the next is not. -/
structure TL (ss : List Int) (t : Nat) : Prop where
  le : t ≤ ss.length
  two : ∀ j, j < t → ss.getD j 0 = 2
  top : t < ss.length → ss.getD t 0 ≠ 2
/-- How many of the first so many wait. -/
def zc (ss : List Int) : Nat → Nat
  | 0 => 0
  | n + 1 => zc ss n + if ss.getD n 0 = 0 then 1 else 0
theorem zc_le (ss : List Int) (n : Nat) : zc ss n ≤ n := by
  induction n with
  | zero => exact Nat.le_refl _
  | succ n ih => unfold zc; split <;> omega

set_option maxHeartbeats 2000000 in
theorem xhead_any (B d : Nat) (size : Int) (ps : List PS) (ss : List Int) (L : XL) (w : World) (k : XM B w d size ps ss L) :
    Calls Try.prog 27 #[.pointer (some ⟨d, 0, none⟩)] w fun e w' => e = .returned (.int .i64 ps.length) ∧ w' = w := by
  have c1 := k.st.cell 1
  simp at c1
  clear k
  go_enter Try.func27, Try.ntmps27
  go_wp2
  go_ret
  exact ⟨rfl, rfl⟩

set_option maxHeartbeats 2000000 in
theorem xtail_any (B d : Nat) (size : Int) (ps : List PS) (ss : List Int) (L : XL) (t : Nat) (ht : TL ss t) (w : World) (k : XM B w d size ps ss L) :
    Calls Try.prog 28 #[.pointer (some ⟨d, 0, none⟩)] w fun e w' => e = .returned (.int .i64 t) ∧ w' = w := by
  have c2 := k.st.cell 2
  simp at c2
  have hlen := k.len
  rw [← k.eq] at hlen
  have HROW := Lib.hid k.sr
  have HT := Lib.hid ht
  obtain ⟨n, hn⟩ : ∃ n, ss.length = n := ⟨_, rfl⟩
  have HN := Lib.hid hn
  rw [hn] at c2 hlen
  have htn : t ≤ n := by rw [← hn]; exact ht.le
  clear hn ht k
  go_enter Try.func28, Try.ntmps28
  go_wp2_with (fail)
  go_loopw [3] (fun v3 wr => ∃ q : Nat, q ≤ t ∧ v3 = .int .i64 q ∧ wr = w) (fun v3 wr => (t - intOf v3).toNat)
  case atStart => exact ⟨0, by omega, rfl, rfl⟩
  case round =>
    obtain ⟨q, hq, rfl, rfl⟩ := hrel
    by_cases hqt : q < t
    · have hqs : q < ss.length := by rw [HN.out]; omega
      obtain ⟨off, hA, hc⟩ := row_cell HROW.out hqs
      have hv := HT.out.two q hqt
      simp only [List.getD, List.getElem?_eq_getElem hqs, Option.getD_some] at hv
      rw [hv] at hc
      rw [hA] at c2
      have q0 : (0 : Int) ≤ q := by omega
      have q1 : (q : Int) < n := by omega
      clear hv hA
      go_wp2
      go_roundw
      case rel => exact ⟨q + 1, by omega, by simp, by trivial⟩
      case measure => simp [intOf]; omega
    · obtain rfl : q = t := by omega
      by_cases hqn : q < n
      · have hqs : q < ss.length := by rw [HN.out]; omega
        obtain ⟨off, hA, hc⟩ := row_cell HROW.out hqs
        have hv := HT.out.top hqs
        simp only [List.getD, List.getElem?_eq_getElem hqs, Option.getD_some] at hv
        generalize ss[q] = z at *
        rw [hA] at c2
        have q0 : (0 : Int) ≤ q := by omega
        have q1 : (q : Int) < n := by omega
        have t1 : (z == 2) = false := beq_false_of_ne hv
        clear hv hA
        go_wp2
        go_ret
        exact ⟨rfl, rfl⟩
      · obtain rfl : q = n := by omega
        have q1 : ¬ (q : Int) < q := by omega
        go_wp2
        go_ret
        exact ⟨rfl, rfl⟩

set_option maxHeartbeats 2000000 in
theorem xwait_any (B d : Nat) (size : Int) (ps : List PS) (ss : List Int) (L : XL) (w : World) (k : XM B w d size ps ss L) :
    Calls Try.prog 29 #[.pointer (some ⟨d, 0, none⟩)] w fun e w' => e = .returned (.int .i64 (zc ss ss.length)) ∧ w' = w := by
  have c2 := k.st.cell 2
  simp at c2
  have hlen := k.len
  rw [← k.eq] at hlen
  have HROW := Lib.hid k.sr
  obtain ⟨n, hn⟩ : ∃ n, ss.length = n := ⟨_, rfl⟩
  have HN := Lib.hid hn
  rw [hn] at c2 hlen ⊢
  clear hn k
  go_enter Try.func29, Try.ntmps29
  go_wp2_with (fail)
  go_loopw [3, 4] (fun v3 v4 wr => ∃ q : Nat, q ≤ n ∧ v4 = .int .i64 q ∧ v3 = .int .i64 (zc ss q) ∧ wr = w) (fun v3 v4 wr => (n - intOf v4).toNat)
  case atStart => exact ⟨0, by omega, rfl, rfl, rfl⟩
  case round =>
    obtain ⟨q, hq, rfl, rfl, rfl⟩ := hrel
    by_cases hqn : q < n
    · have hqs : q < ss.length := by rw [HN.out]; omega
      obtain ⟨off, hA, hc⟩ := row_cell HROW.out hqs
      have hz : zc ss (q + 1) = zc ss q + if ss[q] = 0 then 1 else 0 := by simp [zc, List.getD, hqs]
      have hzl := zc_le ss q
      have g0 : (0 : Int) ≤ zc ss q := by omega
      have g1 : (zc ss q : Int) ≤ 100000 := by omega
      have HZ := Lib.hid hz
      generalize ss[q] = z at *
      rw [hA] at c2
      have q0 : (0 : Int) ≤ q := by omega
      have q1 : (q : Int) < n := by omega
      clear hz hzl hA
      by_cases h0 : z = 0
      · have HZ' : Hid (zc ss (q + 1) = zc ss q + 1) := Lib.hid (by rw [HZ.out, if_pos h0])
        have t1 : (z == 0) = true := by simp [h0]
        clear HZ h0
        go_wp2
        go_roundw
        case rel => exact ⟨q + 1, by omega, by simp, by rw [HZ'.out]; simp, by trivial⟩
        case measure => simp [intOf]; omega
      · have HZ' : Hid (zc ss (q + 1) = zc ss q) := Lib.hid (by rw [HZ.out, if_neg h0]; rfl)
        have t1 : (z == 0) = false := beq_false_of_ne h0
        clear HZ h0
        go_wp2
        go_roundw
        case rel => exact ⟨q + 1, by omega, by simp, by rw [HZ'.out], by trivial⟩
        case measure => simp [intOf]; omega
    · obtain rfl : q = n := by omega
      have q1 : ¬ (q : Int) < q := by omega
      go_wp2
      go_ret
      exact ⟨rfl, rfl⟩

set_option maxHeartbeats 4000000 in
theorem xfree_any (B d : Nat) (size : Nat) (ps : List PS) (ss : List Int) (L : XL) (t : Nat) (ht : TL ss t) (hs : size ≤ 256) (w : World) (k : XM B w d size ps ss L) :
    Calls Try.prog 30 #[.pointer (some ⟨d, 0, none⟩)] w fun e w' => e = .returned (.int .i64 ((size : Int) - ps.length + t)) ∧ Only (fun _ => False) w w' := by
  have c0 := k.st.cell 0
  simp at c0
  have hlen := k.len
  have htl : t ≤ ps.length := by rw [← k.eq]; exact ht.le
  have H27 := Lib.hid (fun n => xhead_any B d size ps ss L (w.drewN n) (k.quiet ((Only.refl _ _).drewN _)))
  have H28 := Lib.hid (fun n => xtail_any B d size ps ss L t ht (w.drewN n) (k.quiet ((Only.refl _ _).drewN _)))
  obtain ⟨n, hn⟩ : ∃ n, ps.length = n := ⟨_, rfl⟩
  rw [hn] at H27 hlen htl ⊢
  have s0 : (0 : Int) ≤ size := by omega
  have s1 : (size : Int) ≤ 256 := by omega
  clear k ht hn
  go_enter Try.func30, Try.ntmps30
  go_wp2_with (fail)
  go_quiet (first
    | (go_at_call 27; exact Calls.quiet_of_same (H27.out _))
    | (go_at_call 28; exact Calls.quiet_of_same (H28.out _)))
  go_wp2
  go_ret
  exact ⟨rfl, (Only.refl _ _).drewN _⟩

set_option maxHeartbeats 4000000 in
theorem xsame_any (l : List Int) (A A' : Option Addr) (c c' g g' : Nat) (w : World) (h : RowAt w A l.length c g 3 1 (iv l)) (h' : RowAt w A' l.length c' g' 3 1 (iv l)) :
    Calls Try.prog 41 #[.slice A l.length c, .slice A' l.length c'] w fun e w' => e = .returned (.bool true) ∧ Only (fun _ => False) w w' := by
  have HA := Lib.hid h
  have HB := Lib.hid h'
  have hle : l.length ≤ 9223372036854775807 := by
    have : maxLen = 9223372036854775807 := rfl
    rcases h with ⟨_, h0, _⟩ | ⟨_, _, _, _, h1, h2, _⟩ <;> omega
  obtain ⟨n, hn⟩ : ∃ n, l.length = n := ⟨_, rfl⟩
  have HN := Lib.hid hn
  rw [hn] at hle ⊢
  clear hn h h'
  go_enter Try.func41, Try.ntmps41
  have t0 : ((n : Int) != (n : Int)) = false := by simp
  go_wp2_with (fail)
  go_loopw [5] (fun v5 wr => ∃ q : Nat, q ≤ n ∧ v5 = .int .i64 q ∧ Only (fun _ => False) w wr) (fun v5 wr => (n - intOf v5).toNat)
  case atStart => exact ⟨0, by omega, rfl, Only.refl _ _⟩
  case round =>
    obtain ⟨q, hq, rfl, hO⟩ := hrel
    have HO := Lib.hid hO
    by_cases hqn : q < n
    · have hqs : q < l.length := by rw [HN.out]; exact hqn
      obtain ⟨off, rfl, hc⟩ := row_cell (HA.out.only hO (fun _ => id)) hqs
      obtain ⟨off', rfl, hc'⟩ := row_cell (HB.out.only hO (fun _ => id)) hqs
      clear hO
      generalize l[q] = z at *
      have q0 : (0 : Int) ≤ q := by omega
      have q1 : (q : Int) < n := by omega
      have t1 : (z != z) = false := by simp
      go_wp2_with (fail)
      go_region
      go_wp2
      go_roundw
      case rel => exact ⟨q + 1, by omega, by simp, HO.out.drewN _⟩
      case measure => simp [intOf]; omega
    · obtain rfl : q = n := by omega
      have q1 : ¬ (q : Int) < q := by omega
      go_wp2
      go_ret
      exact ⟨rfl, HO.out⟩
end Go.Proofs.Ytookghkfghdadaa
