/- Ring: the law RingOwn, walked. -/
import Derived.Test.YtookghkfghdadaaQ
import Derived.Laws.BytesArg
namespace Go.Proofs.Ytookghkfghdadaa
open Go.RowKit

theorem brow_cell {w : World} {A : Option Addr} {n c g : Nat} {l : List Int} {m : Nat} (h : RowAt w A n c g 5 1 (bv l)) (hm : m < l.length) : ∃ off, A = some ⟨g, off, none⟩ ∧ w.cell? ⟨g, off + m, none⟩ = some (.int .u8 l[m]) ∧ w.frozen? ⟨g, off + m, none⟩ = false := by
  rcases h with ⟨_, _, _, h⟩ | ⟨off, cells, h1, h2, h3, h4, h5, h6, h7⟩
  · have := bv_len l; rw [h] at this; simp at this; omega
  · exact ⟨off, h1, (h2.cell _).trans (h7 m _ (bv_get l m hm)), h2.frozen _⟩
theorem brow_set {w : World} {A : Option Addr} {n c g off : Nat} {l : List Int} {m : Nat} {z : Int} (h : RowAt w A n c g 5 1 (bv l)) (hA : A = some ⟨g, off, none⟩) (hm : m < l.length) :
    RowAt (w.setCell ⟨g, off + m, none⟩ (.int .u8 z)) A n c g 5 1 (bv (l.set m z)) := by
  rcases h with ⟨h, _⟩ | ⟨off', cells, h1, h2, h3, h4, h5, h6, h7⟩
  · rw [h] at hA; cases hA
  · rw [hA] at h1
    injection h1 with h1
    injection h1 with _ h1 _
    subst h1
    have hml : (bv l).length = l.length := bv_len l
    refine .inr ⟨off, cells.setIfInBounds (off + m) (.int .u8 z), hA, h2.set _ _, h3, h4, by simpa using h5, by rw [bv_len, List.length_set, ← hml, h6], fun j u hu => ?_⟩
    have hj : j < l.length := by have := (List.getElem?_eq_some_iff.1 hu).1; rw [bv_len, List.length_set] at this; exact this
    rw [bv_get _ _ (by rw [List.length_set]; exact hj)] at hu
    by_cases hjm : j = m
    · subst hjm
      rw [Array.getElem?_setIfInBounds_self_of_lt (by have : j < n * 1 := by omega
                                                      have h8 : n * 1 ≤ c * 1 := Nat.mul_le_mul_right _ h3
                                                      omega)]
      simpa using hu
    · rw [Array.getElem?_setIfInBounds_ne (by omega)]
      rw [List.getElem_set_ne (fun e => hjm e.symm)] at hu
      exact h7 j u (by rw [bv_get l j hj]; exact hu)

theorem conv_rd {w : World} {A : Option Addr} {g : Nat} {l : List Int} (h : Rd w g A (bv l)) (c : Nat) : (convert 35 9 (.slice A l.length c)).run Try.prog w = .ok (.string (strOfNums l)) w := by
  rcases h with h | ⟨off, rfl, hlt, hc⟩
  · have hl : l = [] := by
      have := bv_len l; rw [h] at this; simp at this; exact List.eq_nil_of_length_eq_zero this.symm
    subst hl
    cases A with
    | none =>
      rw [run_convert_bytes_nil w 35 5 Try.underlying35 Try.underlying5 _ _ 9 Try.underlying9]
      rfl
    | some a =>
      have hl : (loadCells a 0).run Try.prog w = .ok (([] : List Int).map (Value.int .u8)).toArray w := by
        have := run_loadCells_list (P := Try.prog) w a [] (fun j v hj => by simp at hj)
        simpa using this
      have := run_bytesToString (P := Try.prog) w a 0 c [] hl
      rw [run_convert_bytes_string w 35 9 5 (some a) _ c Try.underlying35 Try.underlying5 Try.underlying9]
      exact this
  · exact run_convert_bytes_arg w 35 5 Try.underlying35 Try.underlying5 g off l.length c l rfl (fun i hi => by
      have := hc i _ (bv_get l i hi)
      simpa [List.getD, hi] using this) 9 Try.underlying9

theorem slotOf_at0 (n : Nat) (r : RC) (h : 0 < n) : slotOf ((List.replicate n RC.zero).set (0 % (List.replicate n RC.zero).length) r) 0 = r.x := by
  simp [slotOf, List.getD, h]
theorem rgP_put {n q : Nat} {r : RC} {i : Nat} (h : RgP ((List.replicate n RC.zero).set q r) i) : i = r.gp := by
  obtain ⟨x, hx, hA, rfl⟩ := h
  rcases mem_set_cases hx with hx | rfl
  · rw [List.eq_of_mem_replicate hx] at hA; exact absurd rfl hA
  · rfl

set_option maxRecDepth 100000 in
set_option maxHeartbeats 8000000 in
theorem ringOwn_walk (l : List Int) (g0 c : Nat) (A : Option Addr) (w : World) (hr : Rd w g0 A (bv l)) :
    Calls Try.prog 5 #[.slice A l.length c] w fun e w' => e = .returned (.bool true) ∧ Below w.heap.size w w' := by
  have HR := Lib.hid hr
  clear hr
  have HN := Lib.hid (fun w => (new_any 2 (by omega) (by omega) w : Calls Try.prog 11 #[.int .i64 2] w _))
  by_cases hbig : 5000 < l.length
  · have i1 : (5000 : Int) < l.length := by omega
    go_enter Try.func5, Try.ntmps5
    go_wp2_with (fail)
    refine (awake_any _).mono ?_
    rintro e w1 ⟨rfl, hO⟩
    have HO := Lib.hid hO
    clear hO
    go_wp2_with (fail)
    refine (HN.out _).mono ?_
    rintro e w2 ⟨b, g, rfl, _, _, _, hO⟩
    have HO2 := Lib.hid (HO.out.trans hO)
    clear hO HO HN
    go_wp2
    go_ret
    exact ⟨rfl, HO2.out.below (Nat.le_refl _) (fun i hi h => h)⟩
  have i1 : (l.length : Int) ≤ 5000 := by omega
  have i2 : l.length ≤ 5000 := by omega
  clear hbig
  obtain ⟨i0, hi⟩ : ∃ i, Try.prog.info? 5 = some i := ⟨_, rfl⟩
  have hz0 : i0.zero = some (.int .u8 0) := by cases hi; rfl
  have hz1 : i0.size = 1 := by cases hi; rfl
  have hz2 : i0.bytes = 1 := by cases hi; rfl
  have HI := Lib.hid (And.intro hi (And.intro hz0 (And.intro hz1 hz2)))
  clear hi hz0 hz1 hz2
  go_enter Try.func5, Try.ntmps5
  go_wp2_with (fail)
  refine (awake_any _).mono ?_
  rintro e w1 ⟨rfl, hO⟩
  have HO := Lib.hid hO
  clear hO
  go_wp2_with (fail)
  refine (HN.out _).mono ?_
  rintro e w2 ⟨b, g, rfl, hk, hb, hg, hO⟩
  have hb : w.heap.size ≤ b := by have := HO.out.size; omega
  have hg : w.heap.size ≤ g := by have := HO.out.size; omega
  have HO2 := Lib.hid (HO.out.trans hO)
  have HK2 := Lib.hid hk
  have hlts := hk.lts
  clear hk hO HO HN
  have HOWN := Lib.hid (ownsRow_fresh w2 5 1)
  have HRa := Lib.hid ((HR.out.only HO2.out id).only ((Only.refl (fun _ => False) w2).alloc (.cells #[] 5)) id)
  go_wp2_with (at_builtin; go_loud (refine wpList_append_src _ rfl (.tmp 30) (.tmp 31) 35 rfl w2.heap.size 5 i0 (.int .u8 0) 1 1 Try.underlying35 HI.out.1 HI.out.2.1 HI.out.2.2.1 HI.out.2.2.2 rfl (by decide) (.slice (some ⟨w2.heap.size, 0, none⟩) 0 0) 0 [] rfl HOWN.out g0 A l.length c (bv l) rfl (by simp [bv]) HRa.out (bv_one l) (by unfold maxLen; omega) (by omega) (by simp) ?_); intro A1 c1 w3 hc1 hown1 hgrow1 hat1; have HOWN1 := Lib.hid hown1; have HAT := Lib.hid hat1; have HGR := Lib.hid hgrow1; clear hown1 hgrow1 hat1)
  have hGb : ∃ G, (w2.heap.size ≤ G ∧ G < w3.heap.size) ∧ RowAt w3 A1 l.length c1 G 5 1 (bv l) ∧ A1 ≠ none := by
    have hown1 := HOWN1.out
    obtain ⟨g', hg', hrow⟩ := ownsRow_rowAt hown1
    have hA1 : A1 ≠ none := by
      rintro rfl
      have := HAT.out
      simp [Value.ownBlock] at this
    simp only [Nat.zero_add, List.nil_append] at hrow
    exact ⟨g', ⟨hg' hA1, hrow.lt hA1⟩, hrow, hA1⟩
  obtain ⟨G, hG, hrow, hA1⟩ := hGb
  have HO3 := Lib.hid ((HO2.out.alloc (.cells #[] 5)).grown HGR.out (S := fun _ => False) (by intro i hi e; simp [Value.ownBlock] at e; have := HO2.out.size; omega))
  have hk3 : RgAt w3 b g 0 0 (List.replicate 2 RC.zero) := by
    have h1 := HK2.out.quiet ((Only.refl (fun _ => False) w2).alloc (.cells #[] 5))
    refine h1.only (Only.of_grown HGR.out) ?_ ?_ ?_
    · intro e; simp [Value.ownBlock] at e; omega
    · intro e; simp [Value.ownBlock] at e; omega
    · rintro i ⟨x, hx, hA, _⟩
      rw [List.eq_of_mem_replicate hx] at hA; exact absurd rfl hA
  have HROW := Lib.hid hrow
  have HP := Lib.hid (put_any b g 0 0 _ ⟨0, 0, 0, 0, l⟩ A1 c1 G w3 hk3 (by simp) (by omega) hrow.rd (by simp only; omega))
  simp only [Sl.val] at HP
  clear hrow hk3 HOWN HOWN1 HAT HGR HRa HK2 HI
  have d500 : decide (5000 < (l.length : Int)) = false := by simp; omega
  have d501 : decide (5000 < l.length) = false := by simp; omega
  simp only [d500, d501]
  refine HP.out.mono ?_
  rintro e w4 ⟨r, rfl, hk4, hrx, _, hrA, hrg, hO⟩
  have HROW4 := Lib.hid (HROW.out.only hO (fun _ h => by omega))
  have HO4 := Lib.hid (HO3.out.trans' hO (S := fun _ => False) (fun i hi h => by omega))
  have hrgP : ∀ i, RgP ((List.replicate 2 RC.zero).set (0 % (List.replicate 2 RC.zero).length) r) i → i = r.gp := fun i hi => rgP_put hi
  have hsl : slotOf ((List.replicate 2 RC.zero).set (0 % (List.replicate 2 RC.zero).length) r) 0 = ⟨0, 0, 0, 0, l⟩ := by rw [slotOf_at0 2 r (by omega), hrx]
  generalize (List.replicate 2 RC.zero).set (0 % (List.replicate 2 RC.zero).length) r = l4 at *
  have HK4 := Lib.hid hk4
  have HRGP := Lib.hid hrgP
  have HSL := Lib.hid hsl
  have hs34 := hO.size
  clear hk4 hrgP hsl hrx hO HP HROW
  go_wp2_with (fail)
  go_loopw [7] (fun v wr => ∃ (m : Nat) (l' : List Int), m ≤ l.length ∧ l'.length = l.length ∧ v = .int .i64 m ∧ RowAt wr A1 l.length c1 G 5 1 (bv l') ∧ Only (fun i => i = G) w4 wr) (fun v wr => (l.length - intOf v).toNat)
  case atStart => exact ⟨0, l, by omega, rfl, rfl, HROW4.out, Only.refl _ _⟩
  case round =>
    obtain ⟨m, l', hm, hl', rfl, hrow, hOm⟩ := hrel
    have HROWm := Lib.hid hrow
    have HOm := Lib.hid hOm
    clear hrow hOm
    by_cases hml : m < l.length
    · have j1 : (m : Int) < l.length := by omega
      have j0 : (0 : Int) ≤ m := by omega
      obtain ⟨off, hA, hc, hf⟩ := brow_cell HROWm.out (by omega : m < l'.length)
      have hset := fun z => brow_set (z := z) HROWm.out hA (by omega : m < l'.length)
      have HSET := Lib.hid hset
      clear hset
      rw [hA]
      rw [hA] at HROWm HSET HROW4
      clear hA hA1
      generalize l'[m] = z at *
      go_wp2
      go_roundw
      case rel =>
        exact ⟨m + 1, _, by omega, by simpa using hl', by simp, HSET.out _, HOm.out.setCell (p := ⟨G, off + m, none⟩) (fun _ => rfl) _⟩
      case measure => simp [intOf]; omega
    · obtain rfl : m = l.length := by omega
      have hk5 := HK4.out.only HOm.out (by omega) (by omega) (fun i hi e => by have := HRGP.out i hi; omega)
      have HK5 := Lib.hid hk5
      have HO5 := Lib.hid (HO4.out.trans' HOm.out (S := fun _ => False) (fun i hi h => by have := HO2.out.size; omega))
      have hG5 := get_in b g 0 1 l4 0 wr hk5 (by omega)
      rw [HSL.out] at hG5
      have HG5 := Lib.hid hG5
      have hgp5 : ∀ i, RgP l4 i → i < wr.heap.size := hk5.lts.2.2
      have hlt5 := hk5.lts
      clear hk5 hG5 HOm HROWm HROW4 HO4 HO3 HK4
      go_wp2_with (fail)
      refine HG5.out.mono ?_
      rintro e w5 ⟨A2, c2, gp, rfl, hr2, hA2, hg2, hO⟩
      simp only [Sl.val] at hr2 ⊢
      have hOb := hO.alloc (.cells #[.int .i64 0, .int .i64 0, .int .i64 0, .slice A2 l.length c2, .int .i64 0] 37)
      have HO6 := Lib.hid (HO5.out.trans hOb)
      have HK6 := Lib.hid (HK5.out.quiet hOb)
      have HR6 := Lib.hid (hr2.only ((Only.refl (fun _ => False) _).alloc (.cells #[.int .i64 0, .int .i64 0, .int .i64 0, .slice A2 l.length c2, .int .i64 0] 37)) (fun _ => id))
      have HA6 := Lib.hid (At.new w5 37 #[.int .i64 0, .int .i64 0, .int .i64 0, .slice A2 l.length c2, .int .i64 0])
      have hgp6 := hr2.lt hA2
      have x3 : (w5.alloc (.cells #[.int .i64 0, .int .i64 0, .int .i64 0, .slice A2 l.length c2, .int .i64 0] 37)).cell? ⟨w5.heap.size, 3, none⟩ = some (.slice A2 l.length c2) := HA6.out.cell 3
      have v1 := conv_rd HR6.out.rd c2
      have v2 := conv_rd (HR.out.only HO6.out id) c
      clear hr2 hO HG5 HK5 HO5 hOb
      go_wp2_with (fail)
      clear x3 v1 v2
      generalize hw6 : w5.alloc (.cells #[.int .i64 0, .int .i64 0, .int .i64 0, .slice A2 l.length c2, .int .i64 0] 37) = w6 at *
      clear hw6
      go_loopw [10] (fun v wr => ∃ (m : Nat) (l' : List Int), m ≤ l.length ∧ l'.length = l.length ∧ v = .int .i64 m ∧ RowAt wr A2 l.length c2 gp 5 1 (bv l') ∧ Only (fun i => i = gp) w6 wr) (fun v wr => (l.length - intOf v).toNat)
      case atStart => exact ⟨0, l, by omega, rfl, rfl, HR6.out, Only.refl _ _⟩
      case round =>
        obtain ⟨m, l', hm, hl', rfl, hrow, hOm⟩ := hrel
        have x3 : wr.cell? ⟨w5.heap.size, 3, none⟩ = some (.slice A2 l.length c2) := (HA6.out.only hOm (by omega)).cell 3
        have HROWm := Lib.hid hrow
        have HOm := Lib.hid hOm
        clear hrow hOm
        by_cases hml : m < l.length
        · have j1 : (m : Int) < l.length := by omega
          have j0 : (0 : Int) ≤ m := by omega
          obtain ⟨off, hA, hc, hf⟩ := brow_cell HROWm.out (by omega : m < l'.length)
          have hset := fun z => brow_set (z := z) HROWm.out hA (by omega : m < l'.length)
          have HSET := Lib.hid hset
          have hx : gp ≠ w5.heap.size := by omega
          rw [hA] at x3 HROWm HSET HA6 HR6 ⊢
          clear hset hA
          generalize l'[m] = z at *
          go_wp2_with (fail)
          go_region
          go_wp2
          go_roundw
          case rel =>
            exact ⟨m + 1, _, by omega, by simpa using hl', by simp, (HSET.out _).only (S := fun _ => False) ((Only.refl _ _).drew) (fun _ => id), (Only.setCell (S := fun i => i = gp) (p := ⟨gp, off + m, none⟩) HOm.out (fun _ => rfl) _).drew⟩
          case measure => simp [intOf]; omega
        · obtain rfl : m = l.length := by omega
          have hk7 := HK6.out.only HOm.out (by omega) (by omega) (fun i hi e => by have := hgp5 i hi; omega)
          have HK7 := Lib.hid hk7
          have HO7 := Lib.hid (HO6.out.trans' HOm.out (S := fun _ => False) (fun i hi h => by have := HO2.out.size; omega))
          have hG7 := get_in b g 0 1 l4 0 wr hk7 (by omega)
          rw [HSL.out] at hG7
          have HG7 := Lib.hid hG7
          clear hk7 hG7 HOm HROWm HK6 HR6 HA6
          go_wp2_with (fail)
          refine HG7.out.mono ?_
          rintro e w8 ⟨A3, c3, gp3, rfl, hr3, hA3, hg3, hO⟩
          simp only [Sl.val] at hr3 ⊢
          have hOb := hO.alloc (.cells #[.int .i64 0, .int .i64 0, .int .i64 0, .slice A3 l.length c3, .int .i64 0] 37)
          have HO8 := Lib.hid (HO7.out.trans hOb)
          have HR8 := Lib.hid (hr3.only ((Only.refl (fun _ => False) _).alloc (.cells #[.int .i64 0, .int .i64 0, .int .i64 0, .slice A3 l.length c3, .int .i64 0] 37)) (fun _ => id))
          have HA8 := Lib.hid (At.new w8 37 #[.int .i64 0, .int .i64 0, .int .i64 0, .slice A3 l.length c3, .int .i64 0])
          have y3 : (w8.alloc (.cells #[.int .i64 0, .int .i64 0, .int .i64 0, .slice A3 l.length c3, .int .i64 0] 37)).cell? ⟨w8.heap.size, 3, none⟩ = some (.slice A3 l.length c3) := HA8.out.cell 3
          have v1 := conv_rd HR8.out.rd c3
          have v2 := conv_rd (HR.out.only HO8.out id) c
          clear hr3 hO hOb
          go_wp2
          go_ret
          exact ⟨by simp, HO8.out.below (Nat.le_refl _) (fun i hi h => h)⟩
end Go.Proofs.Ytookghkfghdadaa
