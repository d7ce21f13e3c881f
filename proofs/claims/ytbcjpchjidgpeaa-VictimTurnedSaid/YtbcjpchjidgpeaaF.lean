/- Victim: contracts of the reference's Order and Pick, of awake. -/
import Derived.Test.YtbcjpchjidgpeaaE
namespace Go.Proofs.Ytbcjpchjidgpeaa
open Go.RowKit

theorem Try.info3 : (Try.prog.info? 3).map (fun i => (i.zero, i.size, i.bytes)) = some (some (.int .i64 0), 1, 8) := by kernel_rfl

theorem Only.fresh {S : Nat → Prop} {w w' : World} (h : Only (fun i => w.heap.size ≤ i) w w') : Only S w w' :=
  h.mono fun i hi hs => absurd hs (by omega)

/-- The order as cells. -/
def oc (l : List Int) : Array Value := (l.map (Value.int .i64)).toArray

def OrderPost (l : List Ln) (w : World) (e : Ending) (w' : World) : Prop :=
  ∃ gb, e = .returned (.slice (some ⟨gb, 0, none⟩) (cntTo l l.length) (cntTo l l.length)) ∧ w.heap.size ≤ gb ∧ At w' gb 3 (oc (outTo l (cntTo l l.length) l.length)) ∧ Only (fun _ => False) w w'

theorem cnt_le (l : List Ln) (k : Nat) : cntTo l k ≤ k := by
  induction k with
  | zero => simp [cntTo]
  | succ k ih => unfold cntTo; split <;> (try split) <;> omega
theorem rk_le (l : List Ln) (x : Ln) (i k : Nat) : rkTo l x i k ≤ k := by
  have := rkTo_le l x i k
  have := cnt_le l k
  omega

theorem cnt_step_yes {l : List Ln} {k : Nat} (hk : k < l.length) (h : (l[k]).may = true) : cntTo l (k + 1) = cntTo l k + 1 := by
  simp [cntTo, hk, h]
theorem cnt_step_no {l : List Ln} {k : Nat} (hk : k < l.length) (h : (l[k]).may = false) : cntTo l (k + 1) = cntTo l k := by
  simp [cntTo, hk, h]
theorem rk_step_yes {l : List Ln} {x : Ln} {i k : Nat} (hk : k < l.length) (h : (l[k]).may = true) (hb : bt l[k] x k i = true) : rkTo l x i (k + 1) = rkTo l x i k + 1 := by
  simp [rkTo, hk, h, hb]
theorem rk_step_no {l : List Ln} {x : Ln} {i k : Nat} (hk : k < l.length) (h : (l[k]).may = false ∨ bt l[k] x k i = false) : rkTo l x i (k + 1) = rkTo l x i k := by
  rcases h with h | h <;> simp [rkTo, hk, h]
theorem out_step_yes {l : List Ln} {n k : Nat} (hk : k < l.length) (h : (l[k]).may = true) : outTo l n (k + 1) = (outTo l n k).set (rkTo l l[k] k l.length) (k : Int) := by
  simp [outTo, hk, h]
theorem out_step_no {l : List Ln} {n k : Nat} (hk : k < l.length) (h : (l[k]).may = false) : outTo l n (k + 1) = outTo l n k := by
  simp [outTo, hk, h]
theorem oc_set (l : List Int) (i : Nat) (z : Int) : (oc l).setIfInBounds i (.int .i64 z) = oc (l.set i z) := by
  simp [oc, List.map_set]
theorem oc_zero (n : Nat) : oc (List.replicate n 0) = zeros (.int .i64 0) n := by
  simp [oc, zeros]
theorem oc_get {l : List Int} {i : Nat} (h : i < l.length) : (oc l)[i]? = some (.int .i64 l[i]) := by
  simp [oc, h]

set_option maxRecDepth 100000 in
set_option maxHeartbeats 4000000 in
theorem refOrder_walk (g off c : Nat) (l : List Ln) (w : World) (hlen : l.length ≤ 1000000) (hg : g < w.heap.size) (hc : ∀ (j : Nat) (u : Value), (lv l)[j]? = some u → w.cell? ⟨g, off + j, none⟩ = some u) :
    Calls Try.prog 16 #[.slice (some ⟨g, off, none⟩) l.length c] w (OrderPost l w) := by
  obtain ⟨i0, hi0, hz0, hz1, hz2⟩ := info_parts Try.info3
  have hmk := fun W => run_make_one (P := Try.prog) Try.underlying30 hi0 hz0 rfl hz1 (cntTo l l.length) (by rw [hz2]; have := cnt_le l l.length; omega) (by have := cnt_le l l.length; omega) W
  have HC := Lib.hid hc
  clear hc
  -- a line's cells in any world that has grown out of w
  have hcell : Hid (∀ (W : World) (i : Nat) (hi : i < l.length), Only (fun k => w.heap.size ≤ k) w W → LnAt W g (off + i * 5) l[i]) := fun W i hi hO =>
    (LnAt.of HC.out i hi).only hO (by omega)
  have hall : Hid (∀ (W : World), Only (fun k => w.heap.size ≤ k) w W → ∀ (j : Nat) (u : Value), (lv l)[j]? = some u → W.cell? ⟨g, off + j, none⟩ = some u) := fun W hO j u hu =>
    (hO.cell (p := ⟨g, off + j, none⟩) hg (by simpa using hg)).trans (HC.out j u hu)
  clear HC
  have HMk := Lib.hid hmk
  clear hmk
  go_enter Try.func16, Try.ntmps16
  go_wp2
  go_loopw [3, 4] (fun a v wr => ∃ i : Nat, i ≤ l.length ∧ v = .int .i64 i ∧ a = .int .i64 (cntTo l i : Nat) ∧ Only (fun k => w.heap.size ≤ k) w wr) (fun _ v _ => l.length - (intOf v).toNat)
  case atStart => exact ⟨0, by omega, rfl, rfl, Only.refl _ _⟩
  case round =>
    obtain ⟨i, hi, rfl, rfl, hO⟩ := hrel
    by_cases h1 : i < l.length
    · obtain ⟨x0, x1, x2, x3, x4⟩ := hcell.out wr i h1 hO
      have hcn := cnt_le l i
      have hm := fun w => refMay_any l[i] w
      have HO := Lib.hid hO
      clear hO
      by_cases hy : (l[i]).may = true
      · have Hs := Lib.hid (cnt_step_yes h1 hy)
        rw [hy] at hm
        have Hm := Lib.hid hm
        clear hm hy
        generalize l[i] = x at *
        go_wp2_with (fail)
        refine (Hm.out _).mono ?_
        rintro e w1 ⟨rfl, hO1⟩
        have HO1 := Lib.hid hO1
        clear hO1 x0 x1 x2 x3 x4
        go_wp2
        go_roundw
        case rel => exact ⟨i + 1, by omega, by go_num, by rw [Hs.out]; go_num, HO.out.trans (HO1.out.toOld _)⟩
        case measure => simp [intOf]; omega
      · have hy : (l[i]).may = false := by simpa using hy
        have Hs := Lib.hid (cnt_step_no h1 hy)
        rw [hy] at hm
        have Hm := Lib.hid hm
        clear hm hy
        generalize l[i] = x at *
        go_wp2_with (fail)
        refine (Hm.out _).mono ?_
        rintro e w1 ⟨rfl, hO1⟩
        have HO1 := Lib.hid hO1
        clear hO1 x0 x1 x2 x3 x4
        go_wp2
        go_roundw
        case rel => exact ⟨i + 1, by omega, by go_num, by rw [Hs.out], HO.out.trans (HO1.out.toOld _)⟩
        case measure => simp [intOf]; omega
    · obtain rfl : i = l.length := by omega
      have hmk := HMk.out
      have HO := Lib.hid hO
      clear hO
      have hcn := cnt_le l l.length
      obtain ⟨n, hn⟩ : ∃ n, n = cntTo l l.length := ⟨_, rfl⟩
      rw [← hn] at hcn hmk ⊢
      have HN := Lib.hid hn
      clear hn
      go_wp2
      clear hmk
      have hat0 : At (wr.alloc (.cells (zeros (.int .i64 0) n) 3)) wr.heap.size 3 (oc (outTo l n 0)) := by
        show At _ _ 3 (oc (List.replicate n 0))
        rw [oc_zero]; exact At.new _ _ _
      have hO1 : Only (fun k => w.heap.size ≤ k) w (wr.alloc (.cells (zeros (.int .i64 0) n) 3)) := HO.out.alloc _
      obtain ⟨gb, hgb⟩ : ∃ gb, gb = wr.heap.size := ⟨_, rfl⟩
      have Hgb : Hid (w.heap.size ≤ gb) := by
        have := HO.out.size
        show w.heap.size ≤ gb
        omega
      obtain ⟨W0, hW0⟩ : ∃ W0, W0 = wr.alloc (.cells (zeros (.int .i64 0) n) 3) := ⟨_, rfl⟩
      rw [← hgb, ← hW0] at hat0
      rw [← hW0] at hO1
      rw [← hgb, ← hW0]
      have HAt := Lib.hid hat0
      have HO1 := Lib.hid hO1
      clear hat0 hO1 hW0 hgb HO
      go_loopw [6] (fun v wr => ∃ i : Nat, i ≤ l.length ∧ v = .int .i64 i ∧ At wr gb 3 (oc (outTo l n i)) ∧ Only (fun k => w.heap.size ≤ k) w wr) (fun v _ => l.length - (intOf v).toNat)
      case atStart => exact ⟨0, by omega, rfl, HAt.out, HO1.out⟩
      case round =>
        clear HAt HO1
        obtain ⟨i, hi, rfl, hat, hO⟩ := hrel
        by_cases h1 : i < l.length
        · obtain ⟨x0, x1, x2, x3, x4⟩ := hcell.out wr i h1 hO
          have hm := fun w => refMay_any l[i] w
          by_cases hy : (l[i]).may = true
          · have Hs := Lib.hid (out_step_yes (n := n) h1 hy)
            have hrk : rkTo l l[i] i l.length < n := by
              rw [HN.out]; exact rkTo_lt l l[i] i l.length (List.getElem?_eq_getElem h1) hy h1
            rw [hy] at hm
            have Hm := Lib.hid hm
            have Hrk := Lib.hid hrk
            have HO := Lib.hid hO
            have HAt := Lib.hid hat
            clear hm hy hrk hO hat
            obtain ⟨x, hx⟩ : ∃ x, l[i] = x := ⟨_, rfl⟩
            rw [hx] at x0 x1 x2 x3 x4 Hs Hm Hrk
            have HX := Lib.hid hx
            clear hx
            go_wp2_with (fail)
            refine (Hm.out _).mono ?_
            rintro e w1 ⟨rfl, hO1⟩
            have HAt1 := Lib.hid (HAt.out.only hO1 id)
            have HO2 := Lib.hid (HO.out.trans (hO1.toOld _))
            clear hO1 x0 x1 x2 x3 x4 HAt HO
            go_wp2
            obtain ⟨wo, rfl⟩ : ∃ wo : World, wo = w1 := ⟨_, rfl⟩
            go_loopw [7, 8] (fun a v wr => ∃ j : Nat, j ≤ l.length ∧ v = .int .i64 j ∧ a = .int .i64 (rkTo l x i j : Nat) ∧ Only (fun _ => False) wo wr) (fun _ v _ => l.length - (intOf v).toNat)
            case atStart => exact ⟨0, by omega, rfl, rfl, Only.refl _ _⟩
            case round =>
              obtain ⟨j, hj, rfl, rfl, hO⟩ := hrel
              by_cases h2 : j < l.length
              · have hO3 := HO2.out.trans (hO.toOld _)
                obtain ⟨y0, y1, y2, y3, y4⟩ := hcell.out wr j h2 hO3
                have hrl := rk_le l x i j
                have hmj := fun w => refMay_any l[j] w
                have HO3 := Lib.hid hO3
                have HO := Lib.hid hO
                clear hO3 hO
                by_cases hmy : (l[j]).may = true
                · have hbt : Hid (∀ W, Only (fun _ => False) wr W → Calls Try.prog 22 #[.slice (some ⟨g, off, none⟩) l.length c, .int .i64 j, .int .i64 i] W fun e w' => e = .returned (.bool (bt l[j] x j i)) ∧ Only (fun _ => False) W w') := by
                    intro W hW
                    have := better_any g off c l j i h2 h1 W (hall.out W (HO3.out.trans (hW.toOld _)))
                    rwa [HX.out] at this
                  rw [hmy] at hmj
                  have Hmj := Lib.hid hmj
                  clear hmj
                  by_cases hb : bt l[j] x j i = true
                  · have Hstep := Lib.hid (rk_step_yes h2 hmy hb)
                    rw [hb] at hbt
                    clear hmy hb
                    generalize l[j] = y at *
                    go_wp2_with (fail)
                    refine (Hmj.out _).mono ?_
                    rintro e w2 ⟨rfl, hO4⟩
                    have Hb2 := Lib.hid (hbt.out w2 hO4)
                    have HO4 := Lib.hid hO4
                    clear hO4 y0 y1 y2 y3 y4 hbt
                    go_wp2_with (fail)
                    refine Hb2.out.mono ?_
                    rintro e w3 ⟨rfl, hO5⟩
                    have HO5 := Lib.hid hO5
                    clear hO5 Hb2
                    go_wp2
                    go_roundw
                    case rel => exact ⟨j + 1, by omega, by go_num, by rw [Hstep.out]; go_num, HO.out.trans (HO4.out.trans HO5.out)⟩
                    case measure => simp [intOf]; omega
                  · have hb : bt l[j] x j i = false := by simpa using hb
                    have Hstep := Lib.hid (rk_step_no h2 (.inr hb))
                    rw [hb] at hbt
                    clear hmy hb
                    generalize l[j] = y at *
                    go_wp2_with (fail)
                    refine (Hmj.out _).mono ?_
                    rintro e w2 ⟨rfl, hO4⟩
                    have Hb2 := Lib.hid (hbt.out w2 hO4)
                    have HO4 := Lib.hid hO4
                    clear hO4 y0 y1 y2 y3 y4 hbt
                    go_wp2_with (fail)
                    refine Hb2.out.mono ?_
                    rintro e w3 ⟨rfl, hO5⟩
                    have HO5 := Lib.hid hO5
                    clear hO5 Hb2
                    go_wp2
                    go_roundw
                    case rel => exact ⟨j + 1, by omega, by go_num, by rw [Hstep.out], HO.out.trans (HO4.out.trans HO5.out)⟩
                    case measure => simp [intOf]; omega
                · have hmy : (l[j]).may = false := by simpa using hmy
                  have Hstep := Lib.hid (rk_step_no (x := x) (i := i) h2 (.inl hmy))
                  rw [hmy] at hmj
                  have Hmj := Lib.hid hmj
                  clear hmj hmy
                  generalize l[j] = y at *
                  go_wp2_with (fail)
                  refine (Hmj.out _).mono ?_
                  rintro e w2 ⟨rfl, hO4⟩
                  have HO4 := Lib.hid hO4
                  clear hO4 y0 y1 y2 y3 y4
                  go_wp2
                  go_roundw
                  case rel => exact ⟨j + 1, by omega, by go_num, by rw [Hstep.out], HO.out.trans HO4.out⟩
                  case measure => simp [intOf]; omega
              · obtain rfl : j = l.length := by omega
                have hrk := Hrk.out
                have HAt2 := Lib.hid (HAt1.out.only hO id)
                have hsz : (oc (outTo l n i)).size = n := by simp [oc, outTo_length]
                have hcell2 : ∃ u, wr.cell? ⟨gb, rkTo l x i l.length, none⟩ = some u := by
                  rw [HAt2.out.cell]
                  exact ⟨_, Array.getElem?_eq_getElem (by rw [hsz]; exact hrk)⟩
                obtain ⟨u, hu⟩ := hcell2
                have hf := HAt2.out.frozen (rkTo l x i l.length)
                have HO := Lib.hid (HO2.out.trans (hO.toOld _))
                clear hO hsz
                generalize hr : rkTo l x i l.length = r at *
                have HR := Lib.hid hr
                clear hr
                go_wp2
                go_roundw
                case rel =>
                  refine ⟨i + 1, by omega, by go_num, ?_, ?_⟩
                  · rw [Hs.out, ← oc_set]; exact HAt2.out.set _ _
                  · exact HO.out.setCell (fun _ => Hgb.out) _
                case measure => simp [intOf]; omega
          · have hy : (l[i]).may = false := by simpa using hy
            have Hs := Lib.hid (out_step_no (n := n) h1 hy)
            rw [hy] at hm
            have Hm := Lib.hid hm
            have HO := Lib.hid hO
            have HAt := Lib.hid hat
            clear hm hy hO hat
            generalize l[i] = x at *
            go_wp2_with (fail)
            refine (Hm.out _).mono ?_
            rintro e w1 ⟨rfl, hO1⟩
            have HAt1 := Lib.hid (HAt.out.only hO1 id)
            have HO2 := Lib.hid (HO.out.trans (hO1.toOld _))
            clear hO1 x0 x1 x2 x3 x4 HAt HO
            go_wp2
            go_roundw
            case rel => exact ⟨i + 1, by omega, by go_num, by rw [Hs.out]; exact HAt1.out, HO2.out⟩
            case measure => simp [intOf]; omega
        · obtain rfl : i = l.length := by omega
          have HAt := Lib.hid hat
          have HO := Lib.hid hO
          clear hat hO
          go_wp2
          go_ret
          refine ⟨gb, ?_, Hgb.out, ?_, HO.out.fresh⟩
          · rw [← HN.out]; rfl
          · rw [← HN.out]; exact HAt.out

set_option maxHeartbeats 1000000 in
theorem refOrder_nil (c : Nat) (A : Option Addr) (w : World) : Calls Try.prog 16 #[.slice A 0 c] w (OrderPost [] w) := by
  obtain ⟨i0, hi0, hz0, hz1, hz2⟩ := info_parts Try.info3
  have hmk : ∀ W : World, (Instr.makeSlice 30 (.int .i64 0) (.int .i64 0)).run Try.prog W = .ok (.slice (some ⟨W.heap.size, 0, none⟩) 0 0) (W.alloc (.cells (zeros (.int .i64 0) 0) 3)) := fun W => run_make_one (P := Try.prog) Try.underlying30 hi0 hz0 rfl hz1 0 (by omega) (by omega) W
  go_enter Try.func16, Try.ntmps16
  go_wp2
  go_loopw [3, 4] (fun a v wr => v = .int .i64 0 ∧ a = .int .i64 0 ∧ Only (fun _ => False) w wr) (fun _ _ _ => 0)
  case atStart => exact ⟨rfl, rfl, Only.refl _ _⟩
  case round =>
    obtain ⟨rfl, rfl, hO⟩ := hrel
    have HO := Lib.hid hO
    clear hO
    go_wp2
    go_loopw [6] (fun v wr' => v = .int .i64 0 ∧ wr' = wr.alloc (.cells (zeros (.int .i64 0) 0) 3)) (fun _ _ => 0)
    case atStart => exact ⟨rfl, rfl⟩
    case round =>
      obtain ⟨rfl, rfl⟩ := hrel
      go_wp2
      go_ret
      exact ⟨wr.heap.size, rfl, HO.out.size, At.new _ _ _, HO.out.alloc _⟩

theorem refOrder_any (g c : Nat) (A : Option Addr) (l : List Ln) (w : World) (hlen : l.length ≤ 1000000) (hr : Rd w g A (lv l)) :
    Calls Try.prog 16 #[.slice A l.length c] w (OrderPost l w) := by
  rcases hr with h | ⟨off, rfl, hg, hc⟩
  · have : l = [] := by
      have h2 := lv_length l
      rw [h] at h2
      exact List.eq_nil_of_length_eq_zero (by simp at h2; omega)
    subst this
    exact refOrder_nil c A w
  · exact refOrder_walk g off c l w hlen hg hc

set_option maxHeartbeats 1000000 in
theorem refPick_any (g c : Nat) (A : Option Addr) (l : List Ln) (w : World) (hlen : l.length ≤ 1000000) (hr : Rd w g A (lv l)) :
    Calls Try.prog 11 #[.slice A l.length c] w fun e w' => e = .returned (.tuple #[.int .i64 (max (pk l l.length) 0), .bool (decide (0 ≤ pk l l.length))]) ∧ Only (fun _ => False) w w' := by
  have Ho := Lib.hid (refOrder_any g c A l w hlen hr)
  clear hr
  by_cases h0 : cntTo l l.length = 0
  · have hp := none_is_none l h0
    rw [hp]
    have Hh0 := Lib.hid h0
    clear hp h0
    go_enter Try.func11, Try.ntmps11
    go_wp2_with (fail)
    refine Ho.out.mono ?_
    rintro e w1 ⟨gb, rfl, hgb, hat, hO⟩
    rw [Hh0.out]
    have HO := Lib.hid hO
    clear hO hat
    go_wp2
    go_ret2
    exact ⟨rfl, HO.out⟩
  · obtain ⟨b, hp, hf⟩ := first_is_pick l (by omega)
    rw [hp]
    have hn : 0 < cntTo l l.length := by omega
    have Hf := Lib.hid hf
    clear hf hp h0
    go_enter Try.func11, Try.ntmps11
    go_wp2_with (fail)
    refine Ho.out.mono ?_
    rintro e w1 ⟨gb, rfl, hgb, hat, hO⟩
    have hc0 : w1.cell? ⟨gb, 0, none⟩ = some (.int .i64 b) := by
      rw [hat.cell 0]
      simp only [oc, List.getElem?_toArray, List.getElem?_map, Hf.out, Option.map_some]
    generalize cntTo l l.length = n at *
    have HO := Lib.hid hO
    have e0 : ((n : Int) == 0) = false := beq_eq_false_iff_ne.2 (by omega)
    have e1 : (0 : Int) < (n : Int) := by omega
    clear hO hat
    go_wp2
    go_ret2
    exact ⟨ret_ib (by omega) (by simp), HO.out⟩

set_option maxHeartbeats 1000000 in
theorem awake_any (w : World) : Calls Try.prog 9 #[] w fun e w' => e = .returned (.bool true) ∧ Only (fun _ => False) w w' := by
  have hr : ∀ W : World, Rd (W.alloc (.cells #[.int .i64 2, .int .i64 0, .int .i64 0, .int .i64 3, .int .i64 8, .int .i64 2, .int .i64 0, .int .i64 0, .int .i64 1, .int .i64 8] 33)) W.heap.size (some ⟨W.heap.size, 0, none⟩) (lv [⟨2, 0, 0, 3, 8⟩, ⟨2, 0, 0, 1, 8⟩]) := fun W =>
    .inr ⟨0, rfl, by simp, fun j u hu => by
      have q := (At.new W 33 #[.int .i64 2, .int .i64 0, .int .i64 0, .int .i64 3, .int .i64 8, .int .i64 2, .int .i64 0, .int .i64 0, .int .i64 1, .int .i64 8]).cell j
      rw [Nat.zero_add, q, ← hu]
      simp [lv, Ln.cells]⟩
  have hp := fun W => pick_any W.heap.size 2 _ [⟨2, 0, 0, 3, 8⟩, ⟨2, 0, 0, 1, 8⟩] _ (by simp) (hr W)
  have e1 : pk [⟨2, 0, 0, 3, 8⟩, ⟨2, 0, 0, 1, 8⟩] 2 = 1 := by simp [pk, Ln.may, heldI]
  simp only [List.length_cons, List.length_nil, Nat.zero_add, Nat.reduceAdd, e1] at hp
  have Hp := Lib.hid hp
  clear hp hr e1
  go_enter Try.func9, Try.ntmps9
  go_wp2_with (fail)
  refine (Hp.out _).mono ?_
  rintro e w1 ⟨rfl, hO⟩
  have HO := Lib.hid hO
  clear hO
  go_wp2
  go_ret
  exact ⟨by simp, ((Only.refl _ _).alloc _).trans HO.out⟩

set_option maxHeartbeats 1000000 in
theorem victimPicks_walk (g c : Nat) (A : Option Addr) (l : List Ln) (w : World) (hr : Rd w g A (lv l)) :
    Calls Try.prog 3 #[.slice A l.length c] w fun e w' => e = .returned (.bool true) ∧ Below w.heap.size w w' := by
  have HR := Lib.hid hr
  clear hr
  by_cases hbig : 300 < l.length
  · go_enter Try.func3, Try.ntmps3
    go_wp2_with (go_at_call 9; refine (awake_any _).mono ?_; rintro e w0 ⟨rfl, hO⟩; have HO := Lib.hid hO; clear hO)
    go_ret
    exact ⟨rfl, HO.out.below (Nat.le_refl _) (fun _ _ h => h)⟩
  · have hsm : l.length ≤ 300 := by omega
    clear hbig
    go_enter Try.func3, Try.ntmps3
    go_wp2_with (fail)
    refine (awake_any _).mono ?_
    rintro e w0 ⟨rfl, hO⟩
    have Hp := Lib.hid (pick_any g c A l w0 (by omega) (HR.out.only hO id))
    have HO := Lib.hid hO
    clear hO
    go_wp2_with (fail)
    refine Hp.out.mono ?_
    rintro e w1 ⟨rfl, hO1⟩
    have HO1 := Lib.hid (HO.out.trans hO1)
    have Hq := Lib.hid (refPick_any g c A l w1 (by omega) (HR.out.only (HO.out.trans hO1) id))
    clear hO1 Hp
    generalize pk l l.length = b at *
    generalize max b 0 = b2 at *
    generalize decide (0 ≤ b) = t at *
    go_wp2_with (fail)
    refine Hq.out.mono ?_
    rintro e w2 ⟨rfl, hO2⟩
    have HO2 := Lib.hid (HO1.out.trans hO2)
    clear hO2 Hq
    go_wp2
    go_ret
    exact ⟨by simp, HO2.out.below (Nat.le_refl _) (fun _ _ h => h)⟩

set_option maxHeartbeats 1000000 in
theorem victimGains_walk (g c : Nat) (A : Option Addr) (l : List Ln) (i : Int) (w : World) (hr : Rd w g A (lv l)) :
    Calls Try.prog 4 #[.slice A l.length c, .int .i64 i] w fun e w' => e = .returned (.bool true) ∧ Below w.heap.size w w' := by
  have HR := Lib.hid hr
  clear hr
  by_cases hbig : 300 < l.length
  · go_enter Try.func4, Try.ntmps4
    go_wp2_with (go_at_call 9; refine (awake_any _).mono ?_; rintro e w0 ⟨rfl, hO⟩; have HO := Lib.hid hO; clear hO)
    go_ret
    exact ⟨rfl, HO.out.below (Nat.le_refl _) (fun _ _ h => h)⟩
  · have hsm : l.length ≤ 300 := by omega
    clear hbig
    go_enter Try.func4, Try.ntmps4
    go_wp2_with (fail)
    refine (awake_any _).mono ?_
    rintro e w0 ⟨rfl, hO⟩
    have Hp := Lib.hid (gain_any g c A l i w0 (HR.out.only hO id))
    have HO := Lib.hid hO
    clear hO
    go_wp2_with (fail)
    refine Hp.out.mono ?_
    rintro e w1 ⟨rfl, hO1⟩
    have HO1 := Lib.hid (HO.out.trans hO1)
    have Hq := Lib.hid (refGain_any g c A l i w1 (HR.out.only (HO.out.trans hO1) id))
    clear hO1 Hp
    generalize gainI l i = b at *
    go_wp2_with (fail)
    refine Hq.out.mono ?_
    rintro e w2 ⟨rfl, hO2⟩
    have HO2 := Lib.hid (HO1.out.trans hO2)
    clear hO2 Hq
    go_wp2
    go_ret
    exact ⟨by simp, HO2.out.below (Nat.le_refl _) (fun _ _ h => h)⟩

end Go.Proofs.Ytbcjpchjidgpeaa
