/- Queue: Busy. -/
import Derived.Test.YtgaikacjophngaaH
namespace Go.Proofs.Ytgaikacjophngaa
open Go.RowKit

theorem jv_get (l : List SJ) (i j : Nat) (hi : i < l.length) (hj : j < 5) : (jv l)[i * 5 + j]? = (l[i]).cells[j]? := by
  induction l generalizing i with
  | nil => simp at hi
  | cons x t ih =>
    have hc : x.cells.length = 5 := rfl
    cases i with
    | zero =>
      simp only [jv, List.flatMap_cons, Nat.zero_mul, Nat.zero_add, List.getElem_cons_zero]
      rw [List.getElem?_append_left (by omega)]
    | succ i =>
      simp only [jv, List.flatMap_cons, List.getElem_cons_succ]
      rw [List.getElem?_append_right (by omega)]
      have := ih i (by simpa using hi)
      rw [← this]
      congr 1
      omega

/-- The five cells of the job at place m. -/
theorem job_cells {w : World} {A : Option Addr} {n c g : Nat} {js : List SJ} {m : Nat} (h : RowAt w A n c g 31 5 (jv js)) (hm : m < js.length) :
    ∃ off, A = some ⟨g, off, none⟩ ∧ w.cell? ⟨g, off + m * 5, none⟩ = some (.int .i64 js[m].j.k) ∧ w.cell? ⟨g, off + m * 5 + 1, none⟩ = some (.int .i64 js[m].j.l) ∧ w.cell? ⟨g, off + m * 5 + 2, none⟩ = some (.int .i64 js[m].j.u) ∧
      w.cell? ⟨g, off + m * 5 + 3, none⟩ = some (.int .i64 js[m].j.p) ∧ w.cell? ⟨g, off + m * 5 + 4, none⟩ = some (.slice js[m].A js[m].j.pos.length js[m].c) := by
  obtain ⟨off, hA, hlt, hc⟩ := h.rd.at (by intro e; have := jv_len js; rw [e] at this; simp at this; omega)
  have hh : ∀ j, j < 5 → ∀ u, (js[m]).cells[j]? = some u → w.cell? ⟨g, off + m * 5 + j, none⟩ = some u := by
    intro j hj u hu
    have := hc (m * 5 + j) u (by rw [jv_get js m j hm hj]; exact hu)
    rw [← Nat.add_assoc] at this
    exact this
  exact ⟨off, hA, hh 0 (by omega) _ rfl, hh 1 (by omega) _ rfl, hh 2 (by omega) _ rfl, hh 3 (by omega) _ rfl, hh 4 (by omega) _ rfl⟩

def cnt (js : List SJ) (line : Int) : Nat := js.countP (fun s => s.j.l == line)
theorem cnt_le (js : List SJ) (line : Int) : cnt js line ≤ js.length := List.countP_le_length
theorem cnt_take (js : List SJ) (line : Int) (m : Nat) (h : m < js.length) : cnt (js.take (m + 1)) line = cnt (js.take m) line + if js[m].j.l = line then 1 else 0 := by
  rw [List.take_add_one, List.getElem?_eq_getElem h]
  simp only [cnt, Option.toList_some, List.countP_append, List.countP_cons, List.countP_nil, beq_iff_eq]
  omega
def busy (q : Nat → QRow) (line : Int) : Nat := cnt (q 0).js line + cnt (q 1).js line + cnt (q 2).js line + cnt (q 3).js line
def busyTo (q : Nat → QRow) (line : Int) : Nat → Nat
  | 0 => 0
  | k + 1 => busyTo q line k + cnt (q k).js line

theorem run_index4_0 (v0 v1 v2 v3 : Value) (w : World) :
    (Instr.index 48 (.agg #[v0, v1, v2, v3]) (.int .i64 0)).run Try.prog w = .ok v0 w := by
  simp [Instr.index, run_underlying Try.underlying48, asIntOf, go_sem]
theorem run_index4_1 (v0 v1 v2 v3 : Value) (w : World) :
    (Instr.index 48 (.agg #[v0, v1, v2, v3]) (.int .i64 1)).run Try.prog w = .ok v1 w := by
  simp [Instr.index, run_underlying Try.underlying48, asIntOf, go_sem]
theorem run_index4_2 (v0 v1 v2 v3 : Value) (w : World) :
    (Instr.index 48 (.agg #[v0, v1, v2, v3]) (.int .i64 2)).run Try.prog w = .ok v2 w := by
  simp [Instr.index, run_underlying Try.underlying48, asIntOf, go_sem]
theorem run_index4_3 (v0 v1 v2 v3 : Value) (w : World) :
    (Instr.index 48 (.agg #[v0, v1, v2, v3]) (.int .i64 3)).run Try.prog w = .ok v3 w := by
  simp [Instr.index, run_underlying Try.underlying48, asIntOf, go_sem]

set_option maxRecDepth 100000 in
set_option maxHeartbeats 8000000 in
theorem busy_any (b chans : Nat) (q : Nat → QRow) (line : Int) (w : World) (h : QAt w b chans q) (hl : ∀ i, i < 4 → (q i).js.length ≤ 100000) :
    Calls Try.prog 16 #[.pointer (some ⟨b, 0, none⟩), .int .i64 line] w fun e w' => e = .returned (.int .i64 (busy q line)) ∧ Only (fun _ => False) w w' := by
  have HQ := Lib.hid h
  have HL := Lib.hid hl
  have c1 := h.cell 0 (by omega)
  have c2 := h.cell 1 (by omega)
  have c3 := h.cell 2 (by omega)
  have c4 := h.cell 3 (by omega)
  simp only [QRow.val, Nat.add_zero, Nat.reduceAdd] at c1 c2 c3 c4
  clear h hl
  go_enter Try.func16, Try.ntmps16
  go_wp2_with (fail)
  go_loopw [5, 14] (fun v5 v14 wr => ∃ k : Nat, k ≤ 4 ∧ v14 = .int .i64 k ∧ v5 = .int .i64 (busyTo q line k) ∧ busyTo q line k ≤ k * 100000 ∧ Only (fun _ => False) w wr) (fun v5 v14 wr => (4 - intOf v14).toNat)
  case atStart => exact ⟨0, by omega, rfl, rfl, by simp [busyTo], Only.refl _ _⟩
  case round =>
    obtain ⟨k, hk, rfl, rfl, hbd, hO⟩ := hrel
    have HO := Lib.hid hO
    clear hO c1 c2 c3 c4
    by_cases hk4 : k = 4
    · subst hk4
      go_wp2
      go_ret
      exact ⟨by simp [busy, busyTo], HO.out⟩
    · have hbs : busyTo q line (k + 1) = busyTo q line k + cnt (q k).js line := rfl
      have HBS := Lib.hid hbs
      have hcl := cnt_le (q k).js line
      have hll := HL.out k (by omega)
      have hrow := HQ.out.row k (by omega)
      have HROW := Lib.hid hrow
      obtain ⟨B, hB⟩ : ∃ B, busyTo q line k = B := ⟨_, rfl⟩
      rw [hB] at hbd HBS ⊢
      clear hbs hrow hB
      have hkk : k = 0 ∨ k = 1 ∨ k = 2 ∨ k = 3 := by omega
      rcases hkk with rfl | rfl | rfl | rfl
      · have hix := fun (w : World) => run_index4_0 (.slice (q 0).A (q 0).js.length (q 0).c) (.slice (q 1).A (q 1).js.length (q 1).c) (.slice (q 2).A (q 2).js.length (q 2).c) (.slice (q 3).A (q 3).js.length (q 3).c) w
        have zk : ((0 : Nat) : Int) = 0 := rfl
        have hB : B ≤ 300000 := by omega
        simp only [zk]
        go_wp2_with (fail)
        clear hix
        obtain ⟨wo, rfl⟩ : ∃ wo : World, wo = wr := ⟨_, rfl⟩
        go_loopw [5, 19] (fun v5 v19 wq => ∃ m : Nat, m ≤ (q 0).js.length ∧ v19 = .int .i64 m ∧ v5 = .int .i64 ((B + cnt ((q 0).js.take m) line : Nat) : Int) ∧ Only (fun _ => False) w wq) (fun v5 v19 wq => ((q 0).js.length - intOf v19).toNat)
        case atStart => exact ⟨0, by omega, rfl, by simp [cnt], HO.out⟩
        case round =>
          obtain ⟨m, hm, rfl, rfl, hOm⟩ := hrel
          have hc1 : cnt ((q 0).js.take m) line ≤ 100000 := by have := cnt_le ((q 0).js.take m) line; simp at this; omega
          have HOm := Lib.hid hOm
          clear hOm
          by_cases hmm : m < (q 0).js.length
          · obtain ⟨off, hA, e0, e1, e2, e3, e4⟩ := job_cells (HROW.out.only HOm.out (fun _ => id)) hmm
            have hct := cnt_take (q 0).js line m hmm
            have HCT := Lib.hid hct
            obtain ⟨C, hC⟩ : ∃ C, cnt ((q 0).js.take m) line = C := ⟨_, rfl⟩
            rw [hC] at hc1 HCT ⊢
            rw [hA]
            have hi1 : (m : Int) < (q 0).js.length := by omega
            clear hct hC hA
            obtain ⟨x, hx⟩ : ∃ x, (q 0).js[m].j.l = x := ⟨_, rfl⟩
            rw [hx] at e1 HCT
            clear hx
            by_cases hl : x = line
            · subst hl
              have hcc : cnt ((q 0).js.take (m + 1)) x = C + 1 := by rw [HCT.out, if_pos rfl]
              have HCC := Lib.hid hcc
              clear hcc HCT
              go_wp2
              go_roundw
              case rel => exact ⟨m + 1, by omega, by simp, by rw [HCC.out]; try (congr 1; try omega), HOm.out.alloc _⟩
              case measure => simp [intOf]; omega
            · have hcc : cnt ((q 0).js.take (m + 1)) line = C := by rw [HCT.out, if_neg hl, Nat.add_zero]
              have hne : (x == line) = false := beq_false_of_ne hl
              have HCC := Lib.hid hcc
              clear hcc HCT
              go_wp2
              go_roundw
              case rel => exact ⟨m + 1, by omega, by simp, by rw [HCC.out], HOm.out.alloc _⟩
              case measure => simp [intOf]; omega
          · obtain rfl : m = (q 0).js.length := by omega
            have ht : cnt ((q 0).js.take (q 0).js.length) line = cnt (q 0).js line := by rw [List.take_length]
            have HT := Lib.hid ht
            clear ht
            go_wp2
            go_roundw
            case rel => exact ⟨0 + 1, by omega, by simp, by rw [HBS.out, HT.out], by rw [HBS.out]; omega, HOm.out⟩
            case measure => simp [intOf]; try omega
      · have hix := fun (w : World) => run_index4_1 (.slice (q 0).A (q 0).js.length (q 0).c) (.slice (q 1).A (q 1).js.length (q 1).c) (.slice (q 2).A (q 2).js.length (q 2).c) (.slice (q 3).A (q 3).js.length (q 3).c) w
        have zk : ((1 : Nat) : Int) = 1 := rfl
        have hB : B ≤ 300000 := by omega
        simp only [zk]
        go_wp2_with (fail)
        clear hix
        obtain ⟨wo, rfl⟩ : ∃ wo : World, wo = wr := ⟨_, rfl⟩
        go_loopw [5, 19] (fun v5 v19 wq => ∃ m : Nat, m ≤ (q 1).js.length ∧ v19 = .int .i64 m ∧ v5 = .int .i64 ((B + cnt ((q 1).js.take m) line : Nat) : Int) ∧ Only (fun _ => False) w wq) (fun v5 v19 wq => ((q 1).js.length - intOf v19).toNat)
        case atStart => exact ⟨0, by omega, rfl, by simp [cnt], HO.out⟩
        case round =>
          obtain ⟨m, hm, rfl, rfl, hOm⟩ := hrel
          have hc1 : cnt ((q 1).js.take m) line ≤ 100000 := by have := cnt_le ((q 1).js.take m) line; simp at this; omega
          have HOm := Lib.hid hOm
          clear hOm
          by_cases hmm : m < (q 1).js.length
          · obtain ⟨off, hA, e0, e1, e2, e3, e4⟩ := job_cells (HROW.out.only HOm.out (fun _ => id)) hmm
            have hct := cnt_take (q 1).js line m hmm
            have HCT := Lib.hid hct
            obtain ⟨C, hC⟩ : ∃ C, cnt ((q 1).js.take m) line = C := ⟨_, rfl⟩
            rw [hC] at hc1 HCT ⊢
            rw [hA]
            have hi1 : (m : Int) < (q 1).js.length := by omega
            clear hct hC hA
            obtain ⟨x, hx⟩ : ∃ x, (q 1).js[m].j.l = x := ⟨_, rfl⟩
            rw [hx] at e1 HCT
            clear hx
            by_cases hl : x = line
            · subst hl
              have hcc : cnt ((q 1).js.take (m + 1)) x = C + 1 := by rw [HCT.out, if_pos rfl]
              have HCC := Lib.hid hcc
              clear hcc HCT
              go_wp2
              go_roundw
              case rel => exact ⟨m + 1, by omega, by simp, by rw [HCC.out]; try (congr 1; try omega), HOm.out.alloc _⟩
              case measure => simp [intOf]; omega
            · have hcc : cnt ((q 1).js.take (m + 1)) line = C := by rw [HCT.out, if_neg hl, Nat.add_zero]
              have hne : (x == line) = false := beq_false_of_ne hl
              have HCC := Lib.hid hcc
              clear hcc HCT
              go_wp2
              go_roundw
              case rel => exact ⟨m + 1, by omega, by simp, by rw [HCC.out], HOm.out.alloc _⟩
              case measure => simp [intOf]; omega
          · obtain rfl : m = (q 1).js.length := by omega
            have ht : cnt ((q 1).js.take (q 1).js.length) line = cnt (q 1).js line := by rw [List.take_length]
            have HT := Lib.hid ht
            clear ht
            go_wp2
            go_roundw
            case rel => exact ⟨1 + 1, by omega, by simp, by rw [HBS.out, HT.out], by rw [HBS.out]; omega, HOm.out⟩
            case measure => simp [intOf]; try omega
      · have hix := fun (w : World) => run_index4_2 (.slice (q 0).A (q 0).js.length (q 0).c) (.slice (q 1).A (q 1).js.length (q 1).c) (.slice (q 2).A (q 2).js.length (q 2).c) (.slice (q 3).A (q 3).js.length (q 3).c) w
        have zk : ((2 : Nat) : Int) = 2 := rfl
        have hB : B ≤ 300000 := by omega
        simp only [zk]
        go_wp2_with (fail)
        clear hix
        obtain ⟨wo, rfl⟩ : ∃ wo : World, wo = wr := ⟨_, rfl⟩
        go_loopw [5, 19] (fun v5 v19 wq => ∃ m : Nat, m ≤ (q 2).js.length ∧ v19 = .int .i64 m ∧ v5 = .int .i64 ((B + cnt ((q 2).js.take m) line : Nat) : Int) ∧ Only (fun _ => False) w wq) (fun v5 v19 wq => ((q 2).js.length - intOf v19).toNat)
        case atStart => exact ⟨0, by omega, rfl, by simp [cnt], HO.out⟩
        case round =>
          obtain ⟨m, hm, rfl, rfl, hOm⟩ := hrel
          have hc1 : cnt ((q 2).js.take m) line ≤ 100000 := by have := cnt_le ((q 2).js.take m) line; simp at this; omega
          have HOm := Lib.hid hOm
          clear hOm
          by_cases hmm : m < (q 2).js.length
          · obtain ⟨off, hA, e0, e1, e2, e3, e4⟩ := job_cells (HROW.out.only HOm.out (fun _ => id)) hmm
            have hct := cnt_take (q 2).js line m hmm
            have HCT := Lib.hid hct
            obtain ⟨C, hC⟩ : ∃ C, cnt ((q 2).js.take m) line = C := ⟨_, rfl⟩
            rw [hC] at hc1 HCT ⊢
            rw [hA]
            have hi1 : (m : Int) < (q 2).js.length := by omega
            clear hct hC hA
            obtain ⟨x, hx⟩ : ∃ x, (q 2).js[m].j.l = x := ⟨_, rfl⟩
            rw [hx] at e1 HCT
            clear hx
            by_cases hl : x = line
            · subst hl
              have hcc : cnt ((q 2).js.take (m + 1)) x = C + 1 := by rw [HCT.out, if_pos rfl]
              have HCC := Lib.hid hcc
              clear hcc HCT
              go_wp2
              go_roundw
              case rel => exact ⟨m + 1, by omega, by simp, by rw [HCC.out]; try (congr 1; try omega), HOm.out.alloc _⟩
              case measure => simp [intOf]; omega
            · have hcc : cnt ((q 2).js.take (m + 1)) line = C := by rw [HCT.out, if_neg hl, Nat.add_zero]
              have hne : (x == line) = false := beq_false_of_ne hl
              have HCC := Lib.hid hcc
              clear hcc HCT
              go_wp2
              go_roundw
              case rel => exact ⟨m + 1, by omega, by simp, by rw [HCC.out], HOm.out.alloc _⟩
              case measure => simp [intOf]; omega
          · obtain rfl : m = (q 2).js.length := by omega
            have ht : cnt ((q 2).js.take (q 2).js.length) line = cnt (q 2).js line := by rw [List.take_length]
            have HT := Lib.hid ht
            clear ht
            go_wp2
            go_roundw
            case rel => exact ⟨2 + 1, by omega, by simp, by rw [HBS.out, HT.out], by rw [HBS.out]; omega, HOm.out⟩
            case measure => simp [intOf]; try omega
      · have hix := fun (w : World) => run_index4_3 (.slice (q 0).A (q 0).js.length (q 0).c) (.slice (q 1).A (q 1).js.length (q 1).c) (.slice (q 2).A (q 2).js.length (q 2).c) (.slice (q 3).A (q 3).js.length (q 3).c) w
        have zk : ((3 : Nat) : Int) = 3 := rfl
        have hB : B ≤ 300000 := by omega
        simp only [zk]
        go_wp2_with (fail)
        clear hix
        obtain ⟨wo, rfl⟩ : ∃ wo : World, wo = wr := ⟨_, rfl⟩
        go_loopw [5, 19] (fun v5 v19 wq => ∃ m : Nat, m ≤ (q 3).js.length ∧ v19 = .int .i64 m ∧ v5 = .int .i64 ((B + cnt ((q 3).js.take m) line : Nat) : Int) ∧ Only (fun _ => False) w wq) (fun v5 v19 wq => ((q 3).js.length - intOf v19).toNat)
        case atStart => exact ⟨0, by omega, rfl, by simp [cnt], HO.out⟩
        case round =>
          obtain ⟨m, hm, rfl, rfl, hOm⟩ := hrel
          have hc1 : cnt ((q 3).js.take m) line ≤ 100000 := by have := cnt_le ((q 3).js.take m) line; simp at this; omega
          have HOm := Lib.hid hOm
          clear hOm
          by_cases hmm : m < (q 3).js.length
          · obtain ⟨off, hA, e0, e1, e2, e3, e4⟩ := job_cells (HROW.out.only HOm.out (fun _ => id)) hmm
            have hct := cnt_take (q 3).js line m hmm
            have HCT := Lib.hid hct
            obtain ⟨C, hC⟩ : ∃ C, cnt ((q 3).js.take m) line = C := ⟨_, rfl⟩
            rw [hC] at hc1 HCT ⊢
            rw [hA]
            have hi1 : (m : Int) < (q 3).js.length := by omega
            clear hct hC hA
            obtain ⟨x, hx⟩ : ∃ x, (q 3).js[m].j.l = x := ⟨_, rfl⟩
            rw [hx] at e1 HCT
            clear hx
            by_cases hl : x = line
            · subst hl
              have hcc : cnt ((q 3).js.take (m + 1)) x = C + 1 := by rw [HCT.out, if_pos rfl]
              have HCC := Lib.hid hcc
              clear hcc HCT
              go_wp2
              go_roundw
              case rel => exact ⟨m + 1, by omega, by simp, by rw [HCC.out]; try (congr 1; try omega), HOm.out.alloc _⟩
              case measure => simp [intOf]; omega
            · have hcc : cnt ((q 3).js.take (m + 1)) line = C := by rw [HCT.out, if_neg hl, Nat.add_zero]
              have hne : (x == line) = false := beq_false_of_ne hl
              have HCC := Lib.hid hcc
              clear hcc HCT
              go_wp2
              go_roundw
              case rel => exact ⟨m + 1, by omega, by simp, by rw [HCC.out], HOm.out.alloc _⟩
              case measure => simp [intOf]; omega
          · obtain rfl : m = (q 3).js.length := by omega
            have ht : cnt ((q 3).js.take (q 3).js.length) line = cnt (q 3).js line := by rw [List.take_length]
            have HT := Lib.hid ht
            clear ht
            go_wp2
            go_roundw
            case rel => exact ⟨3 + 1, by omega, by simp, by rw [HBS.out, HT.out], by rw [HBS.out]; omega, HOm.out⟩
            case measure => simp [intOf]; try omega
end Go.Proofs.Ytgaikacjophngaa
