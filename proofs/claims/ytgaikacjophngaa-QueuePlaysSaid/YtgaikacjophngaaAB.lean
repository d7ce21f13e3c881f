/- Queue: the reference's Len, Busy, First. -/
import Derived.Test.YtgaikacjophngaaAA
namespace Go.Proofs.Ytgaikacjophngaa
open Go.RowKit

def has (line : Int) (x : RL) : Bool := x.s.j.l == line && !x.gone

theorem count_take (p : RL → Bool) (rl : List RL) (m : Nat) (h : m < rl.length) : (rl.take (m + 1)).countP p = (rl.take m).countP p + if p rl[m] = true then 1 else 0 := by
  rw [List.take_add_one, List.getElem?_eq_getElem h]
  simp only [Option.toList_some, List.countP_append, List.countP_cons, List.countP_nil]
  omega
theorem count_le (p : RL → Bool) (rl : List RL) (m : Nat) : (rl.take m).countP p ≤ m := by
  have := List.countP_le_length (p := p) (l := rl.take m)
  simp at this; omega

set_option maxRecDepth 100000 in
set_option maxHeartbeats 4000000 in
theorem refLen_any (rb chans : Nat) (A : Option Addr) (cap g : Nat) (rl : List RL) (c : Int) (w : World) (h : RAt w rb chans A cap g rl) (hl : rl.length ≤ 100000) :
    Calls Try.prog 23 #[.pointer (some ⟨rb, 0, none⟩), .int .i64 c] w fun e w' => e = .returned (.int .i64 (rl.countP (hit c))) ∧ w' = w := by
  have HR := Lib.hid h
  have c1 := h.st.cell 1
  simp at c1
  clear h
  go_enter Try.func23, Try.ntmps23
  go_wp2
  go_loop [5, 6] (fun v5 v6 => ∃ k : Nat, k ≤ rl.length ∧ v6 = .int .i64 k ∧ v5 = .int .i64 (((rl.take k).countP (hit c) : Nat) : Int)) (fun v5 v6 => (rl.length - intOf v6).toNat)
  case atStart => exact ⟨0, by omega, rfl, rfl⟩
  case round =>
    obtain ⟨k, hk, rfl, rfl⟩ := hrel
    have hle := count_le (hit c) rl k
    by_cases hkm : k < rl.length
    · have i0 : (0 : Int) ≤ k := by omega
      have i1 : (k : Int) < rl.length := by omega
      obtain ⟨off, hA, d0, d1, d2, d3, d4, d5, d6⟩ := HR.out.cells hkm
      have hct := count_take (hit c) rl k hkm
      obtain ⟨C, hC⟩ : ∃ C, (rl.take k).countP (hit c) = C := ⟨_, rfl⟩
      rw [hC] at hle hct ⊢
      have HCT := Lib.hid hct
      rw [hA] at c1
      clear hA hC hct
      generalize rl[k] = x at *
      obtain ⟨xc, ⟨⟨jk, jl, ju, jp, pos⟩, Ao, co, go⟩, xg⟩ := x
      simp only [hit] at HCT
      simp only at d0 d2 d6
      by_cases hc : xc = c
      · subst hc
        cases xg with
        | true =>
          have hcc : (rl.take (k + 1)).countP (hit xc) = C := by have := HCT.out; simpa using this
          have HCC := Lib.hid hcc
          clear hcc HCT
          go_wp2
          go_round
          case rel => exact ⟨k + 1, by omega, by simp, by rw [HCC.out]⟩
          case measure => simp [intOf]; omega
        | false =>
          have hcc : (rl.take (k + 1)).countP (hit xc) = C + 1 := by have := HCT.out; simpa using this
          have HCC := Lib.hid hcc
          clear hcc HCT
          go_wp2
          go_round
          case rel => exact ⟨k + 1, by omega, by simp, by rw [HCC.out]; try (congr 1; try omega)⟩
          case measure => simp [intOf]; omega
      · have hne : (xc == c) = false := beq_false_of_ne hc
        have hcc : (rl.take (k + 1)).countP (hit c) = C := by have := HCT.out; simpa [hc] using this
        have HCC := Lib.hid hcc
        clear hcc HCT
        go_wp2
        go_round
        case rel => exact ⟨k + 1, by omega, by simp, by rw [HCC.out]⟩
        case measure => simp [intOf]; omega
    · obtain rfl : k = rl.length := by omega
      rw [List.take_length]
      go_wp2
      go_ret
      exact ⟨rfl, rfl⟩

set_option maxRecDepth 100000 in
set_option maxHeartbeats 4000000 in
theorem refBusy_any (rb chans : Nat) (A : Option Addr) (cap g : Nat) (rl : List RL) (c : Int) (w : World) (h : RAt w rb chans A cap g rl) (hl : rl.length ≤ 100000) :
    Calls Try.prog 24 #[.pointer (some ⟨rb, 0, none⟩), .int .i64 c] w fun e w' => e = .returned (.int .i64 (rl.countP (has c))) ∧ w' = w := by
  have HR := Lib.hid h
  have c1 := h.st.cell 1
  simp at c1
  clear h
  go_enter Try.func24, Try.ntmps24
  go_wp2
  go_loop [5, 6] (fun v5 v6 => ∃ k : Nat, k ≤ rl.length ∧ v6 = .int .i64 k ∧ v5 = .int .i64 (((rl.take k).countP (has c) : Nat) : Int)) (fun v5 v6 => (rl.length - intOf v6).toNat)
  case atStart => exact ⟨0, by omega, rfl, rfl⟩
  case round =>
    obtain ⟨k, hk, rfl, rfl⟩ := hrel
    have hle := count_le (has c) rl k
    by_cases hkm : k < rl.length
    · have i0 : (0 : Int) ≤ k := by omega
      have i1 : (k : Int) < rl.length := by omega
      obtain ⟨off, hA, d0, d1, d2, d3, d4, d5, d6⟩ := HR.out.cells hkm
      have hct := count_take (has c) rl k hkm
      obtain ⟨C, hC⟩ : ∃ C, (rl.take k).countP (has c) = C := ⟨_, rfl⟩
      rw [hC] at hle hct ⊢
      have HCT := Lib.hid hct
      rw [hA] at c1
      clear hA hC hct
      generalize rl[k] = x at *
      obtain ⟨xc, ⟨⟨jk, jl, ju, jp, pos⟩, Ao, co, go⟩, xg⟩ := x
      simp only [has] at HCT
      simp only at d0 d2 d6
      by_cases hc : jl = c
      · subst hc
        cases xg with
        | true =>
          have hcc : (rl.take (k + 1)).countP (has jl) = C := by have := HCT.out; simpa using this
          have HCC := Lib.hid hcc
          clear hcc HCT
          go_wp2
          go_round
          case rel => exact ⟨k + 1, by omega, by simp, by rw [HCC.out]⟩
          case measure => simp [intOf]; omega
        | false =>
          have hcc : (rl.take (k + 1)).countP (has jl) = C + 1 := by have := HCT.out; simpa using this
          have HCC := Lib.hid hcc
          clear hcc HCT
          go_wp2
          go_round
          case rel => exact ⟨k + 1, by omega, by simp, by rw [HCC.out]; try (congr 1; try omega)⟩
          case measure => simp [intOf]; omega
      · have hne : (jl == c) = false := beq_false_of_ne hc
        have hcc : (rl.take (k + 1)).countP (has c) = C := by have := HCT.out; simpa [hc] using this
        have HCC := Lib.hid hcc
        clear hcc HCT
        go_wp2
        go_round
        case rel => exact ⟨k + 1, by omega, by simp, by rw [HCC.out]⟩
        case measure => simp [intOf]; omega
    · obtain rfl : k = rl.length := by omega
      rw [List.take_length]
      go_wp2
      go_ret
      exact ⟨rfl, rfl⟩

set_option maxRecDepth 100000 in
set_option maxHeartbeats 4000000 in
theorem refFirst_no (rb chans : Nat) (A : Option Addr) (cap g : Nat) (rl : List RL) (c : Int) (w : World) (h : RAt w rb chans A cap g rl) (hl : rl.length ≤ 100000) (hno : ∀ j (hj : j < rl.length), hit c rl[j] = false) :
    Calls Try.prog 22 #[.pointer (some ⟨rb, 0, none⟩), .int .i64 c] w fun e w' => e = .returned (.tuple #[zeroJob, .bool false]) ∧ Only (fun _ => False) w w' := by
  have HF := Lib.hid (first_no rb chans A cap g rl c _ (h.quiet ((Only.refl (fun _ => False) w).alloc (.cells #[.int .i64 0, .int .i64 0, .int .i64 0, .int .i64 0, .slice none 0 0] 31))) hl hno)
  clear h hno
  go_enter Try.func22, Try.ntmps22
  go_wp2_with (fail)
  refine HF.out.mono ?_
  rintro e w1 ⟨rfl, rfl⟩
  go_wp2
  refine bodyPost_ret (v := .tuple #[zeroJob, .bool false]) (results_row_tmp (p := 4) (u := 5) (ty := 31) rfl _ _ w.heap.size 31 #[.int .i64 0, .int .i64 0, .int .i64 0, .int .i64 0, .slice none 0 0] (0, 0) _ rfl (At.new _ _ _) Try.underlying31 rfl (by kernel_rfl)) rfl ?_
  exact ⟨rfl, (Only.refl _ _).alloc _⟩

set_option maxRecDepth 100000 in
set_option maxHeartbeats 4000000 in
theorem refPop_no (rb chans : Nat) (A : Option Addr) (cap g : Nat) (rl : List RL) (c : Int) (w : World) (h : RAt w rb chans A cap g rl) (hl : rl.length ≤ 100000) (hno : ∀ j (hj : j < rl.length), hit c rl[j] = false) :
    Calls Try.prog 21 #[.pointer (some ⟨rb, 0, none⟩), .int .i64 c] w fun e w' => e = .returned (.tuple #[zeroJob, .bool false]) ∧ Only (fun _ => False) w w' := by
  have HF := Lib.hid (first_no rb chans A cap g rl c _ (h.quiet ((Only.refl (fun _ => False) w).alloc (.cells #[.int .i64 0, .int .i64 0, .int .i64 0, .int .i64 0, .slice none 0 0] 31))) hl hno)
  clear h hno
  go_enter Try.func21, Try.ntmps21
  go_wp2_with (fail)
  refine HF.out.mono ?_
  rintro e w1 ⟨rfl, rfl⟩
  go_wp2
  refine bodyPost_ret (v := .tuple #[zeroJob, .bool false]) (results_row_tmp (p := 4) (u := 5) (ty := 31) rfl _ _ w.heap.size 31 #[.int .i64 0, .int .i64 0, .int .i64 0, .int .i64 0, .slice none 0 0] (0, 0) _ rfl (At.new _ _ _) Try.underlying31 rfl (by kernel_rfl)) rfl ?_
  exact ⟨rfl, (Only.refl _ _).alloc _⟩

theorem only_job (w2 : World) (x : Nat) (k l u p : Int) (v : Value) : Only (fun i => i = x) w2 (((((w2.setCell ⟨x, 0, none⟩ (.int .i64 k)).setCell ⟨x, 1, none⟩ (.int .i64 l)).setCell ⟨x, 2, none⟩ (.int .i64 u)).setCell ⟨x, 3, none⟩ (.int .i64 p)).setCell ⟨x, 4, none⟩ v) := by
  refine Only.setCell (S := fun i => i = x) (p := ⟨x, 4, none⟩) ?_ (fun _ => rfl) _
  refine Only.setCell (S := fun i => i = x) (p := ⟨x, 3, none⟩) ?_ (fun _ => rfl) _
  refine Only.setCell (S := fun i => i = x) (p := ⟨x, 2, none⟩) ?_ (fun _ => rfl) _
  refine Only.setCell (S := fun i => i = x) (p := ⟨x, 1, none⟩) ?_ (fun _ => rfl) _
  refine Only.setCell (S := fun i => i = x) (p := ⟨x, 0, none⟩) ?_ (fun _ => rfl) _
  exact Only.refl _ _

set_option maxRecDepth 100000 in
set_option maxHeartbeats 4000000 in
theorem refFirst_at (rb chans : Nat) (A : Option Addr) (cap g : Nat) (rl : List RL) (c : Int) (m : Nat) (w : World) (h : RAt w rb chans A cap g rl) (hm : m < rl.length) (hl : rl.length ≤ 100000) (hit_ : hit c rl[m] = true) (hno : ∀ j (hj : j < rl.length), j < m → hit c rl[j] = false) :
    Calls Try.prog 22 #[.pointer (some ⟨rb, 0, none⟩), .int .i64 c] w (FirstPost rl[m].s.j w) := by
  have hR := h.quiet ((Only.refl (fun _ => False) w).alloc (.cells #[.int .i64 0, .int .i64 0, .int .i64 0, .int .i64 0, .slice none 0 0] 31))
  have HF := Lib.hid (first_at rb chans A cap g rl c m _ hR hm hl hit_ hno)
  have HZ := Lib.hid (At.new w 31 #[.int .i64 0, .int .i64 0, .int .i64 0, .int .i64 0, .slice none 0 0])
  have c1 := hR.st.cell 1
  simp at c1
  obtain ⟨off, hA, d0, d1, d2, d3, d4, d5, d6⟩ := hR.cells hm
  rw [hA] at c1
  have i0 : (0 : Int) ≤ m := by omega
  have i1 : (m : Int) < rl.length := by omega
  have hok := hR.ok _ (List.getElem_mem hm)
  generalize rl[m] = x at *
  obtain ⟨xc, ⟨⟨jk, jl, ju, jp, pos⟩, Ao, co, go⟩, xg⟩ := x
  simp only at d0 d1 d2 d3 d4 d5 d6
  have HOw := Lib.hid (refOwn_any jk jl ju jp pos Ao co go _ hok.row.rd hok.len)
  clear h hno hit_ hA hok hR
  go_enter Try.func22, Try.ntmps22
  go_wp2_with (fail)
  refine HF.out.mono ?_
  rintro e w1 ⟨rfl, rfl⟩
  go_wp2_with (fail)
  refine HOw.out.mono ?_
  rintro e w2 ⟨A', c', gp, rfl, hr2, hA2, hg2, hO2⟩
  have HR2 := Lib.hid hr2
  have HO2 := Lib.hid hO2
  have HZ2 := Lib.hid (HZ.out.only hO2 id)
  have z0 := HZ2.out.frozen 0
  have y0 := HZ2.out.cell 0
  have z1 := HZ2.out.frozen 1
  have y1 := HZ2.out.cell 1
  have z2 := HZ2.out.frozen 2
  have y2 := HZ2.out.cell 2
  have z3 := HZ2.out.frozen 3
  have y3 := HZ2.out.cell 3
  have z4 := HZ2.out.frozen 4
  have y4 := HZ2.out.cell 4
  simp at y0 y1 y2 y3 y4
  clear hr2 hO2
  go_wp2
  have hk := fun v => only_job w2 w.heap.size jk jl ju jp v
  refine bodyPost_ret (v := .tuple #[.agg #[.int .i64 jk, .int .i64 jl, .int .i64 ju, .int .i64 jp, .slice A' pos.length c'], .bool true])
    (results_row_tmp (p := 4) (u := 5) (ty := 31) rfl _ _ w.heap.size 31 #[.int .i64 jk, .int .i64 jl, .int .i64 ju, .int .i64 jp, .slice A' pos.length c'] (0, 0) _ rfl (((((HZ2.out.set 0 _).set 1 _).set 2 _).set 3 _).set 4 _) Try.underlying31 rfl (by kernel_rfl)) rfl ?_
  have hg2' : w.heap.size + 1 ≤ gp := by simpa using hg2
  exact ⟨A', c', gp, rfl, HR2.out.only (hk _) (fun _ => by omega), hA2, by omega, (((Only.refl (fun _ => False) w).alloc _).trans HO2.out).trans' (hk _) (fun i hi h => by omega)⟩
end Go.Proofs.Ytgaikacjophngaa
