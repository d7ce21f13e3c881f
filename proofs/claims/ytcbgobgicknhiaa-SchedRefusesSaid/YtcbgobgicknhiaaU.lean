/- Sched: SchedRefuses: the walk. -/
import Derived.Test.YtcbgobgicknhiaaO
namespace Go.Proofs.Ytcbgobgicknhiaa
open Go.RowKit

theorem cnt_rep (n k : Nat) : cnt (List.replicate n false) k = 0 := by
  induction k with
  | zero => rfl
  | succ k ih =>
    rw [cnt_no, ih]
    simp only [List.getD, List.getElem?_replicate]; split <;> rfl

theorem ownsRow_only {w w' : World} {base : Nat} {e : TypeId} {size n : Nat} {v : Value} {xs : List Value} (h : w.ownsRow base e size v n xs) (k : Only (fun _ => False) w w') : w'.ownsRow base e size v n xs := by
  refine ⟨h.1, ?_⟩
  rcases h.2 with h | ⟨g, cap, cur, h1, h2, h3, h4⟩
  · exact .inl h
  · exact .inr ⟨g, cap, cur, h1, h2, (k.block g (Array.getElem?_eq_some_iff.1 h3).1 id).trans h3, h4⟩

set_option maxHeartbeats 1000000 in
theorem waits_q (b g : Nat) (ws : List Int) (pat i : Int) (w : World) (h : SAt w b g 47 ws pat) :
    Calls Try.prog 12 #[.pointer (some ⟨b, 0, none⟩), .int .i64 i] w fun e w' => e = .returned (.int .i64 (waitI ws i)) ∧ ∃ n, w' = w.drewN n := by
  have h0 := h.st.cell 0
  simp at h0
  by_cases hi : i < 0
  · have hw : waitI ws i = 0 := by unfold waitI; rw [if_neg (by omega)]
    rw [hw]; clear hw
    go_enter Try.func12, Try.ntmps12
    go_wp2
    all_goals (go_ret; exact ⟨rfl, 0, rfl⟩)
  · obtain ⟨k, rfl⟩ := Int.eq_ofNat_of_zero_le (show 0 ≤ i by omega)
    by_cases hk : k < ws.length
    · have hw : waitI ws k = ws[k] := by simp [waitI, List.getD, hk]
      have hc := waits_at h.row hk
      rw [hw]; clear hw
      generalize ws[k] = z at *
      have i1 : (0 : Int) ≤ (k : Int) := by omega
      have i2 : (k : Int) < (ws.length : Int) := by omega
      go_enter Try.func12, Try.ntmps12
      go_wp2
      all_goals (go_ret; exact ⟨rfl, 0, rfl⟩)
    · have hw : waitI ws k = 0 := by simp [waitI, List.getD, List.getElem?_eq_none (show ws.length ≤ k by omega)]
      rw [hw]; clear hw
      have i2 : (ws.length : Int) ≤ (k : Int) := by omega
      go_enter Try.func12, Try.ntmps12
      go_wp2
      all_goals (go_ret; exact ⟨rfl, 0, rfl⟩)

set_option maxRecDepth 100000 in
set_option maxHeartbeats 8000000 in
theorem schedRefuses_walk (x0 x1 many : Int) (gA cA : Nat) (A : Option Addr) (l : List Opn) (w : World) (hr : Rd w gA A (ov l)) (hok : ∀ o ∈ l, o.Ok w) :
    Calls Try.prog 7 #[.agg #[.int .i64 x0, .int .i64 x1], .slice A l.length cA, .int .i64 many] w fun e w' => e = .returned (.bool true) ∧ Below w.heap.size w w' := by
  have HR := Lib.hid hr
  have HOK := Lib.hid hok
  clear hr hok
  go_enter Try.func7, Try.ntmps7
  go_wp2_with (fail)
  refine (awake_any _).mono ?_
  rintro e w0 ⟨rfl, hO⟩
  have q1 := (At.new w 42 #[.int .i64 x0, .int .i64 x1]).only hO id
  have hO0 : Only (fun i => w.heap.size ≤ i) w w0 := ((Only.refl (fun _ => False) w).alloc _).toOld _ |>.trans (hO.toOld _)
  have hs0 : w.heap.size + 1 ≤ w0.heap.size := by have := hO.size; simpa using this
  obtain ⟨B1, hB1⟩ : ∃ B1, B1 = w.heap.size := ⟨_, rfl⟩
  have hq1 : At w0 B1 42 #[.int .i64 x0, .int .i64 x1] := by rw [hB1]; exact q1
  have c1 := hq1.cell 0
  have c2 := hq1.cell 1
  simp at c1 c2
  have HB1 := Lib.hid hq1
  have HO0 := Lib.hid hO0
  have HN : Hid (B1 = w.heap.size ∧ w.heap.size + 1 ≤ w0.heap.size) := ⟨hB1, hs0⟩
  rw [← hB1]
  clear q1 hq1 hO hO0 hs0 hB1
  rcases hb : badN x0 x1 with _ | _
  · obtain ⟨h1, h2, h3, h4⟩ := good_of hb
    obtain ⟨n, rfl⟩ := Int.eq_ofNat_of_zero_le (show 0 ≤ x0 by omega)
    have HB := Lib.hid hb
    clear hb
    go_wp2_with (fail)
    refine (new_good n x1 w0 HB.out).mono ?_
    rintro e w1 ⟨b, g, rfl, hb, hg, hbg, hS, hO⟩
    have HI : Hid (BoxAt w b g n x1 B1 n x1 B1 n x1 (List.replicate n 0) 0 w1) := ⟨hS, by simp, bound_zero n, HO0.out.trans (hO.toOld _), HB1.out.only hO id, HB1.out.only hO id⟩
    have HQ : Hid (b ≠ g ∧ w.heap.size ≤ g ∧ w.heap.size ≤ b ∧ B1 ≠ g ∧ B1 ≠ g) := by
      have := HN.out
      exact ⟨hbg, by omega, by omega, by omega, by omega⟩
    clear hS hO c1 c2 HB1 HO0 hb hg hbg
    by_cases hy : many < 0
    · go_wp2
      go_ret
      exact ⟨rfl, HI.out.only.below (Nat.le_refl _) (fun i hi h => by omega)⟩
    · by_cases hy2 : 100 < many
      · go_wp2
        go_ret
        exact ⟨rfl, HI.out.only.below (Nat.le_refl _) (fun i hi h => by omega)⟩
      · obtain ⟨mN, rfl⟩ := Int.eq_ofNat_of_zero_le (show 0 ≤ many by omega)
        have hm100 : mN ≤ 100 := by omega
        clear hy hy2
        go_wp2
        go_loopw [10] (fun v wr => ∃ k : Nat, k ≤ l.length ∧ k ≤ 100 ∧ v = .int .i64 k ∧ ∃ ws, BoxAt w b g n x1 B1 n x1 B1 n x1 ws k wr) (fun v _ => l.length - (intOf v).toNat)
        case atStart => exact ⟨0, by omega, by omega, rfl, _, HI.out⟩
        case round =>
          clear HI
          obtain ⟨k, hk, hk3, rfl, ws, hI⟩ := hrel
          by_cases h1 : k < l.length ∧ k < 100
          · obtain ⟨h1, h3'⟩ := h1
            obtain ⟨off, rfl, hgA, c0, c1⟩ := op_cells HR.out hI.only h1
            have hok := HOK.out _ (List.getElem_mem h1)
            obtain ⟨gr, hgr1, hgr2, hrd⟩ := hok.src g g HQ.out.2.1 HQ.out.2.1
            have hln := hok.len
            generalize l[k] = o at *
            obtain ⟨Ao, co, rd, want⟩ := o
            simp only at c0 c1 hrd hln
            have HI := Lib.hid hI
            have HRd := Lib.hid hrd
            clear hok hrd hI
            have hwl := HI.out.len
            have Hp : Hid (Calls Try.prog 13 #[.pointer (some ⟨b, 0, none⟩), .slice Ao rd.length co, .int .i64 want] wr.drew (PkPost b g 47 ws rd x1 want wr.drew)) :=
              pick_any b g gr co Ao ws rd x1 want k wr.drew (HI.out.s.only ((Only.refl (fun _ => False) _).drew) id id) HQ.out.1 (by omega) hgr1 (HRd.out.old (HI.out.only.drew) (Nat.le_refl _)) (by omega) HI.out.bd (by omega)
            clear hwl
            go_wp2_with (fail)
            refine wp_region_held_drew (S := (fun W => W.cell? ⟨gA, off + k * 2, none⟩ = some (.slice Ao rd.length co) ∧ W.cell? ⟨gA, off + k * 2 + 1, none⟩ = some (.int .i64 want))) (by kernel_rfl) ?_ (fun hHeld => ?_)
            · exact ⟨c0, c1⟩
            refine wpAnyH_take (i := 0) (oi := { dst := some 52, op := Op.move (Operand.tmp 8), type := 23, pos := "law.go:140", after := #[], guard := none }) (v := ?_) rfl (by kernel_rfl) (by kernel_rfl) (by kernel_rfl) (fun _ _ _ h => h) (Or.inl ⟨by rfl, ?_⟩) (by assumption) ?_
            rotate_left
            · (intro w hSw; (try dsimp only at hSw); (try obtain ⟨hSa, hSb⟩ := hSw); go_simp; try with_reducible rfl)
            try simp only [Act.put, List.setIfInBounds_toArray, List.set_cons_zero, List.set_cons_succ]
            refine wpAnyH_take (i := 1) (oi := { dst := some 53, op := Op.move (Operand.tmp 1), type := 32, pos := "law.go:140", after := #[], guard := none }) (v := ?_) rfl (by kernel_rfl) (by kernel_rfl) (by kernel_rfl) (fun _ _ _ h => h) (Or.inl ⟨by rfl, ?_⟩) (by assumption) ?_
            rotate_left
            · (intro w hSw; (try dsimp only at hSw); (try obtain ⟨hSa, hSb⟩ := hSw); go_simp; try with_reducible rfl)
            try simp only [Act.put, List.setIfInBounds_toArray, List.set_cons_zero, List.set_cons_succ]
            refine wpAnyH_take (i := 2) (oi := { dst := some 54, op := Op.move (Operand.tmp 10), type := 3, pos := "law.go:140", after := #[], guard := none }) (v := ?_) rfl (by kernel_rfl) (by kernel_rfl) (by kernel_rfl) (fun _ _ _ h => h) (Or.inl ⟨by rfl, ?_⟩) (by assumption) ?_
            rotate_left
            · (intro w hSw; (try dsimp only at hSw); (try obtain ⟨hSa, hSb⟩ := hSw); go_simp; try with_reducible rfl)
            try simp only [Act.put, List.setIfInBounds_toArray, List.set_cons_zero, List.set_cons_succ]
            refine wpAnyH_take (i := 3) (oi := { dst := some 55, op := Op.indexAddr 32 (Operand.tmp 53) (Operand.tmp 54), type := 0, pos := "law.go:140", after := #[{ on := 1, ground := Ground.data }, { on := 2, ground := Ground.data }], guard := none }) (v := ?_) rfl (by kernel_rfl) (by kernel_rfl) (by kernel_rfl) (fun _ _ _ h => h) (Or.inl ⟨by rfl, ?_⟩) (by assumption) ?_
            rotate_left
            · (intro w hSw; (try dsimp only at hSw); (try obtain ⟨hSa, hSb⟩ := hSw); go_simp; try with_reducible rfl)
            try simp only [Act.put, List.setIfInBounds_toArray, List.set_cons_zero, List.set_cons_succ]
            refine wpAnyH_take (i := 4) (oi := { dst := some 56, op := Op.fieldAddr 35 (Operand.tmp 55) 0, type := 0, pos := "law.go:140", after := #[{ on := 3, ground := Ground.data }], guard := none }) (v := ?_) rfl (by kernel_rfl) (by kernel_rfl) (by kernel_rfl) (fun _ _ _ h => h) (Or.inl ⟨by rfl, ?_⟩) (by assumption) ?_
            rotate_left
            · (intro w hSw; (try dsimp only at hSw); (try obtain ⟨hSa, hSb⟩ := hSw); go_simp; try with_reducible rfl)
            try simp only [Act.put, List.setIfInBounds_toArray, List.set_cons_zero, List.set_cons_succ]
            refine wpAnyH_take (i := 5) (oi := { dst := some 57, op := Op.load 33 (Operand.tmp 56), type := 33, pos := "law.go:140", after := #[{ on := 4, ground := Ground.data }], guard := none }) (v := ?_) rfl (by kernel_rfl) (by kernel_rfl) (by kernel_rfl) (fun _ _ _ h => h) (Or.inl ⟨by rfl, ?_⟩) (by assumption) ?_
            rotate_left
            · (intro w hSw; (try dsimp only at hSw); (try obtain ⟨hSa, hSb⟩ := hSw); go_simp; try with_reducible rfl)
            try simp only [Act.put, List.setIfInBounds_toArray, List.set_cons_zero, List.set_cons_succ]
            refine wpAnyH_take (i := 6) (oi := { dst := some 58, op := Op.move (Operand.tmp 1), type := 32, pos := "law.go:140", after := #[], guard := none }) (v := ?_) rfl (by kernel_rfl) (by kernel_rfl) (by kernel_rfl) (fun _ _ _ h => h) (Or.inl ⟨by rfl, ?_⟩) (by assumption) ?_
            rotate_left
            · (intro w hSw; (try dsimp only at hSw); (try obtain ⟨hSa, hSb⟩ := hSw); go_simp; try with_reducible rfl)
            try simp only [Act.put, List.setIfInBounds_toArray, List.set_cons_zero, List.set_cons_succ]
            refine wpAnyH_take (i := 7) (oi := { dst := some 59, op := Op.move (Operand.tmp 10), type := 3, pos := "law.go:140", after := #[], guard := none }) (v := ?_) rfl (by kernel_rfl) (by kernel_rfl) (by kernel_rfl) (fun _ _ _ h => h) (Or.inl ⟨by rfl, ?_⟩) (by assumption) ?_
            rotate_left
            · (intro w hSw; (try dsimp only at hSw); (try obtain ⟨hSa, hSb⟩ := hSw); go_simp; try with_reducible rfl)
            try simp only [Act.put, List.setIfInBounds_toArray, List.set_cons_zero, List.set_cons_succ]
            refine wpAnyH_take (i := 8) (oi := { dst := some 60, op := Op.indexAddr 32 (Operand.tmp 58) (Operand.tmp 59), type := 0, pos := "law.go:140", after := #[{ on := 6, ground := Ground.data }, { on := 7, ground := Ground.data }], guard := none }) (v := ?_) rfl (by kernel_rfl) (by kernel_rfl) (by kernel_rfl) (fun _ _ _ h => h) (Or.inl ⟨by rfl, ?_⟩) (by assumption) ?_
            rotate_left
            · (intro w hSw; (try dsimp only at hSw); (try obtain ⟨hSa, hSb⟩ := hSw); go_simp; try with_reducible rfl)
            try simp only [Act.put, List.setIfInBounds_toArray, List.set_cons_zero, List.set_cons_succ]
            refine wpAnyH_take (i := 9) (oi := { dst := some 61, op := Op.fieldAddr 35 (Operand.tmp 60) 1, type := 0, pos := "law.go:140", after := #[{ on := 8, ground := Ground.data }], guard := none }) (v := ?_) rfl (by kernel_rfl) (by kernel_rfl) (by kernel_rfl) (fun _ _ _ h => h) (Or.inl ⟨by rfl, ?_⟩) (by assumption) ?_
            rotate_left
            · (intro w hSw; (try dsimp only at hSw); (try obtain ⟨hSa, hSb⟩ := hSw); go_simp; try with_reducible rfl)
            try simp only [Act.put, List.setIfInBounds_toArray, List.set_cons_zero, List.set_cons_succ]
            refine wpAnyH_take (i := 10) (oi := { dst := some 62, op := Op.load 3 (Operand.tmp 61), type := 3, pos := "law.go:140", after := #[{ on := 9, ground := Ground.data }], guard := none }) (v := ?_) rfl (by kernel_rfl) (by kernel_rfl) (by kernel_rfl) (fun _ _ _ h => h) (Or.inl ⟨by rfl, ?_⟩) (by assumption) ?_
            rotate_left
            · (intro w hSw; (try dsimp only at hSw); (try obtain ⟨hSa, hSb⟩ := hSw); go_simp; try with_reducible rfl)
            try simp only [Act.put, List.setIfInBounds_toArray, List.set_cons_zero, List.set_cons_succ]
            refine wpAnyH_ready (rs := [11]) (by kernel_rfl) (by simp) ?_
            refine AllReadyH.cons (o := { dst := some 63, op := Op.call { callee := Callee.value (Operand.func 13), args := #[Operand.tmp 52, Operand.tmp 57, Operand.tmp 62], argTypes := #[23, 33, 3] }, type := 36, pos := "law.go:140", after := #[{ on := 0, ground := Ground.data }, { on := 5, ground := Ground.data }, { on := 10, ground := Ground.data }], guard := none }) rfl (fun K hK => ?_) AllReadyH.nil
            go_simp
            (go_at_call 13; refine Hp.out.mono ?_; rintro e wx ⟨rfl, hSx, hOx⟩; have HI2 : Hid (BoxAt w b g n x1 B1 n x1 B1 n x1 (pk ws rd x1 want).2.2 (k + 1) wx) := HI.out.pick HQ.out rd want hSx hOx; have hkeep : wx.cell? ⟨gA, off + k * 2, none⟩ = some (.slice Ao rd.length co) ∧ wx.cell? ⟨gA, off + k * 2 + 1, none⟩ = some (.int .i64 want) := (by (have e0 := (hOx.cell (p := ⟨gA, off + k * 2, none⟩) (Nat.lt_of_lt_of_le hgA HI.out.only.size) (by (have := HQ.out.2.1); intro e; have e' : gA = g := e; omega)); have e1 := (hOx.cell (p := ⟨gA, off + k * 2 + 1, none⟩) (Nat.lt_of_lt_of_le hgA HI.out.only.size) (by (have := HQ.out.2.1); intro e; have e' : gA = g := e; omega)); exact ⟨e0.trans c0, e1.trans c1⟩)); clear hSx hOx Hp HI)
            refine hK.out _ _ ?_ (fun hHeld => ?_)
            · exact hkeep
            clear hK K
            try simp only [Act.put, List.setIfInBounds_toArray, List.set_cons_zero, List.set_cons_succ]
            refine wpAnyH_done (by kernel_rfl) ?_ _
            go_wp2
            go_roundw
            case rel => exact ⟨k + 1, by omega, by omega, by simp, _, HI2.out⟩
            case measure => simp [intOf]; omega
          · obtain hex : k = l.length ∨ (k = 100 ∧ 100 < l.length) := by omega
            rcases hex with rfl | ⟨rfl, hbig⟩
            · have HI := Lib.hid hI
              clear hI
              have HK : Hid (((l.length : Nat) : Int) ≤ 100) := Lib.hid (by omega)
              obtain ⟨i0, hi0, hz0, hz1, hz2⟩ := info_parts Try.info3
              obtain ⟨i1, hi1, hy0, hy1, hy2⟩ := info_parts Try.info4
              have hmk := fun W => run_make_one (P := Try.prog) Try.underlying33 hi1 hy0 rfl hy1 mN (by rw [hy2]; omega) (by omega) W
              have Hmk := Lib.hid hmk
              clear hmk
              go_wp2
              obtain ⟨wq, hwq⟩ : ∃ wq : World, wq = wr := ⟨_, rfl⟩
              rw [← hwq]
              rw [← hwq] at HI
              clear hwq
              go_loopw [11, 12] (fun m v wr => ∃ i : Nat, i ≤ n ∧ v = .int .i64 i ∧ (∃ A c, m = .slice A i c ∧ wr.ownsRow wq.heap.size 3 1 (.slice A i c) i (iv (ws.take i))) ∧ Only (fun _ => False) wq wr) (fun _ v _ => n - (intOf v).toNat)
              case atStart => exact ⟨0, by omega, rfl, ⟨none, 0, rfl, rfl, .inl ⟨rfl, rfl⟩⟩, Only.refl _ _⟩
              case round =>
                obtain ⟨i, hi, rfl, ⟨As, cs, rfl, hown⟩, hOi⟩ := hrel
                have cb := (HI.out.b1.only hOi id).cell 0
                simp at cb
                by_cases h5 : i < n
                · have hiw : i < ws.length := by have := HI.out.len; omega
                  have hwi : waitI ws i = ws[i] := by simp [waitI, List.getD, hiw]
                  have htk : ws.take (i + 1) = ws.take i ++ [ws[i]] := List.take_succ_eq_append_getElem hiw
                  have Htk : Hid (iv (ws.take (i + 1)) = iv (ws.take i) ++ [.int .i64 ws[i]]) := Lib.hid (by show (ws.take (i + 1)).map _ = (ws.take i).map _ ++ [_]; rw [htk, List.map_append]; rfl)
                  have hw1 := waits_any b g ws x1 i wr (HI.out.s.only hOi id id)
                  rw [hwi] at hw1
                  have Hw1 := Lib.hid hw1
                  have HOi := Lib.hid hOi
                  have HOwn := Lib.hid hown
                  clear hw1 hwi htk hOi hown
                  generalize ws[i] = x at *
                  go_wp2_with (fail)
                  refine Hw1.out.mono ?_
                  rintro e wa ⟨rfl, hOa⟩
                  have hown2 : wa.ownsRow wq.heap.size 3 1 (.slice As i cs) i (iv (ws.take i)) := ownsRow_only HOwn.out hOa
                  have hown' := hown2.alloc (.cells #[.int .i64 x] 3)
                  have HOwn2 := Lib.hid hown2
                  have HOa := Lib.hid (HOi.out.trans hOa)
                  have hrn : Rd (wa.alloc (.cells #[.int .i64 x] 3)) wa.heap.size (some ⟨wa.heap.size, 0, none⟩) [.int .i64 x] := .inr ⟨0, rfl, by simp, fun j u hu => by
                    have q := (At.new wa 3 #[.int .i64 x]).cell (0 + j)
                    rw [q]
                    rcases j with _ | j
                    · simpa using hu
                    · simp at hu⟩
                  have hsz : wq.heap.size ≤ (wa.alloc (.cells #[.int .i64 x] 3)).heap.size := Nat.le_trans HOa.out.size (by simp)
                  clear hOa hown2 Hw1 HOi HOwn cb
                  go_wp2_with (at_builtin; go_loud (refine wpList_append_src _ rfl (.tmp 70) (.tmp 74) 43 rfl wq.heap.size 3 i0 (.int .i64 0) 1 8 Try.underlying43 hi0 hz0 hz1 hz2 rfl (by decide) (.slice As i cs) i (iv (ws.take i)) rfl hown' wa.heap.size (some ⟨wa.heap.size, 0, none⟩) 1 1 [.int .i64 x] rfl (by simp) hrn (by simp [Value.oneCell']) (by unfold maxLen; omega) (by omega) hsz ?_); intro A1 c1 w1 hc1 hown1 hgrow1 hat1)
                  have HR1 : Hid (w1.ownsRow wq.heap.size 3 1 (.slice A1 (i + 1) c1) (i + 1) (iv (ws.take (i + 1)))) := by
                    rw [Htk.out]; exact hown1
                  have HO1 : Hid (Only (fun _ => False) wq w1) := (HOa.out.alloc _).grown hgrow1 (by intro j hj e; have := ownsRow_block HOwn2.out e; omega)
                  clear hown1 hgrow1 hat1 hown' hrn
                  go_wp2
                  go_roundw
                  case rel => exact ⟨i + 1, by omega, by simp, ⟨A1, c1, rfl, HR1.out⟩, HO1.out⟩
                  case measure => simp [intOf]; omega
                · obtain rfl : n = i := by omega
                  have hwl := HI.out.len
                  obtain ⟨gl, hA, hgb, hgl, hHL⟩ := ownsRow_at hown (by omega)
                  subst hA
                  rw [List.take_of_length_le (by omega)] at hHL
                  have hS1 : BoxAt w b g n x1 B1 n x1 B1 n x1 ws l.length wr := ⟨HI.out.s.only hOi id id, hwl, HI.out.bd, HI.out.only.trans (hOi.toOld _), HI.out.b1.only hOi id, HI.out.b2.only hOi id⟩
                  obtain ⟨gR, hgR⟩ : ∃ gR, gR = wr.heap.size := ⟨_, rfl⟩
                  have hGL0 : B1 < wq.heap.size ∧ b < wq.heap.size ∧ g < wq.heap.size := ⟨HI.out.b1.lt, HI.out.s.st.lt, HI.out.s.row.lt⟩
                  have hsq := HI.out.only.size
                  have hmk := Hmk.out wr
                  have q0 := At.new wr 4 (zeros (.bool false) mN)
                  rw [← ob_zero] at q0
                  have hW : Only (fun _ => False) wr (wr.alloc (.cells (ob (List.replicate mN false)) 4)) := (Only.refl _ _).alloc _
                  have HS1 : Hid (BoxAt w b g n x1 B1 n x1 B1 n x1 ws l.length (wr.alloc (.cells (ob (List.replicate mN false)) 4))) := ⟨hS1.s.only hW id id, hwl, hS1.bd, hS1.only.alloc _, hS1.b1.alloc _, hS1.b2.alloc _⟩
                  have HHL : Hid (∀ (j : Nat) (u : Value), (iv ws)[j]? = some u → (wr.alloc (.cells (ob (List.replicate mN false)) 4)).cell? ⟨gl, j, none⟩ = some u) := fun j u hu => (hW.cell (p := ⟨gl, j, none⟩) hgl id).trans (hHL j u hu)
                  have HGL : Hid (g < gl ∧ gl < (wr.alloc (.cells (ob (List.replicate mN false)) 4)).heap.size) := ⟨by omega, by simp; omega⟩
                  have HG : Hid (gl < gR ∧ B1 < gR ∧ b < gR ∧ g < gR ∧ w.heap.size ≤ gR) := by
                    have := hOi.size
                    rw [hgR]
                    exact ⟨hgl, by omega, by omega, by omega, by omega⟩
                  rw [← hgR] at q0 hmk
                  rw [← ob_zero] at hmk
                  have Hq0 := Lib.hid q0
                  clear q0 hW hS1 hown hOi hGL0 hsq hHL HI Hmk
                  go_wp2
                  clear cb
                  rw [← hgR]
                  obtain ⟨wz, hwz⟩ : ∃ wz, wz = wr.alloc (.cells (ob (List.replicate mN false)) 4) := ⟨_, rfl⟩
                  rw [← hwz]
                  rw [← hwz] at HS1 HHL HGL Hq0
                  clear hwz hmk hgR
                  go_loopw [14] (fun v wr => ∃ (j : Nat) (bs : List Bool), j ≤ mN ∧ v = .int .i64 j ∧ bs.length = mN ∧ (mN = n → bs = List.replicate mN false) ∧ At wr gR 4 (ob bs) ∧ Only (fun k => k = gR) wz wr) (fun v _ => mN - (intOf v).toNat)
                  case atStart => exact ⟨0, _, by omega, rfl, by simp, fun _ => rfl, Hq0.out, Only.refl _ _⟩
                  case round =>
                    clear Hq0
                    obtain ⟨j, bs, hj, rfl, hbl, hbf, hrow, hOr⟩ := hrel
                    have cb := (HS1.out.b1.only hOr (by have := HG.out; omega)).cell 0
                    simp at cb
                    have hgz : gR < wr.heap.size := hrow.lt
                    by_cases h6 : j < mN
                    · by_cases hmn : mN = n
                      · have e0 : ((mN : Int) != (n : Int)) = false := by simp [hmn]
                        clear hmn
                        have hnn : noneP ws bs = true := by
                          by_cases hmn' : mN = n
                          · have e1 := hbf hmn'
                            have : cnt bs bs.length = 0 := by
                              rw [e1]; exact cnt_rep mN _
                            simp [noneP, this]
                          · have : bs.length ≠ ws.length := by rw [hbl, HS1.out.len]; exact hmn'
                            simp [noneP, this]
                        have Hpk := Lib.hid (pk_none (pat := x1) (want := 0) hnn)
                        have hb1 := HS1.out.b1.only hOr (by have := HG.out; omega)
                        have hs1 := HS1.out.s.only hOr (by have := HG.out; omega) (by have := HG.out; omega)
                        have hwl := HS1.out.len
                        have hp0 := pick_any b g gR mN (some ⟨gR, 0, none⟩) ws bs x1 0 200 wr hs1 HQ.out.1 (by omega) (by have := HG.out; omega) (.inr ⟨0, rfl, hrow.lt, fun j u hu => by rw [Nat.zero_add, hrow.cell j]; simpa [ob] using hu⟩) (by omega) (fun x hx => by have := HS1.out.bd x hx; have := HK.out; omega) (by omega)
                        rw [hbl] at hp0
                        have Hp := Lib.hid hp0
                        have HH2 : Hid (∀ (j : Nat) (u : Value), (iv ws)[j]? = some u → wr.cell? ⟨gl, j, none⟩ = some u) := fun j u hu => (hOr.cell (p := ⟨gl, j, none⟩) (by have := HG.out; have := HS1.out.only.size; exact HGL.out.2) (by have := HG.out; intro e; have e' : gl = gR := e; omega)).trans (HHL.out j u hu)
                        have HO2 : Hid (Only (fun i => w.heap.size ≤ i) w wr ∧ At wr B1 42 #[.int .i64 n, .int .i64 x1] ∧ gl < wr.heap.size) := ⟨HS1.out.only.trans' hOr (by rintro i hi rfl; have := HG.out; omega), hb1, Nat.lt_of_lt_of_le HGL.out.2 hOr.size⟩
                        clear hp0 hnn hb1 hs1 hwl hrow hbf hbl hOr
                        go_wp2_with (fail)
                        refine Hp.out.mono ?_
                        unfold PkPost
                        rw [Hpk.out]
                        rintro e wx ⟨rfl, hSx, hOx⟩
                        have HSx := Lib.hid hSx
                        have HBx : Hid (At wx B1 42 #[.int .i64 n, .int .i64 x1]) := HO2.out.2.1.only hOx HQ.out.2.2.2.1
                        have HOx : Hid (Only (fun i => w.heap.size ≤ i) w wx) := HO2.out.1.trans' hOx (by rintro i hi rfl; exact HQ.out.2.1)
                        have HHx : Hid (∀ (j : Nat) (u : Value), (iv ws)[j]? = some u → wx.cell? ⟨gl, j, none⟩ = some u) := fun j u hu => (hOx.cell (p := ⟨gl, j, none⟩) HO2.out.2.2 (by intro e; have e' : gl = g := e; have := HGL.out.1; omega)).trans (HH2.out j u hu)
                        have hglx : gl < wx.heap.size := Nat.lt_of_lt_of_le HO2.out.2.2 hOx.size
                        clear hSx hOx Hp HO2 HH2 Hpk
                        go_wp2
                        obtain ⟨wq, rfl⟩ : ∃ wq : World, wq = wx := ⟨_, rfl⟩
                        go_loopw [17] (fun v wr => ∃ i : Nat, i ≤ n ∧ v = .int .i64 i ∧ Only (fun _ => False) wq wr) (fun v _ => n - (intOf v).toNat)
                        case atStart => exact ⟨0, by omega, rfl, Only.refl _ _⟩
                        case round =>
                          obtain ⟨i, hi, rfl, hOz⟩ := hrel
                          have cb := (HBx.out.only hOz id).cell 0
                          simp at cb
                          have HOz := Lib.hid hOz
                          by_cases h5 : i < n
                          · have hiw : i < ws.length := by have := HS1.out.len; omega
                            have cg : wr.cell? ⟨gl, i, none⟩ = some (.int .i64 ws[i]) := (hOz.cell (p := ⟨gl, i, none⟩) hglx id).trans (HHx.out i _ (by simp [iv, hiw]))
                            have hwi : waitI ws i = ws[i] := by simp [waitI, List.getD, hiw]
                            have Hw1 : Hid (∀ m, Calls Try.prog 12 #[.pointer (some ⟨b, 0, none⟩), .int .i64 i] (wr.drewN m) fun e w' => e = .returned (.int .i64 ws[i]) ∧ ∃ m', w' = (wr.drewN m).drewN m') := fun m => by
                              rw [← hwi]; exact waits_q b g ws x1 i _ (HSx.out.only ((Only.refl (fun _ => False) wq).trans (hOz.drewN m)) id id)
                            have hnl : ws.length = n := HS1.out.len
                            have j1 : (0 : Int) ≤ (i : Int) := by omega
                            have j2 : (i : Int) < (n : Int) := by omega
                            clear hOz hwi
                            generalize ws[i] = x at *
                            have e1 : (x != x) = false := by simp
                            clear hnl
                            go_wp2_with (fail)
                            go_quiet ((go_at_call 12; exact Calls.quiet_of (Hw1.out _)))
                            go_wp2
                            go_roundw
                            case rel => exact ⟨i + 1, by omega, by simp, HOz.out.drewN _⟩
                            case measure => simp [intOf]; omega
                          · clear hOz
                            go_wp2
                            go_ret
                            exact ⟨rfl, (HOx.out.trans (HOz.out.toOld _)).below (Nat.le_refl _) (fun i hi h => by omega)⟩
                      · have e0 : ((mN : Int) != (n : Int)) = true := by simpa [bne_iff_ne] using (by omega : ¬ (mN : Int) = (n : Int))
                        have f1 := hrow.frozen j
                        obtain ⟨y, f2⟩ : ∃ y, wr.cell? ⟨gR, j, none⟩ = some (.bool y) := ⟨bs[j]'(by omega), by rw [hrow.cell j, ob_get (by omega)]⟩
                        have hrow2 := hrow.set j (.bool true)
                        rw [ob_set] at hrow2
                        have Hrow2 : Hid (At (wr.setCell ⟨gR, j, none⟩ (.bool true)) gR 4 (ob (bs.set j true)) ∧ Only (fun k => k = gR) wz (wr.setCell ⟨gR, j, none⟩ (.bool true)) ∧ (bs.set j true).length = mN) := ⟨hrow2, hOr.setCell (fun _ => rfl) _, by simpa using hbl⟩
                        have i1 : (0 : Int) ≤ (j : Int) := by omega
                        have i2 : (j : Int) < (mN : Int) := by omega
                        clear hrow hrow2 hOr hbf hbl
                        go_wp2
                        go_roundw
                        case rel => exact ⟨j + 1, _, by omega, by simp, Hrow2.out.2.2, fun h => absurd h hmn, Hrow2.out.1, Hrow2.out.2.1⟩
                        case measure => simp [intOf]; omega
                    · obtain rfl : mN = j := by omega
                      have hnn : noneP ws bs = true := by
                        by_cases hmn' : mN = n
                        · have e1 := hbf hmn'
                          have : cnt bs bs.length = 0 := by
                            rw [e1]; exact cnt_rep mN _
                          simp [noneP, this]
                        · have : bs.length ≠ ws.length := by rw [hbl, HS1.out.len]; exact hmn'
                          simp [noneP, this]
                      have Hpk := Lib.hid (pk_none (pat := x1) (want := 0) hnn)
                      have hb1 := HS1.out.b1.only hOr (by have := HG.out; omega)
                      have hs1 := HS1.out.s.only hOr (by have := HG.out; omega) (by have := HG.out; omega)
                      have hwl := HS1.out.len
                      have hp0 := pick_any b g gR mN (some ⟨gR, 0, none⟩) ws bs x1 0 200 wr hs1 HQ.out.1 (by omega) (by have := HG.out; omega) (.inr ⟨0, rfl, hrow.lt, fun j u hu => by rw [Nat.zero_add, hrow.cell j]; simpa [ob] using hu⟩) (by omega) (fun x hx => by have := HS1.out.bd x hx; have := HK.out; omega) (by omega)
                      rw [hbl] at hp0
                      have Hp := Lib.hid hp0
                      have HH2 : Hid (∀ (j : Nat) (u : Value), (iv ws)[j]? = some u → wr.cell? ⟨gl, j, none⟩ = some u) := fun j u hu => (hOr.cell (p := ⟨gl, j, none⟩) (by have := HG.out; have := HS1.out.only.size; exact HGL.out.2) (by have := HG.out; intro e; have e' : gl = gR := e; omega)).trans (HHL.out j u hu)
                      have HO2 : Hid (Only (fun i => w.heap.size ≤ i) w wr ∧ At wr B1 42 #[.int .i64 n, .int .i64 x1] ∧ gl < wr.heap.size) := ⟨HS1.out.only.trans' hOr (by rintro i hi rfl; have := HG.out; omega), hb1, Nat.lt_of_lt_of_le HGL.out.2 hOr.size⟩
                      clear hp0 hnn hb1 hs1 hwl hrow hbf hbl hOr
                      go_wp2_with (fail)
                      refine Hp.out.mono ?_
                      unfold PkPost
                      rw [Hpk.out]
                      rintro e wx ⟨rfl, hSx, hOx⟩
                      have HSx := Lib.hid hSx
                      have HBx : Hid (At wx B1 42 #[.int .i64 n, .int .i64 x1]) := HO2.out.2.1.only hOx HQ.out.2.2.2.1
                      have HOx : Hid (Only (fun i => w.heap.size ≤ i) w wx) := HO2.out.1.trans' hOx (by rintro i hi rfl; exact HQ.out.2.1)
                      have HHx : Hid (∀ (j : Nat) (u : Value), (iv ws)[j]? = some u → wx.cell? ⟨gl, j, none⟩ = some u) := fun j u hu => (hOx.cell (p := ⟨gl, j, none⟩) HO2.out.2.2 (by intro e; have e' : gl = g := e; have := HGL.out.1; omega)).trans (HH2.out j u hu)
                      have hglx : gl < wx.heap.size := Nat.lt_of_lt_of_le HO2.out.2.2 hOx.size
                      clear hSx hOx Hp HO2 HH2 Hpk
                      go_wp2
                      obtain ⟨wq, rfl⟩ : ∃ wq : World, wq = wx := ⟨_, rfl⟩
                      go_loopw [17] (fun v wr => ∃ i : Nat, i ≤ n ∧ v = .int .i64 i ∧ Only (fun _ => False) wq wr) (fun v _ => n - (intOf v).toNat)
                      case atStart => exact ⟨0, by omega, rfl, Only.refl _ _⟩
                      case round =>
                        obtain ⟨i, hi, rfl, hOz⟩ := hrel
                        have cb := (HBx.out.only hOz id).cell 0
                        simp at cb
                        have HOz := Lib.hid hOz
                        by_cases h5 : i < n
                        · have hiw : i < ws.length := by have := HS1.out.len; omega
                          have cg : wr.cell? ⟨gl, i, none⟩ = some (.int .i64 ws[i]) := (hOz.cell (p := ⟨gl, i, none⟩) hglx id).trans (HHx.out i _ (by simp [iv, hiw]))
                          have hwi : waitI ws i = ws[i] := by simp [waitI, List.getD, hiw]
                          have Hw1 : Hid (∀ m, Calls Try.prog 12 #[.pointer (some ⟨b, 0, none⟩), .int .i64 i] (wr.drewN m) fun e w' => e = .returned (.int .i64 ws[i]) ∧ ∃ m', w' = (wr.drewN m).drewN m') := fun m => by
                            rw [← hwi]; exact waits_q b g ws x1 i _ (HSx.out.only ((Only.refl (fun _ => False) wq).trans (hOz.drewN m)) id id)
                          have hnl : ws.length = n := HS1.out.len
                          have j1 : (0 : Int) ≤ (i : Int) := by omega
                          have j2 : (i : Int) < (n : Int) := by omega
                          clear hOz hwi
                          generalize ws[i] = x at *
                          have e1 : (x != x) = false := by simp
                          clear hnl
                          go_wp2_with (fail)
                          go_quiet ((go_at_call 12; exact Calls.quiet_of (Hw1.out _)))
                          go_wp2
                          go_roundw
                          case rel => exact ⟨i + 1, by omega, by simp, HOz.out.drewN _⟩
                          case measure => simp [intOf]; omega
                        · clear hOz
                          go_wp2
                          go_ret
                          exact ⟨rfl, (HOx.out.trans (HOz.out.toOld _)).below (Nat.le_refl _) (fun i hi h => by omega)⟩
            · have HI := Lib.hid hI
              clear hI
              have HK : Hid (((100 : Nat) : Int) ≤ 100) := Lib.hid (by omega)
              obtain ⟨i0, hi0, hz0, hz1, hz2⟩ := info_parts Try.info3
              obtain ⟨i1, hi1, hy0, hy1, hy2⟩ := info_parts Try.info4
              have hmk := fun W => run_make_one (P := Try.prog) Try.underlying33 hi1 hy0 rfl hy1 mN (by rw [hy2]; omega) (by omega) W
              have Hmk := Lib.hid hmk
              clear hmk
              go_wp2
              obtain ⟨wq, hwq⟩ : ∃ wq : World, wq = wr := ⟨_, rfl⟩
              rw [← hwq]
              rw [← hwq] at HI
              clear hwq
              go_loopw [11, 12] (fun m v wr => ∃ i : Nat, i ≤ n ∧ v = .int .i64 i ∧ (∃ A c, m = .slice A i c ∧ wr.ownsRow wq.heap.size 3 1 (.slice A i c) i (iv (ws.take i))) ∧ Only (fun _ => False) wq wr) (fun _ v _ => n - (intOf v).toNat)
              case atStart => exact ⟨0, by omega, rfl, ⟨none, 0, rfl, rfl, .inl ⟨rfl, rfl⟩⟩, Only.refl _ _⟩
              case round =>
                obtain ⟨i, hi, rfl, ⟨As, cs, rfl, hown⟩, hOi⟩ := hrel
                have cb := (HI.out.b1.only hOi id).cell 0
                simp at cb
                by_cases h5 : i < n
                · have hiw : i < ws.length := by have := HI.out.len; omega
                  have hwi : waitI ws i = ws[i] := by simp [waitI, List.getD, hiw]
                  have htk : ws.take (i + 1) = ws.take i ++ [ws[i]] := List.take_succ_eq_append_getElem hiw
                  have Htk : Hid (iv (ws.take (i + 1)) = iv (ws.take i) ++ [.int .i64 ws[i]]) := Lib.hid (by show (ws.take (i + 1)).map _ = (ws.take i).map _ ++ [_]; rw [htk, List.map_append]; rfl)
                  have hw1 := waits_any b g ws x1 i wr (HI.out.s.only hOi id id)
                  rw [hwi] at hw1
                  have Hw1 := Lib.hid hw1
                  have HOi := Lib.hid hOi
                  have HOwn := Lib.hid hown
                  clear hw1 hwi htk hOi hown
                  generalize ws[i] = x at *
                  go_wp2_with (fail)
                  refine Hw1.out.mono ?_
                  rintro e wa ⟨rfl, hOa⟩
                  have hown2 : wa.ownsRow wq.heap.size 3 1 (.slice As i cs) i (iv (ws.take i)) := ownsRow_only HOwn.out hOa
                  have hown' := hown2.alloc (.cells #[.int .i64 x] 3)
                  have HOwn2 := Lib.hid hown2
                  have HOa := Lib.hid (HOi.out.trans hOa)
                  have hrn : Rd (wa.alloc (.cells #[.int .i64 x] 3)) wa.heap.size (some ⟨wa.heap.size, 0, none⟩) [.int .i64 x] := .inr ⟨0, rfl, by simp, fun j u hu => by
                    have q := (At.new wa 3 #[.int .i64 x]).cell (0 + j)
                    rw [q]
                    rcases j with _ | j
                    · simpa using hu
                    · simp at hu⟩
                  have hsz : wq.heap.size ≤ (wa.alloc (.cells #[.int .i64 x] 3)).heap.size := Nat.le_trans HOa.out.size (by simp)
                  clear hOa hown2 Hw1 HOi HOwn cb
                  go_wp2_with (at_builtin; go_loud (refine wpList_append_src _ rfl (.tmp 70) (.tmp 74) 43 rfl wq.heap.size 3 i0 (.int .i64 0) 1 8 Try.underlying43 hi0 hz0 hz1 hz2 rfl (by decide) (.slice As i cs) i (iv (ws.take i)) rfl hown' wa.heap.size (some ⟨wa.heap.size, 0, none⟩) 1 1 [.int .i64 x] rfl (by simp) hrn (by simp [Value.oneCell']) (by unfold maxLen; omega) (by omega) hsz ?_); intro A1 c1 w1 hc1 hown1 hgrow1 hat1)
                  have HR1 : Hid (w1.ownsRow wq.heap.size 3 1 (.slice A1 (i + 1) c1) (i + 1) (iv (ws.take (i + 1)))) := by
                    rw [Htk.out]; exact hown1
                  have HO1 : Hid (Only (fun _ => False) wq w1) := (HOa.out.alloc _).grown hgrow1 (by intro j hj e; have := ownsRow_block HOwn2.out e; omega)
                  clear hown1 hgrow1 hat1 hown' hrn
                  go_wp2
                  go_roundw
                  case rel => exact ⟨i + 1, by omega, by simp, ⟨A1, c1, rfl, HR1.out⟩, HO1.out⟩
                  case measure => simp [intOf]; omega
                · obtain rfl : n = i := by omega
                  have hwl := HI.out.len
                  obtain ⟨gl, hA, hgb, hgl, hHL⟩ := ownsRow_at hown (by omega)
                  subst hA
                  rw [List.take_of_length_le (by omega)] at hHL
                  have hS1 : BoxAt w b g n x1 B1 n x1 B1 n x1 ws 100 wr := ⟨HI.out.s.only hOi id id, hwl, HI.out.bd, HI.out.only.trans (hOi.toOld _), HI.out.b1.only hOi id, HI.out.b2.only hOi id⟩
                  obtain ⟨gR, hgR⟩ : ∃ gR, gR = wr.heap.size := ⟨_, rfl⟩
                  have hGL0 : B1 < wq.heap.size ∧ b < wq.heap.size ∧ g < wq.heap.size := ⟨HI.out.b1.lt, HI.out.s.st.lt, HI.out.s.row.lt⟩
                  have hsq := HI.out.only.size
                  have hmk := Hmk.out wr
                  have q0 := At.new wr 4 (zeros (.bool false) mN)
                  rw [← ob_zero] at q0
                  have hW : Only (fun _ => False) wr (wr.alloc (.cells (ob (List.replicate mN false)) 4)) := (Only.refl _ _).alloc _
                  have HS1 : Hid (BoxAt w b g n x1 B1 n x1 B1 n x1 ws 100 (wr.alloc (.cells (ob (List.replicate mN false)) 4))) := ⟨hS1.s.only hW id id, hwl, hS1.bd, hS1.only.alloc _, hS1.b1.alloc _, hS1.b2.alloc _⟩
                  have HHL : Hid (∀ (j : Nat) (u : Value), (iv ws)[j]? = some u → (wr.alloc (.cells (ob (List.replicate mN false)) 4)).cell? ⟨gl, j, none⟩ = some u) := fun j u hu => (hW.cell (p := ⟨gl, j, none⟩) hgl id).trans (hHL j u hu)
                  have HGL : Hid (g < gl ∧ gl < (wr.alloc (.cells (ob (List.replicate mN false)) 4)).heap.size) := ⟨by omega, by simp; omega⟩
                  have HG : Hid (gl < gR ∧ B1 < gR ∧ b < gR ∧ g < gR ∧ w.heap.size ≤ gR) := by
                    have := hOi.size
                    rw [hgR]
                    exact ⟨hgl, by omega, by omega, by omega, by omega⟩
                  rw [← hgR] at q0 hmk
                  rw [← ob_zero] at hmk
                  have Hq0 := Lib.hid q0
                  clear q0 hW hS1 hown hOi hGL0 hsq hHL HI Hmk
                  go_wp2
                  clear cb
                  rw [← hgR]
                  obtain ⟨wz, hwz⟩ : ∃ wz, wz = wr.alloc (.cells (ob (List.replicate mN false)) 4) := ⟨_, rfl⟩
                  rw [← hwz]
                  rw [← hwz] at HS1 HHL HGL Hq0
                  clear hwz hmk hgR
                  go_loopw [14] (fun v wr => ∃ (j : Nat) (bs : List Bool), j ≤ mN ∧ v = .int .i64 j ∧ bs.length = mN ∧ (mN = n → bs = List.replicate mN false) ∧ At wr gR 4 (ob bs) ∧ Only (fun k => k = gR) wz wr) (fun v _ => mN - (intOf v).toNat)
                  case atStart => exact ⟨0, _, by omega, rfl, by simp, fun _ => rfl, Hq0.out, Only.refl _ _⟩
                  case round =>
                    clear Hq0
                    obtain ⟨j, bs, hj, rfl, hbl, hbf, hrow, hOr⟩ := hrel
                    have cb := (HS1.out.b1.only hOr (by have := HG.out; omega)).cell 0
                    simp at cb
                    have hgz : gR < wr.heap.size := hrow.lt
                    by_cases h6 : j < mN
                    · by_cases hmn : mN = n
                      · have e0 : ((mN : Int) != (n : Int)) = false := by simp [hmn]
                        clear hmn
                        have hnn : noneP ws bs = true := by
                          by_cases hmn' : mN = n
                          · have e1 := hbf hmn'
                            have : cnt bs bs.length = 0 := by
                              rw [e1]; exact cnt_rep mN _
                            simp [noneP, this]
                          · have : bs.length ≠ ws.length := by rw [hbl, HS1.out.len]; exact hmn'
                            simp [noneP, this]
                        have Hpk := Lib.hid (pk_none (pat := x1) (want := 0) hnn)
                        have hb1 := HS1.out.b1.only hOr (by have := HG.out; omega)
                        have hs1 := HS1.out.s.only hOr (by have := HG.out; omega) (by have := HG.out; omega)
                        have hwl := HS1.out.len
                        have hp0 := pick_any b g gR mN (some ⟨gR, 0, none⟩) ws bs x1 0 200 wr hs1 HQ.out.1 (by omega) (by have := HG.out; omega) (.inr ⟨0, rfl, hrow.lt, fun j u hu => by rw [Nat.zero_add, hrow.cell j]; simpa [ob] using hu⟩) (by omega) (fun x hx => by have := HS1.out.bd x hx; have := HK.out; omega) (by omega)
                        rw [hbl] at hp0
                        have Hp := Lib.hid hp0
                        have HH2 : Hid (∀ (j : Nat) (u : Value), (iv ws)[j]? = some u → wr.cell? ⟨gl, j, none⟩ = some u) := fun j u hu => (hOr.cell (p := ⟨gl, j, none⟩) (by have := HG.out; have := HS1.out.only.size; exact HGL.out.2) (by have := HG.out; intro e; have e' : gl = gR := e; omega)).trans (HHL.out j u hu)
                        have HO2 : Hid (Only (fun i => w.heap.size ≤ i) w wr ∧ At wr B1 42 #[.int .i64 n, .int .i64 x1] ∧ gl < wr.heap.size) := ⟨HS1.out.only.trans' hOr (by rintro i hi rfl; have := HG.out; omega), hb1, Nat.lt_of_lt_of_le HGL.out.2 hOr.size⟩
                        clear hp0 hnn hb1 hs1 hwl hrow hbf hbl hOr
                        go_wp2_with (fail)
                        refine Hp.out.mono ?_
                        unfold PkPost
                        rw [Hpk.out]
                        rintro e wx ⟨rfl, hSx, hOx⟩
                        have HSx := Lib.hid hSx
                        have HBx : Hid (At wx B1 42 #[.int .i64 n, .int .i64 x1]) := HO2.out.2.1.only hOx HQ.out.2.2.2.1
                        have HOx : Hid (Only (fun i => w.heap.size ≤ i) w wx) := HO2.out.1.trans' hOx (by rintro i hi rfl; exact HQ.out.2.1)
                        have HHx : Hid (∀ (j : Nat) (u : Value), (iv ws)[j]? = some u → wx.cell? ⟨gl, j, none⟩ = some u) := fun j u hu => (hOx.cell (p := ⟨gl, j, none⟩) HO2.out.2.2 (by intro e; have e' : gl = g := e; have := HGL.out.1; omega)).trans (HH2.out j u hu)
                        have hglx : gl < wx.heap.size := Nat.lt_of_lt_of_le HO2.out.2.2 hOx.size
                        clear hSx hOx Hp HO2 HH2 Hpk
                        go_wp2
                        obtain ⟨wq, rfl⟩ : ∃ wq : World, wq = wx := ⟨_, rfl⟩
                        go_loopw [17] (fun v wr => ∃ i : Nat, i ≤ n ∧ v = .int .i64 i ∧ Only (fun _ => False) wq wr) (fun v _ => n - (intOf v).toNat)
                        case atStart => exact ⟨0, by omega, rfl, Only.refl _ _⟩
                        case round =>
                          obtain ⟨i, hi, rfl, hOz⟩ := hrel
                          have cb := (HBx.out.only hOz id).cell 0
                          simp at cb
                          have HOz := Lib.hid hOz
                          by_cases h5 : i < n
                          · have hiw : i < ws.length := by have := HS1.out.len; omega
                            have cg : wr.cell? ⟨gl, i, none⟩ = some (.int .i64 ws[i]) := (hOz.cell (p := ⟨gl, i, none⟩) hglx id).trans (HHx.out i _ (by simp [iv, hiw]))
                            have hwi : waitI ws i = ws[i] := by simp [waitI, List.getD, hiw]
                            have Hw1 : Hid (∀ m, Calls Try.prog 12 #[.pointer (some ⟨b, 0, none⟩), .int .i64 i] (wr.drewN m) fun e w' => e = .returned (.int .i64 ws[i]) ∧ ∃ m', w' = (wr.drewN m).drewN m') := fun m => by
                              rw [← hwi]; exact waits_q b g ws x1 i _ (HSx.out.only ((Only.refl (fun _ => False) wq).trans (hOz.drewN m)) id id)
                            have hnl : ws.length = n := HS1.out.len
                            have j1 : (0 : Int) ≤ (i : Int) := by omega
                            have j2 : (i : Int) < (n : Int) := by omega
                            clear hOz hwi
                            generalize ws[i] = x at *
                            have e1 : (x != x) = false := by simp
                            clear hnl
                            go_wp2_with (fail)
                            go_quiet ((go_at_call 12; exact Calls.quiet_of (Hw1.out _)))
                            go_wp2
                            go_roundw
                            case rel => exact ⟨i + 1, by omega, by simp, HOz.out.drewN _⟩
                            case measure => simp [intOf]; omega
                          · clear hOz
                            go_wp2
                            go_ret
                            exact ⟨rfl, (HOx.out.trans (HOz.out.toOld _)).below (Nat.le_refl _) (fun i hi h => by omega)⟩
                      · have e0 : ((mN : Int) != (n : Int)) = true := by simpa [bne_iff_ne] using (by omega : ¬ (mN : Int) = (n : Int))
                        have f1 := hrow.frozen j
                        obtain ⟨y, f2⟩ : ∃ y, wr.cell? ⟨gR, j, none⟩ = some (.bool y) := ⟨bs[j]'(by omega), by rw [hrow.cell j, ob_get (by omega)]⟩
                        have hrow2 := hrow.set j (.bool true)
                        rw [ob_set] at hrow2
                        have Hrow2 : Hid (At (wr.setCell ⟨gR, j, none⟩ (.bool true)) gR 4 (ob (bs.set j true)) ∧ Only (fun k => k = gR) wz (wr.setCell ⟨gR, j, none⟩ (.bool true)) ∧ (bs.set j true).length = mN) := ⟨hrow2, hOr.setCell (fun _ => rfl) _, by simpa using hbl⟩
                        have i1 : (0 : Int) ≤ (j : Int) := by omega
                        have i2 : (j : Int) < (mN : Int) := by omega
                        clear hrow hrow2 hOr hbf hbl
                        go_wp2
                        go_roundw
                        case rel => exact ⟨j + 1, _, by omega, by simp, Hrow2.out.2.2, fun h => absurd h hmn, Hrow2.out.1, Hrow2.out.2.1⟩
                        case measure => simp [intOf]; omega
                    · obtain rfl : mN = j := by omega
                      have hnn : noneP ws bs = true := by
                        by_cases hmn' : mN = n
                        · have e1 := hbf hmn'
                          have : cnt bs bs.length = 0 := by
                            rw [e1]; exact cnt_rep mN _
                          simp [noneP, this]
                        · have : bs.length ≠ ws.length := by rw [hbl, HS1.out.len]; exact hmn'
                          simp [noneP, this]
                      have Hpk := Lib.hid (pk_none (pat := x1) (want := 0) hnn)
                      have hb1 := HS1.out.b1.only hOr (by have := HG.out; omega)
                      have hs1 := HS1.out.s.only hOr (by have := HG.out; omega) (by have := HG.out; omega)
                      have hwl := HS1.out.len
                      have hp0 := pick_any b g gR mN (some ⟨gR, 0, none⟩) ws bs x1 0 200 wr hs1 HQ.out.1 (by omega) (by have := HG.out; omega) (.inr ⟨0, rfl, hrow.lt, fun j u hu => by rw [Nat.zero_add, hrow.cell j]; simpa [ob] using hu⟩) (by omega) (fun x hx => by have := HS1.out.bd x hx; have := HK.out; omega) (by omega)
                      rw [hbl] at hp0
                      have Hp := Lib.hid hp0
                      have HH2 : Hid (∀ (j : Nat) (u : Value), (iv ws)[j]? = some u → wr.cell? ⟨gl, j, none⟩ = some u) := fun j u hu => (hOr.cell (p := ⟨gl, j, none⟩) (by have := HG.out; have := HS1.out.only.size; exact HGL.out.2) (by have := HG.out; intro e; have e' : gl = gR := e; omega)).trans (HHL.out j u hu)
                      have HO2 : Hid (Only (fun i => w.heap.size ≤ i) w wr ∧ At wr B1 42 #[.int .i64 n, .int .i64 x1] ∧ gl < wr.heap.size) := ⟨HS1.out.only.trans' hOr (by rintro i hi rfl; have := HG.out; omega), hb1, Nat.lt_of_lt_of_le HGL.out.2 hOr.size⟩
                      clear hp0 hnn hb1 hs1 hwl hrow hbf hbl hOr
                      go_wp2_with (fail)
                      refine Hp.out.mono ?_
                      unfold PkPost
                      rw [Hpk.out]
                      rintro e wx ⟨rfl, hSx, hOx⟩
                      have HSx := Lib.hid hSx
                      have HBx : Hid (At wx B1 42 #[.int .i64 n, .int .i64 x1]) := HO2.out.2.1.only hOx HQ.out.2.2.2.1
                      have HOx : Hid (Only (fun i => w.heap.size ≤ i) w wx) := HO2.out.1.trans' hOx (by rintro i hi rfl; exact HQ.out.2.1)
                      have HHx : Hid (∀ (j : Nat) (u : Value), (iv ws)[j]? = some u → wx.cell? ⟨gl, j, none⟩ = some u) := fun j u hu => (hOx.cell (p := ⟨gl, j, none⟩) HO2.out.2.2 (by intro e; have e' : gl = g := e; have := HGL.out.1; omega)).trans (HH2.out j u hu)
                      have hglx : gl < wx.heap.size := Nat.lt_of_lt_of_le HO2.out.2.2 hOx.size
                      clear hSx hOx Hp HO2 HH2 Hpk
                      go_wp2
                      obtain ⟨wq, rfl⟩ : ∃ wq : World, wq = wx := ⟨_, rfl⟩
                      go_loopw [17] (fun v wr => ∃ i : Nat, i ≤ n ∧ v = .int .i64 i ∧ Only (fun _ => False) wq wr) (fun v _ => n - (intOf v).toNat)
                      case atStart => exact ⟨0, by omega, rfl, Only.refl _ _⟩
                      case round =>
                        obtain ⟨i, hi, rfl, hOz⟩ := hrel
                        have cb := (HBx.out.only hOz id).cell 0
                        simp at cb
                        have HOz := Lib.hid hOz
                        by_cases h5 : i < n
                        · have hiw : i < ws.length := by have := HS1.out.len; omega
                          have cg : wr.cell? ⟨gl, i, none⟩ = some (.int .i64 ws[i]) := (hOz.cell (p := ⟨gl, i, none⟩) hglx id).trans (HHx.out i _ (by simp [iv, hiw]))
                          have hwi : waitI ws i = ws[i] := by simp [waitI, List.getD, hiw]
                          have Hw1 : Hid (∀ m, Calls Try.prog 12 #[.pointer (some ⟨b, 0, none⟩), .int .i64 i] (wr.drewN m) fun e w' => e = .returned (.int .i64 ws[i]) ∧ ∃ m', w' = (wr.drewN m).drewN m') := fun m => by
                            rw [← hwi]; exact waits_q b g ws x1 i _ (HSx.out.only ((Only.refl (fun _ => False) wq).trans (hOz.drewN m)) id id)
                          have hnl : ws.length = n := HS1.out.len
                          have j1 : (0 : Int) ≤ (i : Int) := by omega
                          have j2 : (i : Int) < (n : Int) := by omega
                          clear hOz hwi
                          generalize ws[i] = x at *
                          have e1 : (x != x) = false := by simp
                          clear hnl
                          go_wp2_with (fail)
                          go_quiet ((go_at_call 12; exact Calls.quiet_of (Hw1.out _)))
                          go_wp2
                          go_roundw
                          case rel => exact ⟨i + 1, by omega, by simp, HOz.out.drewN _⟩
                          case measure => simp [intOf]; omega
                        · clear hOz
                          go_wp2
                          go_ret
                          exact ⟨rfl, (HOx.out.trans (HOz.out.toOld _)).below (Nat.le_refl _) (fun i hi h => by omega)⟩
  · have HB := Lib.hid hb
    clear hb
    go_wp2_with (fail)
    refine (new_bad x0 x1 w0 HB.out).mono ?_
    rintro e w1 ⟨rfl, rfl⟩
    go_wp2
    go_ret
    exact ⟨rfl, HO0.out.below (Nat.le_refl _) (fun i hi h => by omega)⟩
end Go.Proofs.Ytcbgobgicknhiaa
