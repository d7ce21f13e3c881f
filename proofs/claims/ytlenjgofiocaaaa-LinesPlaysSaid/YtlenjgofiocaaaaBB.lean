/- Lines: the document's lines: New. -/
import Derived.Test.YtlenjgofiocaaaaY
namespace Go.Proofs.Ytlenjgofiocaaaa
open Go.RowKit

def rc5 (x : Ln) : List Value := [.int .i64 x.s, .int .i64 x.w, .int .i64 x.g, .int .i64 0, .int .i64 0]
def rcs (l : List Ln) : List Value := l.flatMap rc5
theorem rcs_app (l : List Ln) (x : Ln) : rcs (l ++ [x]) = rcs l ++ rc5 x := by simp [rcs]
/-- The document's lines at block r. -/
structure RAt (w : World) (r : Nat) (G : Ge) (l : List Ln) (off c rb : Nat) : Prop where
  st : At w r 64 #[.int .i64 G.c, .int .i64 G.l, .int .i64 G.b, .int .i64 G.p, .int .i64 G.s, .slice (some ⟨rb, off, none⟩) l.length c]
  row : RowAt w (some ⟨rb, off, none⟩) l.length c rb 43 5 (rcs l)
  len : 1 ≤ l.length ∧ l.length ≤ 64
def RNewP (G : Ge) (good wear : List Int) (w : World) (e : Ending) (w' : World) : Prop :=
  (newOk G good wear ∧ ∃ r off c rb, e = .returned (.tuple #[.pointer (some ⟨r, 0, none⟩), .int .i64 0]) ∧ RAt w' r G (newL good wear good.length) off c rb ∧ w.heap.size ≤ r ∧ w.heap.size ≤ rb ∧ Only (fun _ => False) w w') ∨
  (¬ newOk G good wear ∧ e = .returned (.tuple #[.pointer none, .int .i64 1]) ∧ Only (fun _ => False) w w')

set_option maxRecDepth 100000 in
set_option maxHeartbeats 8000000 in
theorem refnew_any (G : Ge) (hw : G.Wf) (good wear : List Int) (Ag Aw : Option Addr) (cg cw gg gw : Nat) (w : World) (hg : Rd w gg Ag (iv good)) (hwr : Rd w gw Aw (iv wear)) :
    Calls Try.prog 11 #[G.val, .slice Ag good.length cg, .slice Aw wear.length cw] w (RNewP G good wear w) := by
  have HR := Lib.hid (refRight_any G (w.alloc (.cells #[.int .i64 G.c, .int .i64 G.l, .int .i64 G.b, .int .i64 G.p, .int .i64 G.s] 23)))
  have HB0 := Lib.hid (At.new w 23 #[.int .i64 G.c, .int .i64 G.l, .int .i64 G.b, .int .i64 G.p, .int .i64 G.s])
  have HO0 := Lib.hid ((Only.refl (fun _ => False) w).alloc (.cells #[.int .i64 G.c, .int .i64 G.l, .int .i64 G.b, .int .i64 G.p, .int .i64 G.s] 23))
  have hs0 : (w.alloc (.cells #[.int .i64 G.c, .int .i64 G.l, .int .i64 G.b, .int .i64 G.p, .int .i64 G.s] 23)).heap.size = w.heap.size + 1 := by simp
  unfold Ge.val at HR ⊢
  by_cases hok : G.ok = true
  case neg =>
    have hokf : G.ok = false := by simpa using hok
    have HN : Hid (¬ newOk G good wear) := Lib.hid (fun h => hok h.1)
    rw [hokf] at HR
    clear hw hg hwr hok hokf
    go_enter Try.func11, Try.ntmps11
    go_wp2_with (fail)
    refine HR.out.mono ?_
    rintro e w1 ⟨rfl, hO⟩
    have HO := Lib.hid (HO0.out.trans hO)
    clear hO
    go_wp2
    go_ret2
    exact .inr ⟨HN.out, rfl, HO.out⟩
  rw [hok] at HR
  by_cases hlg : (good.length : Int) = G.b
  case neg =>
    have HN : Hid (¬ newOk G good wear) := Lib.hid (fun h => hlg h.2.1)
    have tb : ((good.length : Int) != G.b) = true := by simp [hlg]
    clear hw hg hwr hok hlg
    go_enter Try.func11, Try.ntmps11
    go_wp2_with (fail)
    refine HR.out.mono ?_
    rintro e w1 ⟨rfl, hO⟩
    have hb1 := (HB0.out.only hO id).cell 2
    simp only [List.getElem?_toArray, List.getElem?_cons_zero, List.getElem?_cons_succ] at hb1
    have HO := Lib.hid (HO0.out.trans hO)
    clear hO
    go_wp2
    go_ret2
    exact .inr ⟨HN.out, rfl, HO.out⟩
  have tb : ((good.length : Int) != G.b) = false := by simp [hlg]
  by_cases hlw : (wear.length : Int) = G.b
  case neg =>
    have HN : Hid (¬ newOk G good wear) := Lib.hid (fun h => hlw h.2.2.1)
    have tb2 : ((wear.length : Int) != G.b) = true := by simp [hlw]
    clear hw hg hwr hok hlg hlw
    go_enter Try.func11, Try.ntmps11
    go_wp2_with (fail)
    refine HR.out.mono ?_
    rintro e w1 ⟨rfl, hO⟩
    have hb1 := (HB0.out.only hO id).cell 2
    simp only [List.getElem?_toArray, List.getElem?_cons_zero, List.getElem?_cons_succ] at hb1
    have HO := Lib.hid (HO0.out.trans hO)
    clear hO
    go_wp2
    go_ret2
    exact .inr ⟨HN.out, rfl, HO.out⟩
  have tb2 : ((wear.length : Int) != G.b) = false := by simp [hlw]
  have hGI := Ge.is_of hok
  have HGI := Lib.hid hGI
  have hbr := hGI.b
  obtain ⟨n, hn⟩ : ∃ n, good.length = n := ⟨_, rfl⟩
  have hnw : wear.length = n := by omega
  have hn1 : 1 ≤ n ∧ n ≤ 64 := by omega
  obtain ⟨og, rfl, hgl, hgr⟩ := hg.at (iv_ne (by omega))
  obtain ⟨ow, rfl, hwl, hwr'⟩ := hwr.at (iv_ne (by omega))
  have HRG : Hid (∀ W k, Only (fun _ => False) w W → k < n → W.cell? ⟨gg, og + k, none⟩ = some (.int .i64 (good.getD k 0))) := Lib.hid (fun W k h1 h2 =>
    (h1.cell (p := ⟨gg, og + k, none⟩) hgl id).trans (hgr k _ (iv_get _ _ (by omega))))
  have HRW : Hid (∀ W k, Only (fun _ => False) w W → k < n → W.cell? ⟨gw, ow + k, none⟩ = some (.int .i64 (wear.getD k 0))) := Lib.hid (fun W k h1 h2 =>
    (h1.cell (p := ⟨gw, ow + k, none⟩) hwl id).trans (hwr' k _ (iv_get _ _ (by omega))))
  have HNO : Hid (∀ k, k < n → ¬ (0 ≤ good.getD k 0 ∧ good.getD k 0 ≤ G.u ∧ 0 ≤ wear.getD k 0 ∧ wear.getD k 0 ≤ 2147483647) → ¬ newOk G good wear) := Lib.hid (fun k hk h hh => h (hh.2.2.2 k (by omega)))
  have HYES : Hid (okTo good wear G.u n → newOk G good wear) := Lib.hid (fun h => ⟨hok, hlg, hlw, by rw [hn]; exact h⟩)
  have HN := Lib.hid hn
  rw [hn] at tb ⊢
  rw [hnw] at tb2 ⊢
  have HU : Hid (∀ w, Calls Try.prog 28 #[G.val] w fun e w' => e = .returned (.int .i64 G.u) ∧ Only (fun _ => False) w w') := Lib.hid (fun w => refUnits_any G hGI w)
  unfold Ge.val at HU
  obtain ⟨i0t, hi⟩ : ∃ i, Try.prog.info? 43 = some i := ⟨_, rfl⟩
  have hz0 : i0t.zero = some (.agg #[.int .i64 0, .int .i64 0, .int .i64 0, .int .i64 0, .int .i64 0]) := by cases hi; rfl
  have hz1 : i0t.size = 5 := by cases hi; rfl
  have hz2 : i0t.bytes = 40 := by cases hi; rfl
  have HI := Lib.hid (And.intro hi (And.intro hz0 (And.intro hz1 hz2)))
  have HGN : Hid (G.b = (n : Int)) := Lib.hid (by omega)
  clear hi hz0 hz1 hz2 hn hnw hg hwr hgr hwr' hlg hlw hGI hbr hw hgl hwl hok
  go_enter Try.func11, Try.ntmps11
  go_wp2_with (fail)
  refine HR.out.mono ?_
  rintro e w1 ⟨rfl, hO⟩
  have HB1 := Lib.hid (HB0.out.only hO id)
  have hb1 := HB1.out.cell 2
  simp only [List.getElem?_toArray, List.getElem?_cons_zero, List.getElem?_cons_succ] at hb1
  have HO1 := Lib.hid (HO0.out.trans hO)
  have hsz1 := hO.size
  rw [hs0] at hsz1
  clear hO HR HB0 HO0 hs0
  have g0 := HB1.out.cell 0
  have g1 := HB1.out.cell 1
  have g3 := HB1.out.cell 3
  have g4 := HB1.out.cell 4
  simp only [List.getElem?_toArray, List.getElem?_cons_zero, List.getElem?_cons_succ] at g0 g1 g3 g4
  go_wp2_with (fail)
  clear g0 g1 g3 g4 hb1
  go_loopw [9] (fun v9 wr => ∃ (k : Nat) (A : Option Addr) (c gb : Nat), k ≤ n ∧ v9 = .int .i64 k ∧ okTo good wear G.u k ∧ At wr w.heap.size 23 #[.int .i64 G.c, .int .i64 G.l, .int .i64 G.b, .int .i64 G.p, .int .i64 G.s] ∧
      At wr w1.heap.size 64 #[.int .i64 G.c, .int .i64 G.l, .int .i64 G.b, .int .i64 G.p, .int .i64 G.s, .slice A k c] ∧ RowAt wr A k c gb 43 5 (rcs (newL good wear k)) ∧ (A ≠ none → w.heap.size < gb) ∧ Only (fun _ => False) w wr) (fun v9 wr => (n - intOf v9).toNat)
  case atStart =>
    exact ⟨0, none, 0, 0, by omega, rfl, fun i hi => by omega, HB1.out.alloc _, At.new _ _ _, .inl ⟨rfl, rfl, rfl, rfl⟩, fun h => absurd rfl h, HO1.out.alloc _⟩
  case round =>
    obtain ⟨k, A, c, gb, hk, rfl, hokT, hB, hOUT, hROW, hGB, hO⟩ := hrel
    have HOKT := Lib.hid hokT
    have HB := Lib.hid hB
    have HOUT := Lib.hid hOUT
    have HROW := Lib.hid hROW
    have HGB := Lib.hid hGB
    have HO := Lib.hid hO
    have bx2 := hB.cell 2
    simp only [List.getElem?_toArray, List.getElem?_cons_zero, List.getElem?_cons_succ] at bx2
    rw [HGN.out] at bx2
    clear hokT hB hOUT hROW hGB hO
    by_cases hkn : k < n
    · have i0 : (0 : Int) ≤ k := by omega
      have i1 : (k : Int) < n := by omega
      have cg0 := HRG.out wr k HO.out hkn
      have cw0 := HRW.out wr k HO.out hkn
      have HNK := Lib.hid (HNO.out k hkn)
      have HST := Lib.hid (@okTo_up good wear G.u k HOKT.out)
      generalize hgi : good.getD k 0 = gi at *
      generalize hwi : wear.getD k 0 = wi at *
      have HGI2 := Lib.hid (And.intro hgi hwi)
      clear hgi hwi
      go_wp2_with (fail)
      clear bx2
      by_cases h1 : gi < 0
      case pos =>
        have HNN := Lib.hid (HNK.out (fun h => by omega))
        have d1 : decide (gi < 0) = true := by simp [h1]
        clear h1
        refine wp_region_held_drew (S := (fun W => ((W.cell? ⟨gg, og + k, none⟩ = some (.int .i64 gi) ∧ W.cell? ⟨gw, ow + k, none⟩ = some (.int .i64 wi)) ∧ (W.cell? ⟨w.heap.size, 0, none⟩ = some (.int .i64 G.c) ∧ W.cell? ⟨w.heap.size, 1, none⟩ = some (.int .i64 G.l))) ∧ ((W.cell? ⟨w.heap.size, 2, none⟩ = some (.int .i64 G.b) ∧ W.cell? ⟨w.heap.size, 3, none⟩ = some (.int .i64 G.p)) ∧ W.cell? ⟨w.heap.size, 4, none⟩ = some (.int .i64 G.s)))) (by kernel_rfl) ?_ (fun hHeld => ?_)
        · exact ⟨⟨⟨cg0, cw0⟩, HB.out.cell 0, HB.out.cell 1⟩, ⟨HB.out.cell 2, HB.out.cell 3⟩, HB.out.cell 4⟩
        refine wpAnyH_take (i := 0) (oi := { dst := some 36, op := Op.move (Operand.tmp 1), type := 24, pos := "ref.go:30", after := #[], guard := none }) (v := ?_) rfl (by kernel_rfl) (by kernel_rfl) (by kernel_rfl) (fun _ _ _ h => h) (Or.inl ⟨by rfl, ?_⟩) (by assumption) ?_
        rotate_left
        · (intro w hSw; (try dsimp only at hSw); (try obtain ⟨hSa, hSb⟩ := hSw); go_simp; try with_reducible rfl)
        try simp only [Act.put, List.setIfInBounds_toArray, List.set_cons_zero, List.set_cons_succ]
        refine wpAnyH_take (i := 1) (oi := { dst := some 37, op := Op.move (Operand.tmp 9), type := 3, pos := "ref.go:30", after := #[], guard := none }) (v := ?_) rfl (by kernel_rfl) (by kernel_rfl) (by kernel_rfl) (fun _ _ _ h => h) (Or.inl ⟨by rfl, ?_⟩) (by assumption) ?_
        rotate_left
        · (intro w hSw; (try dsimp only at hSw); (try obtain ⟨hSa, hSb⟩ := hSw); go_simp; try with_reducible rfl)
        try simp only [Act.put, List.setIfInBounds_toArray, List.set_cons_zero, List.set_cons_succ]
        refine wpAnyH_take (i := 2) (oi := { dst := some 38, op := Op.indexAddr 24 (Operand.tmp 36) (Operand.tmp 37), type := 0, pos := "ref.go:30", after := #[{ on := 0, ground := Ground.data }, { on := 1, ground := Ground.data }], guard := none }) (v := ?_) rfl (by kernel_rfl) (by kernel_rfl) (by kernel_rfl) (fun _ _ _ h => h) (Or.inl ⟨by rfl, ?_⟩) (by assumption) ?_
        rotate_left
        · (intro w hSw; (try dsimp only at hSw); (try obtain ⟨hSa, hSb⟩ := hSw); go_simp; try with_reducible rfl)
        try simp only [Act.put, List.setIfInBounds_toArray, List.set_cons_zero, List.set_cons_succ]
        refine wpAnyH_take (i := 3) (oi := { dst := some 39, op := Op.load 3 (Operand.tmp 38), type := 3, pos := "ref.go:30", after := #[{ on := 2, ground := Ground.data }], guard := none }) (v := ?_) rfl (by kernel_rfl) (by kernel_rfl) (by kernel_rfl) (fun _ _ _ h => h) (Or.inl ⟨by rfl, ?_⟩) (by assumption) ?_
        rotate_left
        · (intro w hSw; (try dsimp only at hSw); (try obtain ⟨hSa, hSb⟩ := hSw); go_simp; try with_reducible rfl)
        try simp only [Act.put, List.setIfInBounds_toArray, List.set_cons_zero, List.set_cons_succ]
        refine wpAnyH_take (i := 4) (oi := { dst := some 40, op := Op.binOp BinOp.lss 3 (Operand.tmp 39) (Operand.const (Value.int IntKind.i64 0)) 3, type := 4, pos := "ref.go:30", after := #[{ on := 3, ground := Ground.data }], guard := none }) (v := ?_) rfl (by kernel_rfl) (by kernel_rfl) (by kernel_rfl) (fun _ _ _ h => h) (Or.inl ⟨by rfl, ?_⟩) (by assumption) ?_
        rotate_left
        · (intro w hSw; (try dsimp only at hSw); (try obtain ⟨hSa, hSb⟩ := hSw); go_simp; try with_reducible rfl)
        try simp only [Act.put, List.setIfInBounds_toArray, List.set_cons_zero, List.set_cons_succ]
        refine wpAnyH_take (i := 5) (oi := { dst := some 41, op := Op.move (Operand.tmp 40), type := 4, pos := "ref.go:30", after := #[{ on := 4, ground := Ground.data }], guard := none }) (v := ?_) rfl (by kernel_rfl) (by kernel_rfl) (by kernel_rfl) (fun _ _ _ h => h) (Or.inl ⟨by rfl, ?_⟩) (by assumption) ?_
        rotate_left
        · (intro w hSw; (try dsimp only at hSw); (try obtain ⟨hSa, hSb⟩ := hSw); go_simp; try with_reducible rfl)
        try simp only [Act.put, List.setIfInBounds_toArray, List.set_cons_zero, List.set_cons_succ]
        refine wpAnyH_take (i := 6) (oi := { dst := some 42, op := Op.move (Operand.tmp 1), type := 24, pos := "ref.go:30", after := #[{ on := 5, ground := Ground.guard }], guard := some (5, false) }) (v := undef) rfl (by kernel_rfl) (by kernel_rfl) (by kernel_rfl) (fun _ _ _ h => h) (Or.inr ⟨by rfl, rfl⟩) (by assumption) ?_
        try simp only [Act.put, List.setIfInBounds_toArray, List.set_cons_zero, List.set_cons_succ]
        refine wpAnyH_take (i := 7) (oi := { dst := some 43, op := Op.move (Operand.tmp 9), type := 3, pos := "ref.go:30", after := #[{ on := 5, ground := Ground.guard }], guard := some (5, false) }) (v := undef) rfl (by kernel_rfl) (by kernel_rfl) (by kernel_rfl) (fun _ _ _ h => h) (Or.inr ⟨by rfl, rfl⟩) (by assumption) ?_
        try simp only [Act.put, List.setIfInBounds_toArray, List.set_cons_zero, List.set_cons_succ]
        refine wpAnyH_take (i := 8) (oi := { dst := some 44, op := Op.indexAddr 24 (Operand.tmp 42) (Operand.tmp 43), type := 0, pos := "ref.go:30", after := #[{ on := 6, ground := Ground.data }, { on := 7, ground := Ground.data }, { on := 5, ground := Ground.guard }], guard := some (5, false) }) (v := undef) rfl (by kernel_rfl) (by kernel_rfl) (by kernel_rfl) (fun _ _ _ h => h) (Or.inr ⟨by rfl, rfl⟩) (by assumption) ?_
        try simp only [Act.put, List.setIfInBounds_toArray, List.set_cons_zero, List.set_cons_succ]
        refine wpAnyH_take (i := 9) (oi := { dst := some 45, op := Op.load 3 (Operand.tmp 44), type := 3, pos := "ref.go:30", after := #[{ on := 8, ground := Ground.data }, { on := 5, ground := Ground.guard }], guard := some (5, false) }) (v := undef) rfl (by kernel_rfl) (by kernel_rfl) (by kernel_rfl) (fun _ _ _ h => h) (Or.inr ⟨by rfl, rfl⟩) (by assumption) ?_
        try simp only [Act.put, List.setIfInBounds_toArray, List.set_cons_zero, List.set_cons_succ]
        refine wpAnyH_take (i := 10) (oi := { dst := some 46, op := Op.load 23 (Operand.tmp 3), type := 23, pos := "ref.go:30", after := #[{ on := 5, ground := Ground.guard }], guard := some (5, false) }) (v := undef) rfl (by kernel_rfl) (by kernel_rfl) (by kernel_rfl) (fun _ _ _ h => h) (Or.inr ⟨by rfl, rfl⟩) (by assumption) ?_
        try simp only [Act.put, List.setIfInBounds_toArray, List.set_cons_zero, List.set_cons_succ]
        refine wpAnyH_take (i := 11) (oi := { dst := some 47, op := Op.call { callee := Callee.value (Operand.func 28), args := #[Operand.tmp 46], argTypes := #[23] }, type := 3, pos := "ref.go:30", after := #[{ on := 10, ground := Ground.data }, { on := 5, ground := Ground.chain }, { on := 5, ground := Ground.guard }], guard := some (5, false) }) (v := undef) rfl (by kernel_rfl) (by kernel_rfl) (by kernel_rfl) (fun _ _ _ h => h) (Or.inr ⟨by rfl, rfl⟩) (by assumption) ?_
        try simp only [Act.put, List.setIfInBounds_toArray, List.set_cons_zero, List.set_cons_succ]
        refine wpAnyH_take (i := 12) (oi := { dst := some 48, op := Op.binOp BinOp.gtr 3 (Operand.tmp 45) (Operand.tmp 47) 3, type := 4, pos := "ref.go:30", after := #[{ on := 9, ground := Ground.data }, { on := 11, ground := Ground.data }, { on := 5, ground := Ground.guard }], guard := some (5, false) }) (v := undef) rfl (by kernel_rfl) (by kernel_rfl) (by kernel_rfl) (fun _ _ _ h => h) (Or.inr ⟨by rfl, rfl⟩) (by assumption) ?_
        try simp only [Act.put, List.setIfInBounds_toArray, List.set_cons_zero, List.set_cons_succ]
        refine wpAnyH_take (i := 13) (oi := { dst := some 49, op := Op.pick (Operand.tmp 41) (Operand.const (Value.bool true)) (Operand.tmp 48), type := 4, pos := "ref.go:30", after := #[{ on := 5, ground := Ground.data }, { on := 12, ground := Ground.data }], guard := none }) (v := ?_) rfl (by kernel_rfl) (by kernel_rfl) (by kernel_rfl) (fun _ _ _ h => h) (Or.inl ⟨by rfl, ?_⟩) (by assumption) ?_
        rotate_left
        · (intro w hSw; (try dsimp only at hSw); (try obtain ⟨hSa, hSb⟩ := hSw); go_simp; try with_reducible rfl)
        try simp only [Act.put, List.setIfInBounds_toArray, List.set_cons_zero, List.set_cons_succ]
        refine wpAnyH_take (i := 14) (oi := { dst := some 50, op := Op.move (Operand.tmp 49), type := 4, pos := "ref.go:30", after := #[{ on := 13, ground := Ground.data }, { on := 11, ground := Ground.chain }], guard := none }) (v := ?_) rfl (by kernel_rfl) (by kernel_rfl) (by kernel_rfl) (fun _ _ _ h => h) (Or.inl ⟨by rfl, ?_⟩) (by assumption) ?_
        rotate_left
        · (intro w hSw; (try dsimp only at hSw); (try obtain ⟨hSa, hSb⟩ := hSw); go_simp; try with_reducible rfl)
        try simp only [Act.put, List.setIfInBounds_toArray, List.set_cons_zero, List.set_cons_succ]
        refine wpAnyH_take (i := 15) (oi := { dst := some 51, op := Op.move (Operand.tmp 2), type := 24, pos := "ref.go:30", after := #[{ on := 14, ground := Ground.guard }], guard := some (14, false) }) (v := undef) rfl (by kernel_rfl) (by kernel_rfl) (by kernel_rfl) (fun _ _ _ h => h) (Or.inr ⟨by rfl, rfl⟩) (by assumption) ?_
        try simp only [Act.put, List.setIfInBounds_toArray, List.set_cons_zero, List.set_cons_succ]
        refine wpAnyH_take (i := 16) (oi := { dst := some 52, op := Op.move (Operand.tmp 9), type := 3, pos := "ref.go:30", after := #[{ on := 14, ground := Ground.guard }], guard := some (14, false) }) (v := undef) rfl (by kernel_rfl) (by kernel_rfl) (by kernel_rfl) (fun _ _ _ h => h) (Or.inr ⟨by rfl, rfl⟩) (by assumption) ?_
        try simp only [Act.put, List.setIfInBounds_toArray, List.set_cons_zero, List.set_cons_succ]
        refine wpAnyH_take (i := 17) (oi := { dst := some 53, op := Op.indexAddr 24 (Operand.tmp 51) (Operand.tmp 52), type := 0, pos := "ref.go:30", after := #[{ on := 15, ground := Ground.data }, { on := 16, ground := Ground.data }, { on := 14, ground := Ground.guard }], guard := some (14, false) }) (v := undef) rfl (by kernel_rfl) (by kernel_rfl) (by kernel_rfl) (fun _ _ _ h => h) (Or.inr ⟨by rfl, rfl⟩) (by assumption) ?_
        try simp only [Act.put, List.setIfInBounds_toArray, List.set_cons_zero, List.set_cons_succ]
        refine wpAnyH_take (i := 18) (oi := { dst := some 54, op := Op.load 3 (Operand.tmp 53), type := 3, pos := "ref.go:30", after := #[{ on := 17, ground := Ground.data }, { on := 14, ground := Ground.guard }], guard := some (14, false) }) (v := undef) rfl (by kernel_rfl) (by kernel_rfl) (by kernel_rfl) (fun _ _ _ h => h) (Or.inr ⟨by rfl, rfl⟩) (by assumption) ?_
        try simp only [Act.put, List.setIfInBounds_toArray, List.set_cons_zero, List.set_cons_succ]
        refine wpAnyH_take (i := 19) (oi := { dst := some 55, op := Op.binOp BinOp.lss 3 (Operand.tmp 54) (Operand.const (Value.int IntKind.i64 0)) 3, type := 4, pos := "ref.go:30", after := #[{ on := 18, ground := Ground.data }, { on := 14, ground := Ground.guard }], guard := some (14, false) }) (v := undef) rfl (by kernel_rfl) (by kernel_rfl) (by kernel_rfl) (fun _ _ _ h => h) (Or.inr ⟨by rfl, rfl⟩) (by assumption) ?_
        try simp only [Act.put, List.setIfInBounds_toArray, List.set_cons_zero, List.set_cons_succ]
        refine wpAnyH_take (i := 20) (oi := { dst := some 56, op := Op.pick (Operand.tmp 50) (Operand.const (Value.bool true)) (Operand.tmp 55), type := 4, pos := "ref.go:30", after := #[{ on := 14, ground := Ground.data }, { on := 19, ground := Ground.data }], guard := none }) (v := ?_) rfl (by kernel_rfl) (by kernel_rfl) (by kernel_rfl) (fun _ _ _ h => h) (Or.inl ⟨by rfl, ?_⟩) (by assumption) ?_
        rotate_left
        · (intro w hSw; (try dsimp only at hSw); (try obtain ⟨hSa, hSb⟩ := hSw); go_simp; try with_reducible rfl)
        try simp only [Act.put, List.setIfInBounds_toArray, List.set_cons_zero, List.set_cons_succ]
        refine wpAnyH_take (i := 21) (oi := { dst := some 57, op := Op.move (Operand.tmp 56), type := 4, pos := "ref.go:30", after := #[{ on := 20, ground := Ground.data }, { on := 14, ground := Ground.chain }], guard := none }) (v := ?_) rfl (by kernel_rfl) (by kernel_rfl) (by kernel_rfl) (fun _ _ _ h => h) (Or.inl ⟨by rfl, ?_⟩) (by assumption) ?_
        rotate_left
        · (intro w hSw; (try dsimp only at hSw); (try obtain ⟨hSa, hSb⟩ := hSw); go_simp; try with_reducible rfl)
        try simp only [Act.put, List.setIfInBounds_toArray, List.set_cons_zero, List.set_cons_succ]
        refine wpAnyH_take (i := 22) (oi := { dst := some 58, op := Op.move (Operand.tmp 2), type := 24, pos := "ref.go:30", after := #[{ on := 21, ground := Ground.guard }], guard := some (21, false) }) (v := undef) rfl (by kernel_rfl) (by kernel_rfl) (by kernel_rfl) (fun _ _ _ h => h) (Or.inr ⟨by rfl, rfl⟩) (by assumption) ?_
        try simp only [Act.put, List.setIfInBounds_toArray, List.set_cons_zero, List.set_cons_succ]
        refine wpAnyH_take (i := 23) (oi := { dst := some 59, op := Op.move (Operand.tmp 9), type := 3, pos := "ref.go:30", after := #[{ on := 21, ground := Ground.guard }], guard := some (21, false) }) (v := undef) rfl (by kernel_rfl) (by kernel_rfl) (by kernel_rfl) (fun _ _ _ h => h) (Or.inr ⟨by rfl, rfl⟩) (by assumption) ?_
        try simp only [Act.put, List.setIfInBounds_toArray, List.set_cons_zero, List.set_cons_succ]
        refine wpAnyH_take (i := 24) (oi := { dst := some 60, op := Op.indexAddr 24 (Operand.tmp 58) (Operand.tmp 59), type := 0, pos := "ref.go:30", after := #[{ on := 22, ground := Ground.data }, { on := 23, ground := Ground.data }, { on := 21, ground := Ground.guard }], guard := some (21, false) }) (v := undef) rfl (by kernel_rfl) (by kernel_rfl) (by kernel_rfl) (fun _ _ _ h => h) (Or.inr ⟨by rfl, rfl⟩) (by assumption) ?_
        try simp only [Act.put, List.setIfInBounds_toArray, List.set_cons_zero, List.set_cons_succ]
        refine wpAnyH_take (i := 25) (oi := { dst := some 61, op := Op.load 3 (Operand.tmp 60), type := 3, pos := "ref.go:30", after := #[{ on := 24, ground := Ground.data }, { on := 21, ground := Ground.guard }], guard := some (21, false) }) (v := undef) rfl (by kernel_rfl) (by kernel_rfl) (by kernel_rfl) (fun _ _ _ h => h) (Or.inr ⟨by rfl, rfl⟩) (by assumption) ?_
        try simp only [Act.put, List.setIfInBounds_toArray, List.set_cons_zero, List.set_cons_succ]
        refine wpAnyH_take (i := 26) (oi := { dst := some 62, op := Op.binOp BinOp.gtr 3 (Operand.tmp 61) (Operand.const (Value.int IntKind.i64 2147483647)) 3, type := 4, pos := "ref.go:30", after := #[{ on := 25, ground := Ground.data }, { on := 21, ground := Ground.guard }], guard := some (21, false) }) (v := undef) rfl (by kernel_rfl) (by kernel_rfl) (by kernel_rfl) (fun _ _ _ h => h) (Or.inr ⟨by rfl, rfl⟩) (by assumption) ?_
        try simp only [Act.put, List.setIfInBounds_toArray, List.set_cons_zero, List.set_cons_succ]
        refine wpAnyH_take (i := 27) (oi := { dst := some 63, op := Op.pick (Operand.tmp 57) (Operand.const (Value.bool true)) (Operand.tmp 62), type := 4, pos := "ref.go:30", after := #[{ on := 21, ground := Ground.data }, { on := 26, ground := Ground.data }], guard := none }) (v := ?_) rfl (by kernel_rfl) (by kernel_rfl) (by kernel_rfl) (fun _ _ _ h => h) (Or.inl ⟨by rfl, ?_⟩) (by assumption) ?_
        rotate_left
        · (intro w hSw; (try dsimp only at hSw); (try obtain ⟨hSa, hSb⟩ := hSw); go_simp; try with_reducible rfl)
        try simp only [Act.put, List.setIfInBounds_toArray, List.set_cons_zero, List.set_cons_succ]
        refine wpAnyH_done (by kernel_rfl) ?_ _
        go_wp2
        go_ret2
        exact .inr ⟨HNN.out, rfl, HO.out.drew⟩
      have d1 : decide (gi < 0) = false := by simp; omega
      by_cases h2 : G.u < gi
      case pos =>
        have HNN := Lib.hid (HNK.out (fun h => by omega))
        have d2 : decide (G.u < gi) = true := by simp [h2]
        clear h1 h2
        refine wp_region_held_drew (S := (fun W => ((W.cell? ⟨gg, og + k, none⟩ = some (.int .i64 gi) ∧ W.cell? ⟨gw, ow + k, none⟩ = some (.int .i64 wi)) ∧ (W.cell? ⟨w.heap.size, 0, none⟩ = some (.int .i64 G.c) ∧ W.cell? ⟨w.heap.size, 1, none⟩ = some (.int .i64 G.l))) ∧ ((W.cell? ⟨w.heap.size, 2, none⟩ = some (.int .i64 G.b) ∧ W.cell? ⟨w.heap.size, 3, none⟩ = some (.int .i64 G.p)) ∧ W.cell? ⟨w.heap.size, 4, none⟩ = some (.int .i64 G.s)))) (by kernel_rfl) ?_ (fun hHeld => ?_)
        · exact ⟨⟨⟨cg0, cw0⟩, HB.out.cell 0, HB.out.cell 1⟩, ⟨HB.out.cell 2, HB.out.cell 3⟩, HB.out.cell 4⟩
        refine wpAnyH_take (i := 0) (oi := { dst := some 36, op := Op.move (Operand.tmp 1), type := 24, pos := "ref.go:30", after := #[], guard := none }) (v := ?_) rfl (by kernel_rfl) (by kernel_rfl) (by kernel_rfl) (fun _ _ _ h => h) (Or.inl ⟨by rfl, ?_⟩) (by assumption) ?_
        rotate_left
        · (intro w hSw; (try dsimp only at hSw); (try obtain ⟨hSa, hSb⟩ := hSw); go_simp; try with_reducible rfl)
        try simp only [Act.put, List.setIfInBounds_toArray, List.set_cons_zero, List.set_cons_succ]
        refine wpAnyH_take (i := 1) (oi := { dst := some 37, op := Op.move (Operand.tmp 9), type := 3, pos := "ref.go:30", after := #[], guard := none }) (v := ?_) rfl (by kernel_rfl) (by kernel_rfl) (by kernel_rfl) (fun _ _ _ h => h) (Or.inl ⟨by rfl, ?_⟩) (by assumption) ?_
        rotate_left
        · (intro w hSw; (try dsimp only at hSw); (try obtain ⟨hSa, hSb⟩ := hSw); go_simp; try with_reducible rfl)
        try simp only [Act.put, List.setIfInBounds_toArray, List.set_cons_zero, List.set_cons_succ]
        refine wpAnyH_take (i := 2) (oi := { dst := some 38, op := Op.indexAddr 24 (Operand.tmp 36) (Operand.tmp 37), type := 0, pos := "ref.go:30", after := #[{ on := 0, ground := Ground.data }, { on := 1, ground := Ground.data }], guard := none }) (v := ?_) rfl (by kernel_rfl) (by kernel_rfl) (by kernel_rfl) (fun _ _ _ h => h) (Or.inl ⟨by rfl, ?_⟩) (by assumption) ?_
        rotate_left
        · (intro w hSw; (try dsimp only at hSw); (try obtain ⟨hSa, hSb⟩ := hSw); go_simp; try with_reducible rfl)
        try simp only [Act.put, List.setIfInBounds_toArray, List.set_cons_zero, List.set_cons_succ]
        refine wpAnyH_take (i := 3) (oi := { dst := some 39, op := Op.load 3 (Operand.tmp 38), type := 3, pos := "ref.go:30", after := #[{ on := 2, ground := Ground.data }], guard := none }) (v := ?_) rfl (by kernel_rfl) (by kernel_rfl) (by kernel_rfl) (fun _ _ _ h => h) (Or.inl ⟨by rfl, ?_⟩) (by assumption) ?_
        rotate_left
        · (intro w hSw; (try dsimp only at hSw); (try obtain ⟨hSa, hSb⟩ := hSw); go_simp; try with_reducible rfl)
        try simp only [Act.put, List.setIfInBounds_toArray, List.set_cons_zero, List.set_cons_succ]
        refine wpAnyH_take (i := 4) (oi := { dst := some 40, op := Op.binOp BinOp.lss 3 (Operand.tmp 39) (Operand.const (Value.int IntKind.i64 0)) 3, type := 4, pos := "ref.go:30", after := #[{ on := 3, ground := Ground.data }], guard := none }) (v := ?_) rfl (by kernel_rfl) (by kernel_rfl) (by kernel_rfl) (fun _ _ _ h => h) (Or.inl ⟨by rfl, ?_⟩) (by assumption) ?_
        rotate_left
        · (intro w hSw; (try dsimp only at hSw); (try obtain ⟨hSa, hSb⟩ := hSw); go_simp; try with_reducible rfl)
        try simp only [Act.put, List.setIfInBounds_toArray, List.set_cons_zero, List.set_cons_succ]
        refine wpAnyH_take (i := 5) (oi := { dst := some 41, op := Op.move (Operand.tmp 40), type := 4, pos := "ref.go:30", after := #[{ on := 4, ground := Ground.data }], guard := none }) (v := ?_) rfl (by kernel_rfl) (by kernel_rfl) (by kernel_rfl) (fun _ _ _ h => h) (Or.inl ⟨by rfl, ?_⟩) (by assumption) ?_
        rotate_left
        · (intro w hSw; (try dsimp only at hSw); (try obtain ⟨hSa, hSb⟩ := hSw); go_simp; try with_reducible rfl)
        try simp only [Act.put, List.setIfInBounds_toArray, List.set_cons_zero, List.set_cons_succ]
        refine wpAnyH_take (i := 6) (oi := { dst := some 42, op := Op.move (Operand.tmp 1), type := 24, pos := "ref.go:30", after := #[{ on := 5, ground := Ground.guard }], guard := some (5, false) }) (v := ?_) rfl (by kernel_rfl) (by kernel_rfl) (by kernel_rfl) (fun _ _ _ h => h) (Or.inl ⟨by rfl, ?_⟩) (by assumption) ?_
        rotate_left
        · (intro w hSw; (try dsimp only at hSw); (try obtain ⟨hSa, hSb⟩ := hSw); go_simp; try with_reducible rfl)
        try simp only [Act.put, List.setIfInBounds_toArray, List.set_cons_zero, List.set_cons_succ]
        refine wpAnyH_take (i := 7) (oi := { dst := some 43, op := Op.move (Operand.tmp 9), type := 3, pos := "ref.go:30", after := #[{ on := 5, ground := Ground.guard }], guard := some (5, false) }) (v := ?_) rfl (by kernel_rfl) (by kernel_rfl) (by kernel_rfl) (fun _ _ _ h => h) (Or.inl ⟨by rfl, ?_⟩) (by assumption) ?_
        rotate_left
        · (intro w hSw; (try dsimp only at hSw); (try obtain ⟨hSa, hSb⟩ := hSw); go_simp; try with_reducible rfl)
        try simp only [Act.put, List.setIfInBounds_toArray, List.set_cons_zero, List.set_cons_succ]
        refine wpAnyH_take (i := 8) (oi := { dst := some 44, op := Op.indexAddr 24 (Operand.tmp 42) (Operand.tmp 43), type := 0, pos := "ref.go:30", after := #[{ on := 6, ground := Ground.data }, { on := 7, ground := Ground.data }, { on := 5, ground := Ground.guard }], guard := some (5, false) }) (v := ?_) rfl (by kernel_rfl) (by kernel_rfl) (by kernel_rfl) (fun _ _ _ h => h) (Or.inl ⟨by rfl, ?_⟩) (by assumption) ?_
        rotate_left
        · (intro w hSw; (try dsimp only at hSw); (try obtain ⟨hSa, hSb⟩ := hSw); go_simp; try with_reducible rfl)
        try simp only [Act.put, List.setIfInBounds_toArray, List.set_cons_zero, List.set_cons_succ]
        refine wpAnyH_take (i := 9) (oi := { dst := some 45, op := Op.load 3 (Operand.tmp 44), type := 3, pos := "ref.go:30", after := #[{ on := 8, ground := Ground.data }, { on := 5, ground := Ground.guard }], guard := some (5, false) }) (v := ?_) rfl (by kernel_rfl) (by kernel_rfl) (by kernel_rfl) (fun _ _ _ h => h) (Or.inl ⟨by rfl, ?_⟩) (by assumption) ?_
        rotate_left
        · (intro w hSw; (try dsimp only at hSw); (try obtain ⟨hSa, hSb⟩ := hSw); go_simp; try with_reducible rfl)
        try simp only [Act.put, List.setIfInBounds_toArray, List.set_cons_zero, List.set_cons_succ]
        refine wpAnyH_take (i := 10) (oi := { dst := some 46, op := Op.load 23 (Operand.tmp 3), type := 23, pos := "ref.go:30", after := #[{ on := 5, ground := Ground.guard }], guard := some (5, false) }) (v := ?_) rfl (by kernel_rfl) (by kernel_rfl) (by kernel_rfl) (fun _ _ _ h => h) (Or.inl ⟨by rfl, ?_⟩) (by assumption) ?_
        rotate_left
        · (intro w hSw; (try dsimp only at hSw); (try obtain ⟨hSa, hSb⟩ := hSw); go_simp; try with_reducible rfl)
        try simp only [Act.put, List.setIfInBounds_toArray, List.set_cons_zero, List.set_cons_succ]
        refine wpAnyH_ready (rs := [11]) (by kernel_rfl) (by simp) ?_
        refine AllReadyH.cons (o := { dst := some 47, op := Op.call { callee := Callee.value (Operand.func 28), args := #[Operand.tmp 46], argTypes := #[23] }, type := 3, pos := "ref.go:30", after := #[{ on := 10, ground := Ground.data }, { on := 5, ground := Ground.chain }, { on := 5, ground := Ground.guard }], guard := some (5, false) }) rfl (fun K hK => ?_) AllReadyH.nil
        go_simp
        (refine (HU.out _).mono ?_; rintro e w2 ⟨rfl, hO2⟩; have hOd := (Only.refl (fun _ => False) wr).drew.trans hO2; have HO2 := Lib.hid (HO.out.trans hOd); have HB2 := Lib.hid (HB.out.only hOd id); have HOUT2 := Lib.hid (HOUT.out.only hOd id); have HROW2 := Lib.hid (HROW.out.only hOd (fun _ => id)); have cg2 := HRG.out w2 k HO2.out hkn; have cw2 := HRW.out w2 k HO2.out hkn; rw [HGI2.out.1] at cg2; rw [HGI2.out.2] at cw2; clear hO2 hOd; try simp only [])
        refine hK.out _ _ ?_ (fun hHeld => ?_)
        · exact ⟨⟨⟨cg2, cw2⟩, HB2.out.cell 0, HB2.out.cell 1⟩, ⟨HB2.out.cell 2, HB2.out.cell 3⟩, HB2.out.cell 4⟩
        clear hK K
        try simp only [Act.put, List.setIfInBounds_toArray, List.set_cons_zero, List.set_cons_succ]
        refine wpAnyH_take (i := 12) (oi := { dst := some 48, op := Op.binOp BinOp.gtr 3 (Operand.tmp 45) (Operand.tmp 47) 3, type := 4, pos := "ref.go:30", after := #[{ on := 9, ground := Ground.data }, { on := 11, ground := Ground.data }, { on := 5, ground := Ground.guard }], guard := some (5, false) }) (v := ?_) rfl (by kernel_rfl) (by kernel_rfl) (by kernel_rfl) (fun _ _ _ h => h) (Or.inl ⟨by rfl, ?_⟩) (by assumption) ?_
        rotate_left
        · (intro w hSw; (try dsimp only at hSw); (try obtain ⟨hSa, hSb⟩ := hSw); go_simp; try with_reducible rfl)
        try simp only [Act.put, List.setIfInBounds_toArray, List.set_cons_zero, List.set_cons_succ]
        refine wpAnyH_take (i := 13) (oi := { dst := some 49, op := Op.pick (Operand.tmp 41) (Operand.const (Value.bool true)) (Operand.tmp 48), type := 4, pos := "ref.go:30", after := #[{ on := 5, ground := Ground.data }, { on := 12, ground := Ground.data }], guard := none }) (v := ?_) rfl (by kernel_rfl) (by kernel_rfl) (by kernel_rfl) (fun _ _ _ h => h) (Or.inl ⟨by rfl, ?_⟩) (by assumption) ?_
        rotate_left
        · (intro w hSw; (try dsimp only at hSw); (try obtain ⟨hSa, hSb⟩ := hSw); go_simp; try with_reducible rfl)
        try simp only [Act.put, List.setIfInBounds_toArray, List.set_cons_zero, List.set_cons_succ]
        refine wpAnyH_take (i := 14) (oi := { dst := some 50, op := Op.move (Operand.tmp 49), type := 4, pos := "ref.go:30", after := #[{ on := 13, ground := Ground.data }, { on := 11, ground := Ground.chain }], guard := none }) (v := ?_) rfl (by kernel_rfl) (by kernel_rfl) (by kernel_rfl) (fun _ _ _ h => h) (Or.inl ⟨by rfl, ?_⟩) (by assumption) ?_
        rotate_left
        · (intro w hSw; (try dsimp only at hSw); (try obtain ⟨hSa, hSb⟩ := hSw); go_simp; try with_reducible rfl)
        try simp only [Act.put, List.setIfInBounds_toArray, List.set_cons_zero, List.set_cons_succ]
        refine wpAnyH_take (i := 15) (oi := { dst := some 51, op := Op.move (Operand.tmp 2), type := 24, pos := "ref.go:30", after := #[{ on := 14, ground := Ground.guard }], guard := some (14, false) }) (v := undef) rfl (by kernel_rfl) (by kernel_rfl) (by kernel_rfl) (fun _ _ _ h => h) (Or.inr ⟨by rfl, rfl⟩) (by assumption) ?_
        try simp only [Act.put, List.setIfInBounds_toArray, List.set_cons_zero, List.set_cons_succ]
        refine wpAnyH_take (i := 16) (oi := { dst := some 52, op := Op.move (Operand.tmp 9), type := 3, pos := "ref.go:30", after := #[{ on := 14, ground := Ground.guard }], guard := some (14, false) }) (v := undef) rfl (by kernel_rfl) (by kernel_rfl) (by kernel_rfl) (fun _ _ _ h => h) (Or.inr ⟨by rfl, rfl⟩) (by assumption) ?_
        try simp only [Act.put, List.setIfInBounds_toArray, List.set_cons_zero, List.set_cons_succ]
        refine wpAnyH_take (i := 17) (oi := { dst := some 53, op := Op.indexAddr 24 (Operand.tmp 51) (Operand.tmp 52), type := 0, pos := "ref.go:30", after := #[{ on := 15, ground := Ground.data }, { on := 16, ground := Ground.data }, { on := 14, ground := Ground.guard }], guard := some (14, false) }) (v := undef) rfl (by kernel_rfl) (by kernel_rfl) (by kernel_rfl) (fun _ _ _ h => h) (Or.inr ⟨by rfl, rfl⟩) (by assumption) ?_
        try simp only [Act.put, List.setIfInBounds_toArray, List.set_cons_zero, List.set_cons_succ]
        refine wpAnyH_take (i := 18) (oi := { dst := some 54, op := Op.load 3 (Operand.tmp 53), type := 3, pos := "ref.go:30", after := #[{ on := 17, ground := Ground.data }, { on := 14, ground := Ground.guard }], guard := some (14, false) }) (v := undef) rfl (by kernel_rfl) (by kernel_rfl) (by kernel_rfl) (fun _ _ _ h => h) (Or.inr ⟨by rfl, rfl⟩) (by assumption) ?_
        try simp only [Act.put, List.setIfInBounds_toArray, List.set_cons_zero, List.set_cons_succ]
        refine wpAnyH_take (i := 19) (oi := { dst := some 55, op := Op.binOp BinOp.lss 3 (Operand.tmp 54) (Operand.const (Value.int IntKind.i64 0)) 3, type := 4, pos := "ref.go:30", after := #[{ on := 18, ground := Ground.data }, { on := 14, ground := Ground.guard }], guard := some (14, false) }) (v := undef) rfl (by kernel_rfl) (by kernel_rfl) (by kernel_rfl) (fun _ _ _ h => h) (Or.inr ⟨by rfl, rfl⟩) (by assumption) ?_
        try simp only [Act.put, List.setIfInBounds_toArray, List.set_cons_zero, List.set_cons_succ]
        refine wpAnyH_take (i := 20) (oi := { dst := some 56, op := Op.pick (Operand.tmp 50) (Operand.const (Value.bool true)) (Operand.tmp 55), type := 4, pos := "ref.go:30", after := #[{ on := 14, ground := Ground.data }, { on := 19, ground := Ground.data }], guard := none }) (v := ?_) rfl (by kernel_rfl) (by kernel_rfl) (by kernel_rfl) (fun _ _ _ h => h) (Or.inl ⟨by rfl, ?_⟩) (by assumption) ?_
        rotate_left
        · (intro w hSw; (try dsimp only at hSw); (try obtain ⟨hSa, hSb⟩ := hSw); go_simp; try with_reducible rfl)
        try simp only [Act.put, List.setIfInBounds_toArray, List.set_cons_zero, List.set_cons_succ]
        refine wpAnyH_take (i := 21) (oi := { dst := some 57, op := Op.move (Operand.tmp 56), type := 4, pos := "ref.go:30", after := #[{ on := 20, ground := Ground.data }, { on := 14, ground := Ground.chain }], guard := none }) (v := ?_) rfl (by kernel_rfl) (by kernel_rfl) (by kernel_rfl) (fun _ _ _ h => h) (Or.inl ⟨by rfl, ?_⟩) (by assumption) ?_
        rotate_left
        · (intro w hSw; (try dsimp only at hSw); (try obtain ⟨hSa, hSb⟩ := hSw); go_simp; try with_reducible rfl)
        try simp only [Act.put, List.setIfInBounds_toArray, List.set_cons_zero, List.set_cons_succ]
        refine wpAnyH_take (i := 22) (oi := { dst := some 58, op := Op.move (Operand.tmp 2), type := 24, pos := "ref.go:30", after := #[{ on := 21, ground := Ground.guard }], guard := some (21, false) }) (v := undef) rfl (by kernel_rfl) (by kernel_rfl) (by kernel_rfl) (fun _ _ _ h => h) (Or.inr ⟨by rfl, rfl⟩) (by assumption) ?_
        try simp only [Act.put, List.setIfInBounds_toArray, List.set_cons_zero, List.set_cons_succ]
        refine wpAnyH_take (i := 23) (oi := { dst := some 59, op := Op.move (Operand.tmp 9), type := 3, pos := "ref.go:30", after := #[{ on := 21, ground := Ground.guard }], guard := some (21, false) }) (v := undef) rfl (by kernel_rfl) (by kernel_rfl) (by kernel_rfl) (fun _ _ _ h => h) (Or.inr ⟨by rfl, rfl⟩) (by assumption) ?_
        try simp only [Act.put, List.setIfInBounds_toArray, List.set_cons_zero, List.set_cons_succ]
        refine wpAnyH_take (i := 24) (oi := { dst := some 60, op := Op.indexAddr 24 (Operand.tmp 58) (Operand.tmp 59), type := 0, pos := "ref.go:30", after := #[{ on := 22, ground := Ground.data }, { on := 23, ground := Ground.data }, { on := 21, ground := Ground.guard }], guard := some (21, false) }) (v := undef) rfl (by kernel_rfl) (by kernel_rfl) (by kernel_rfl) (fun _ _ _ h => h) (Or.inr ⟨by rfl, rfl⟩) (by assumption) ?_
        try simp only [Act.put, List.setIfInBounds_toArray, List.set_cons_zero, List.set_cons_succ]
        refine wpAnyH_take (i := 25) (oi := { dst := some 61, op := Op.load 3 (Operand.tmp 60), type := 3, pos := "ref.go:30", after := #[{ on := 24, ground := Ground.data }, { on := 21, ground := Ground.guard }], guard := some (21, false) }) (v := undef) rfl (by kernel_rfl) (by kernel_rfl) (by kernel_rfl) (fun _ _ _ h => h) (Or.inr ⟨by rfl, rfl⟩) (by assumption) ?_
        try simp only [Act.put, List.setIfInBounds_toArray, List.set_cons_zero, List.set_cons_succ]
        refine wpAnyH_take (i := 26) (oi := { dst := some 62, op := Op.binOp BinOp.gtr 3 (Operand.tmp 61) (Operand.const (Value.int IntKind.i64 2147483647)) 3, type := 4, pos := "ref.go:30", after := #[{ on := 25, ground := Ground.data }, { on := 21, ground := Ground.guard }], guard := some (21, false) }) (v := undef) rfl (by kernel_rfl) (by kernel_rfl) (by kernel_rfl) (fun _ _ _ h => h) (Or.inr ⟨by rfl, rfl⟩) (by assumption) ?_
        try simp only [Act.put, List.setIfInBounds_toArray, List.set_cons_zero, List.set_cons_succ]
        refine wpAnyH_take (i := 27) (oi := { dst := some 63, op := Op.pick (Operand.tmp 57) (Operand.const (Value.bool true)) (Operand.tmp 62), type := 4, pos := "ref.go:30", after := #[{ on := 21, ground := Ground.data }, { on := 26, ground := Ground.data }], guard := none }) (v := ?_) rfl (by kernel_rfl) (by kernel_rfl) (by kernel_rfl) (fun _ _ _ h => h) (Or.inl ⟨by rfl, ?_⟩) (by assumption) ?_
        rotate_left
        · (intro w hSw; (try dsimp only at hSw); (try obtain ⟨hSa, hSb⟩ := hSw); go_simp; try with_reducible rfl)
        try simp only [Act.put, List.setIfInBounds_toArray, List.set_cons_zero, List.set_cons_succ]
        refine wpAnyH_done (by kernel_rfl) ?_ _
        go_wp2
        go_ret2
        exact .inr ⟨HNN.out, rfl, HO2.out⟩
      have d2 : decide (G.u < gi) = false := by simp; omega
      by_cases h3 : wi < 0
      case pos =>
        have HNN := Lib.hid (HNK.out (fun h => by omega))
        have d3 : decide (wi < 0) = true := by simp [h3]
        clear h1 h2 h3
        refine wp_region_held_drew (S := (fun W => ((W.cell? ⟨gg, og + k, none⟩ = some (.int .i64 gi) ∧ W.cell? ⟨gw, ow + k, none⟩ = some (.int .i64 wi)) ∧ (W.cell? ⟨w.heap.size, 0, none⟩ = some (.int .i64 G.c) ∧ W.cell? ⟨w.heap.size, 1, none⟩ = some (.int .i64 G.l))) ∧ ((W.cell? ⟨w.heap.size, 2, none⟩ = some (.int .i64 G.b) ∧ W.cell? ⟨w.heap.size, 3, none⟩ = some (.int .i64 G.p)) ∧ W.cell? ⟨w.heap.size, 4, none⟩ = some (.int .i64 G.s)))) (by kernel_rfl) ?_ (fun hHeld => ?_)
        · exact ⟨⟨⟨cg0, cw0⟩, HB.out.cell 0, HB.out.cell 1⟩, ⟨HB.out.cell 2, HB.out.cell 3⟩, HB.out.cell 4⟩
        refine wpAnyH_take (i := 0) (oi := { dst := some 36, op := Op.move (Operand.tmp 1), type := 24, pos := "ref.go:30", after := #[], guard := none }) (v := ?_) rfl (by kernel_rfl) (by kernel_rfl) (by kernel_rfl) (fun _ _ _ h => h) (Or.inl ⟨by rfl, ?_⟩) (by assumption) ?_
        rotate_left
        · (intro w hSw; (try dsimp only at hSw); (try obtain ⟨hSa, hSb⟩ := hSw); go_simp; try with_reducible rfl)
        try simp only [Act.put, List.setIfInBounds_toArray, List.set_cons_zero, List.set_cons_succ]
        refine wpAnyH_take (i := 1) (oi := { dst := some 37, op := Op.move (Operand.tmp 9), type := 3, pos := "ref.go:30", after := #[], guard := none }) (v := ?_) rfl (by kernel_rfl) (by kernel_rfl) (by kernel_rfl) (fun _ _ _ h => h) (Or.inl ⟨by rfl, ?_⟩) (by assumption) ?_
        rotate_left
        · (intro w hSw; (try dsimp only at hSw); (try obtain ⟨hSa, hSb⟩ := hSw); go_simp; try with_reducible rfl)
        try simp only [Act.put, List.setIfInBounds_toArray, List.set_cons_zero, List.set_cons_succ]
        refine wpAnyH_take (i := 2) (oi := { dst := some 38, op := Op.indexAddr 24 (Operand.tmp 36) (Operand.tmp 37), type := 0, pos := "ref.go:30", after := #[{ on := 0, ground := Ground.data }, { on := 1, ground := Ground.data }], guard := none }) (v := ?_) rfl (by kernel_rfl) (by kernel_rfl) (by kernel_rfl) (fun _ _ _ h => h) (Or.inl ⟨by rfl, ?_⟩) (by assumption) ?_
        rotate_left
        · (intro w hSw; (try dsimp only at hSw); (try obtain ⟨hSa, hSb⟩ := hSw); go_simp; try with_reducible rfl)
        try simp only [Act.put, List.setIfInBounds_toArray, List.set_cons_zero, List.set_cons_succ]
        refine wpAnyH_take (i := 3) (oi := { dst := some 39, op := Op.load 3 (Operand.tmp 38), type := 3, pos := "ref.go:30", after := #[{ on := 2, ground := Ground.data }], guard := none }) (v := ?_) rfl (by kernel_rfl) (by kernel_rfl) (by kernel_rfl) (fun _ _ _ h => h) (Or.inl ⟨by rfl, ?_⟩) (by assumption) ?_
        rotate_left
        · (intro w hSw; (try dsimp only at hSw); (try obtain ⟨hSa, hSb⟩ := hSw); go_simp; try with_reducible rfl)
        try simp only [Act.put, List.setIfInBounds_toArray, List.set_cons_zero, List.set_cons_succ]
        refine wpAnyH_take (i := 4) (oi := { dst := some 40, op := Op.binOp BinOp.lss 3 (Operand.tmp 39) (Operand.const (Value.int IntKind.i64 0)) 3, type := 4, pos := "ref.go:30", after := #[{ on := 3, ground := Ground.data }], guard := none }) (v := ?_) rfl (by kernel_rfl) (by kernel_rfl) (by kernel_rfl) (fun _ _ _ h => h) (Or.inl ⟨by rfl, ?_⟩) (by assumption) ?_
        rotate_left
        · (intro w hSw; (try dsimp only at hSw); (try obtain ⟨hSa, hSb⟩ := hSw); go_simp; try with_reducible rfl)
        try simp only [Act.put, List.setIfInBounds_toArray, List.set_cons_zero, List.set_cons_succ]
        refine wpAnyH_take (i := 5) (oi := { dst := some 41, op := Op.move (Operand.tmp 40), type := 4, pos := "ref.go:30", after := #[{ on := 4, ground := Ground.data }], guard := none }) (v := ?_) rfl (by kernel_rfl) (by kernel_rfl) (by kernel_rfl) (fun _ _ _ h => h) (Or.inl ⟨by rfl, ?_⟩) (by assumption) ?_
        rotate_left
        · (intro w hSw; (try dsimp only at hSw); (try obtain ⟨hSa, hSb⟩ := hSw); go_simp; try with_reducible rfl)
        try simp only [Act.put, List.setIfInBounds_toArray, List.set_cons_zero, List.set_cons_succ]
        refine wpAnyH_take (i := 6) (oi := { dst := some 42, op := Op.move (Operand.tmp 1), type := 24, pos := "ref.go:30", after := #[{ on := 5, ground := Ground.guard }], guard := some (5, false) }) (v := ?_) rfl (by kernel_rfl) (by kernel_rfl) (by kernel_rfl) (fun _ _ _ h => h) (Or.inl ⟨by rfl, ?_⟩) (by assumption) ?_
        rotate_left
        · (intro w hSw; (try dsimp only at hSw); (try obtain ⟨hSa, hSb⟩ := hSw); go_simp; try with_reducible rfl)
        try simp only [Act.put, List.setIfInBounds_toArray, List.set_cons_zero, List.set_cons_succ]
        refine wpAnyH_take (i := 7) (oi := { dst := some 43, op := Op.move (Operand.tmp 9), type := 3, pos := "ref.go:30", after := #[{ on := 5, ground := Ground.guard }], guard := some (5, false) }) (v := ?_) rfl (by kernel_rfl) (by kernel_rfl) (by kernel_rfl) (fun _ _ _ h => h) (Or.inl ⟨by rfl, ?_⟩) (by assumption) ?_
        rotate_left
        · (intro w hSw; (try dsimp only at hSw); (try obtain ⟨hSa, hSb⟩ := hSw); go_simp; try with_reducible rfl)
        try simp only [Act.put, List.setIfInBounds_toArray, List.set_cons_zero, List.set_cons_succ]
        refine wpAnyH_take (i := 8) (oi := { dst := some 44, op := Op.indexAddr 24 (Operand.tmp 42) (Operand.tmp 43), type := 0, pos := "ref.go:30", after := #[{ on := 6, ground := Ground.data }, { on := 7, ground := Ground.data }, { on := 5, ground := Ground.guard }], guard := some (5, false) }) (v := ?_) rfl (by kernel_rfl) (by kernel_rfl) (by kernel_rfl) (fun _ _ _ h => h) (Or.inl ⟨by rfl, ?_⟩) (by assumption) ?_
        rotate_left
        · (intro w hSw; (try dsimp only at hSw); (try obtain ⟨hSa, hSb⟩ := hSw); go_simp; try with_reducible rfl)
        try simp only [Act.put, List.setIfInBounds_toArray, List.set_cons_zero, List.set_cons_succ]
        refine wpAnyH_take (i := 9) (oi := { dst := some 45, op := Op.load 3 (Operand.tmp 44), type := 3, pos := "ref.go:30", after := #[{ on := 8, ground := Ground.data }, { on := 5, ground := Ground.guard }], guard := some (5, false) }) (v := ?_) rfl (by kernel_rfl) (by kernel_rfl) (by kernel_rfl) (fun _ _ _ h => h) (Or.inl ⟨by rfl, ?_⟩) (by assumption) ?_
        rotate_left
        · (intro w hSw; (try dsimp only at hSw); (try obtain ⟨hSa, hSb⟩ := hSw); go_simp; try with_reducible rfl)
        try simp only [Act.put, List.setIfInBounds_toArray, List.set_cons_zero, List.set_cons_succ]
        refine wpAnyH_take (i := 10) (oi := { dst := some 46, op := Op.load 23 (Operand.tmp 3), type := 23, pos := "ref.go:30", after := #[{ on := 5, ground := Ground.guard }], guard := some (5, false) }) (v := ?_) rfl (by kernel_rfl) (by kernel_rfl) (by kernel_rfl) (fun _ _ _ h => h) (Or.inl ⟨by rfl, ?_⟩) (by assumption) ?_
        rotate_left
        · (intro w hSw; (try dsimp only at hSw); (try obtain ⟨hSa, hSb⟩ := hSw); go_simp; try with_reducible rfl)
        try simp only [Act.put, List.setIfInBounds_toArray, List.set_cons_zero, List.set_cons_succ]
        refine wpAnyH_ready (rs := [11]) (by kernel_rfl) (by simp) ?_
        refine AllReadyH.cons (o := { dst := some 47, op := Op.call { callee := Callee.value (Operand.func 28), args := #[Operand.tmp 46], argTypes := #[23] }, type := 3, pos := "ref.go:30", after := #[{ on := 10, ground := Ground.data }, { on := 5, ground := Ground.chain }, { on := 5, ground := Ground.guard }], guard := some (5, false) }) rfl (fun K hK => ?_) AllReadyH.nil
        go_simp
        (refine (HU.out _).mono ?_; rintro e w2 ⟨rfl, hO2⟩; have hOd := (Only.refl (fun _ => False) wr).drew.trans hO2; have HO2 := Lib.hid (HO.out.trans hOd); have HB2 := Lib.hid (HB.out.only hOd id); have HOUT2 := Lib.hid (HOUT.out.only hOd id); have HROW2 := Lib.hid (HROW.out.only hOd (fun _ => id)); have cg2 := HRG.out w2 k HO2.out hkn; have cw2 := HRW.out w2 k HO2.out hkn; rw [HGI2.out.1] at cg2; rw [HGI2.out.2] at cw2; clear hO2 hOd; try simp only [])
        refine hK.out _ _ ?_ (fun hHeld => ?_)
        · exact ⟨⟨⟨cg2, cw2⟩, HB2.out.cell 0, HB2.out.cell 1⟩, ⟨HB2.out.cell 2, HB2.out.cell 3⟩, HB2.out.cell 4⟩
        clear hK K
        try simp only [Act.put, List.setIfInBounds_toArray, List.set_cons_zero, List.set_cons_succ]
        refine wpAnyH_take (i := 12) (oi := { dst := some 48, op := Op.binOp BinOp.gtr 3 (Operand.tmp 45) (Operand.tmp 47) 3, type := 4, pos := "ref.go:30", after := #[{ on := 9, ground := Ground.data }, { on := 11, ground := Ground.data }, { on := 5, ground := Ground.guard }], guard := some (5, false) }) (v := ?_) rfl (by kernel_rfl) (by kernel_rfl) (by kernel_rfl) (fun _ _ _ h => h) (Or.inl ⟨by rfl, ?_⟩) (by assumption) ?_
        rotate_left
        · (intro w hSw; (try dsimp only at hSw); (try obtain ⟨hSa, hSb⟩ := hSw); go_simp; try with_reducible rfl)
        try simp only [Act.put, List.setIfInBounds_toArray, List.set_cons_zero, List.set_cons_succ]
        refine wpAnyH_take (i := 13) (oi := { dst := some 49, op := Op.pick (Operand.tmp 41) (Operand.const (Value.bool true)) (Operand.tmp 48), type := 4, pos := "ref.go:30", after := #[{ on := 5, ground := Ground.data }, { on := 12, ground := Ground.data }], guard := none }) (v := ?_) rfl (by kernel_rfl) (by kernel_rfl) (by kernel_rfl) (fun _ _ _ h => h) (Or.inl ⟨by rfl, ?_⟩) (by assumption) ?_
        rotate_left
        · (intro w hSw; (try dsimp only at hSw); (try obtain ⟨hSa, hSb⟩ := hSw); go_simp; try with_reducible rfl)
        try simp only [Act.put, List.setIfInBounds_toArray, List.set_cons_zero, List.set_cons_succ]
        refine wpAnyH_take (i := 14) (oi := { dst := some 50, op := Op.move (Operand.tmp 49), type := 4, pos := "ref.go:30", after := #[{ on := 13, ground := Ground.data }, { on := 11, ground := Ground.chain }], guard := none }) (v := ?_) rfl (by kernel_rfl) (by kernel_rfl) (by kernel_rfl) (fun _ _ _ h => h) (Or.inl ⟨by rfl, ?_⟩) (by assumption) ?_
        rotate_left
        · (intro w hSw; (try dsimp only at hSw); (try obtain ⟨hSa, hSb⟩ := hSw); go_simp; try with_reducible rfl)
        try simp only [Act.put, List.setIfInBounds_toArray, List.set_cons_zero, List.set_cons_succ]
        refine wpAnyH_take (i := 15) (oi := { dst := some 51, op := Op.move (Operand.tmp 2), type := 24, pos := "ref.go:30", after := #[{ on := 14, ground := Ground.guard }], guard := some (14, false) }) (v := ?_) rfl (by kernel_rfl) (by kernel_rfl) (by kernel_rfl) (fun _ _ _ h => h) (Or.inl ⟨by rfl, ?_⟩) (by assumption) ?_
        rotate_left
        · (intro w hSw; (try dsimp only at hSw); (try obtain ⟨hSa, hSb⟩ := hSw); go_simp; try with_reducible rfl)
        try simp only [Act.put, List.setIfInBounds_toArray, List.set_cons_zero, List.set_cons_succ]
        refine wpAnyH_take (i := 16) (oi := { dst := some 52, op := Op.move (Operand.tmp 9), type := 3, pos := "ref.go:30", after := #[{ on := 14, ground := Ground.guard }], guard := some (14, false) }) (v := ?_) rfl (by kernel_rfl) (by kernel_rfl) (by kernel_rfl) (fun _ _ _ h => h) (Or.inl ⟨by rfl, ?_⟩) (by assumption) ?_
        rotate_left
        · (intro w hSw; (try dsimp only at hSw); (try obtain ⟨hSa, hSb⟩ := hSw); go_simp; try with_reducible rfl)
        try simp only [Act.put, List.setIfInBounds_toArray, List.set_cons_zero, List.set_cons_succ]
        refine wpAnyH_take (i := 17) (oi := { dst := some 53, op := Op.indexAddr 24 (Operand.tmp 51) (Operand.tmp 52), type := 0, pos := "ref.go:30", after := #[{ on := 15, ground := Ground.data }, { on := 16, ground := Ground.data }, { on := 14, ground := Ground.guard }], guard := some (14, false) }) (v := ?_) rfl (by kernel_rfl) (by kernel_rfl) (by kernel_rfl) (fun _ _ _ h => h) (Or.inl ⟨by rfl, ?_⟩) (by assumption) ?_
        rotate_left
        · (intro w hSw; (try dsimp only at hSw); (try obtain ⟨hSa, hSb⟩ := hSw); go_simp; try with_reducible rfl)
        try simp only [Act.put, List.setIfInBounds_toArray, List.set_cons_zero, List.set_cons_succ]
        refine wpAnyH_take (i := 18) (oi := { dst := some 54, op := Op.load 3 (Operand.tmp 53), type := 3, pos := "ref.go:30", after := #[{ on := 17, ground := Ground.data }, { on := 14, ground := Ground.guard }], guard := some (14, false) }) (v := ?_) rfl (by kernel_rfl) (by kernel_rfl) (by kernel_rfl) (fun _ _ _ h => h) (Or.inl ⟨by rfl, ?_⟩) (by assumption) ?_
        rotate_left
        · (intro w hSw; (try dsimp only at hSw); (try obtain ⟨hSa, hSb⟩ := hSw); go_simp; try with_reducible rfl)
        try simp only [Act.put, List.setIfInBounds_toArray, List.set_cons_zero, List.set_cons_succ]
        refine wpAnyH_take (i := 19) (oi := { dst := some 55, op := Op.binOp BinOp.lss 3 (Operand.tmp 54) (Operand.const (Value.int IntKind.i64 0)) 3, type := 4, pos := "ref.go:30", after := #[{ on := 18, ground := Ground.data }, { on := 14, ground := Ground.guard }], guard := some (14, false) }) (v := ?_) rfl (by kernel_rfl) (by kernel_rfl) (by kernel_rfl) (fun _ _ _ h => h) (Or.inl ⟨by rfl, ?_⟩) (by assumption) ?_
        rotate_left
        · (intro w hSw; (try dsimp only at hSw); (try obtain ⟨hSa, hSb⟩ := hSw); go_simp; try with_reducible rfl)
        try simp only [Act.put, List.setIfInBounds_toArray, List.set_cons_zero, List.set_cons_succ]
        refine wpAnyH_take (i := 20) (oi := { dst := some 56, op := Op.pick (Operand.tmp 50) (Operand.const (Value.bool true)) (Operand.tmp 55), type := 4, pos := "ref.go:30", after := #[{ on := 14, ground := Ground.data }, { on := 19, ground := Ground.data }], guard := none }) (v := ?_) rfl (by kernel_rfl) (by kernel_rfl) (by kernel_rfl) (fun _ _ _ h => h) (Or.inl ⟨by rfl, ?_⟩) (by assumption) ?_
        rotate_left
        · (intro w hSw; (try dsimp only at hSw); (try obtain ⟨hSa, hSb⟩ := hSw); go_simp; try with_reducible rfl)
        try simp only [Act.put, List.setIfInBounds_toArray, List.set_cons_zero, List.set_cons_succ]
        refine wpAnyH_take (i := 21) (oi := { dst := some 57, op := Op.move (Operand.tmp 56), type := 4, pos := "ref.go:30", after := #[{ on := 20, ground := Ground.data }, { on := 14, ground := Ground.chain }], guard := none }) (v := ?_) rfl (by kernel_rfl) (by kernel_rfl) (by kernel_rfl) (fun _ _ _ h => h) (Or.inl ⟨by rfl, ?_⟩) (by assumption) ?_
        rotate_left
        · (intro w hSw; (try dsimp only at hSw); (try obtain ⟨hSa, hSb⟩ := hSw); go_simp; try with_reducible rfl)
        try simp only [Act.put, List.setIfInBounds_toArray, List.set_cons_zero, List.set_cons_succ]
        refine wpAnyH_take (i := 22) (oi := { dst := some 58, op := Op.move (Operand.tmp 2), type := 24, pos := "ref.go:30", after := #[{ on := 21, ground := Ground.guard }], guard := some (21, false) }) (v := undef) rfl (by kernel_rfl) (by kernel_rfl) (by kernel_rfl) (fun _ _ _ h => h) (Or.inr ⟨by rfl, rfl⟩) (by assumption) ?_
        try simp only [Act.put, List.setIfInBounds_toArray, List.set_cons_zero, List.set_cons_succ]
        refine wpAnyH_take (i := 23) (oi := { dst := some 59, op := Op.move (Operand.tmp 9), type := 3, pos := "ref.go:30", after := #[{ on := 21, ground := Ground.guard }], guard := some (21, false) }) (v := undef) rfl (by kernel_rfl) (by kernel_rfl) (by kernel_rfl) (fun _ _ _ h => h) (Or.inr ⟨by rfl, rfl⟩) (by assumption) ?_
        try simp only [Act.put, List.setIfInBounds_toArray, List.set_cons_zero, List.set_cons_succ]
        refine wpAnyH_take (i := 24) (oi := { dst := some 60, op := Op.indexAddr 24 (Operand.tmp 58) (Operand.tmp 59), type := 0, pos := "ref.go:30", after := #[{ on := 22, ground := Ground.data }, { on := 23, ground := Ground.data }, { on := 21, ground := Ground.guard }], guard := some (21, false) }) (v := undef) rfl (by kernel_rfl) (by kernel_rfl) (by kernel_rfl) (fun _ _ _ h => h) (Or.inr ⟨by rfl, rfl⟩) (by assumption) ?_
        try simp only [Act.put, List.setIfInBounds_toArray, List.set_cons_zero, List.set_cons_succ]
        refine wpAnyH_take (i := 25) (oi := { dst := some 61, op := Op.load 3 (Operand.tmp 60), type := 3, pos := "ref.go:30", after := #[{ on := 24, ground := Ground.data }, { on := 21, ground := Ground.guard }], guard := some (21, false) }) (v := undef) rfl (by kernel_rfl) (by kernel_rfl) (by kernel_rfl) (fun _ _ _ h => h) (Or.inr ⟨by rfl, rfl⟩) (by assumption) ?_
        try simp only [Act.put, List.setIfInBounds_toArray, List.set_cons_zero, List.set_cons_succ]
        refine wpAnyH_take (i := 26) (oi := { dst := some 62, op := Op.binOp BinOp.gtr 3 (Operand.tmp 61) (Operand.const (Value.int IntKind.i64 2147483647)) 3, type := 4, pos := "ref.go:30", after := #[{ on := 25, ground := Ground.data }, { on := 21, ground := Ground.guard }], guard := some (21, false) }) (v := undef) rfl (by kernel_rfl) (by kernel_rfl) (by kernel_rfl) (fun _ _ _ h => h) (Or.inr ⟨by rfl, rfl⟩) (by assumption) ?_
        try simp only [Act.put, List.setIfInBounds_toArray, List.set_cons_zero, List.set_cons_succ]
        refine wpAnyH_take (i := 27) (oi := { dst := some 63, op := Op.pick (Operand.tmp 57) (Operand.const (Value.bool true)) (Operand.tmp 62), type := 4, pos := "ref.go:30", after := #[{ on := 21, ground := Ground.data }, { on := 26, ground := Ground.data }], guard := none }) (v := ?_) rfl (by kernel_rfl) (by kernel_rfl) (by kernel_rfl) (fun _ _ _ h => h) (Or.inl ⟨by rfl, ?_⟩) (by assumption) ?_
        rotate_left
        · (intro w hSw; (try dsimp only at hSw); (try obtain ⟨hSa, hSb⟩ := hSw); go_simp; try with_reducible rfl)
        try simp only [Act.put, List.setIfInBounds_toArray, List.set_cons_zero, List.set_cons_succ]
        refine wpAnyH_done (by kernel_rfl) ?_ _
        go_wp2
        go_ret2
        exact .inr ⟨HNN.out, rfl, HO2.out⟩
      have d3 : decide (wi < 0) = false := by simp; omega
      by_cases h4 : 2147483647 < wi
      case pos =>
        have HNN := Lib.hid (HNK.out (fun h => by omega))
        have d4 : decide (2147483647 < wi) = true := by simp [h4]
        clear h1 h2 h3 h4
        refine wp_region_held_drew (S := (fun W => ((W.cell? ⟨gg, og + k, none⟩ = some (.int .i64 gi) ∧ W.cell? ⟨gw, ow + k, none⟩ = some (.int .i64 wi)) ∧ (W.cell? ⟨w.heap.size, 0, none⟩ = some (.int .i64 G.c) ∧ W.cell? ⟨w.heap.size, 1, none⟩ = some (.int .i64 G.l))) ∧ ((W.cell? ⟨w.heap.size, 2, none⟩ = some (.int .i64 G.b) ∧ W.cell? ⟨w.heap.size, 3, none⟩ = some (.int .i64 G.p)) ∧ W.cell? ⟨w.heap.size, 4, none⟩ = some (.int .i64 G.s)))) (by kernel_rfl) ?_ (fun hHeld => ?_)
        · exact ⟨⟨⟨cg0, cw0⟩, HB.out.cell 0, HB.out.cell 1⟩, ⟨HB.out.cell 2, HB.out.cell 3⟩, HB.out.cell 4⟩
        refine wpAnyH_take (i := 0) (oi := { dst := some 36, op := Op.move (Operand.tmp 1), type := 24, pos := "ref.go:30", after := #[], guard := none }) (v := ?_) rfl (by kernel_rfl) (by kernel_rfl) (by kernel_rfl) (fun _ _ _ h => h) (Or.inl ⟨by rfl, ?_⟩) (by assumption) ?_
        rotate_left
        · (intro w hSw; (try dsimp only at hSw); (try obtain ⟨hSa, hSb⟩ := hSw); go_simp; try with_reducible rfl)
        try simp only [Act.put, List.setIfInBounds_toArray, List.set_cons_zero, List.set_cons_succ]
        refine wpAnyH_take (i := 1) (oi := { dst := some 37, op := Op.move (Operand.tmp 9), type := 3, pos := "ref.go:30", after := #[], guard := none }) (v := ?_) rfl (by kernel_rfl) (by kernel_rfl) (by kernel_rfl) (fun _ _ _ h => h) (Or.inl ⟨by rfl, ?_⟩) (by assumption) ?_
        rotate_left
        · (intro w hSw; (try dsimp only at hSw); (try obtain ⟨hSa, hSb⟩ := hSw); go_simp; try with_reducible rfl)
        try simp only [Act.put, List.setIfInBounds_toArray, List.set_cons_zero, List.set_cons_succ]
        refine wpAnyH_take (i := 2) (oi := { dst := some 38, op := Op.indexAddr 24 (Operand.tmp 36) (Operand.tmp 37), type := 0, pos := "ref.go:30", after := #[{ on := 0, ground := Ground.data }, { on := 1, ground := Ground.data }], guard := none }) (v := ?_) rfl (by kernel_rfl) (by kernel_rfl) (by kernel_rfl) (fun _ _ _ h => h) (Or.inl ⟨by rfl, ?_⟩) (by assumption) ?_
        rotate_left
        · (intro w hSw; (try dsimp only at hSw); (try obtain ⟨hSa, hSb⟩ := hSw); go_simp; try with_reducible rfl)
        try simp only [Act.put, List.setIfInBounds_toArray, List.set_cons_zero, List.set_cons_succ]
        refine wpAnyH_take (i := 3) (oi := { dst := some 39, op := Op.load 3 (Operand.tmp 38), type := 3, pos := "ref.go:30", after := #[{ on := 2, ground := Ground.data }], guard := none }) (v := ?_) rfl (by kernel_rfl) (by kernel_rfl) (by kernel_rfl) (fun _ _ _ h => h) (Or.inl ⟨by rfl, ?_⟩) (by assumption) ?_
        rotate_left
        · (intro w hSw; (try dsimp only at hSw); (try obtain ⟨hSa, hSb⟩ := hSw); go_simp; try with_reducible rfl)
        try simp only [Act.put, List.setIfInBounds_toArray, List.set_cons_zero, List.set_cons_succ]
        refine wpAnyH_take (i := 4) (oi := { dst := some 40, op := Op.binOp BinOp.lss 3 (Operand.tmp 39) (Operand.const (Value.int IntKind.i64 0)) 3, type := 4, pos := "ref.go:30", after := #[{ on := 3, ground := Ground.data }], guard := none }) (v := ?_) rfl (by kernel_rfl) (by kernel_rfl) (by kernel_rfl) (fun _ _ _ h => h) (Or.inl ⟨by rfl, ?_⟩) (by assumption) ?_
        rotate_left
        · (intro w hSw; (try dsimp only at hSw); (try obtain ⟨hSa, hSb⟩ := hSw); go_simp; try with_reducible rfl)
        try simp only [Act.put, List.setIfInBounds_toArray, List.set_cons_zero, List.set_cons_succ]
        refine wpAnyH_take (i := 5) (oi := { dst := some 41, op := Op.move (Operand.tmp 40), type := 4, pos := "ref.go:30", after := #[{ on := 4, ground := Ground.data }], guard := none }) (v := ?_) rfl (by kernel_rfl) (by kernel_rfl) (by kernel_rfl) (fun _ _ _ h => h) (Or.inl ⟨by rfl, ?_⟩) (by assumption) ?_
        rotate_left
        · (intro w hSw; (try dsimp only at hSw); (try obtain ⟨hSa, hSb⟩ := hSw); go_simp; try with_reducible rfl)
        try simp only [Act.put, List.setIfInBounds_toArray, List.set_cons_zero, List.set_cons_succ]
        refine wpAnyH_take (i := 6) (oi := { dst := some 42, op := Op.move (Operand.tmp 1), type := 24, pos := "ref.go:30", after := #[{ on := 5, ground := Ground.guard }], guard := some (5, false) }) (v := ?_) rfl (by kernel_rfl) (by kernel_rfl) (by kernel_rfl) (fun _ _ _ h => h) (Or.inl ⟨by rfl, ?_⟩) (by assumption) ?_
        rotate_left
        · (intro w hSw; (try dsimp only at hSw); (try obtain ⟨hSa, hSb⟩ := hSw); go_simp; try with_reducible rfl)
        try simp only [Act.put, List.setIfInBounds_toArray, List.set_cons_zero, List.set_cons_succ]
        refine wpAnyH_take (i := 7) (oi := { dst := some 43, op := Op.move (Operand.tmp 9), type := 3, pos := "ref.go:30", after := #[{ on := 5, ground := Ground.guard }], guard := some (5, false) }) (v := ?_) rfl (by kernel_rfl) (by kernel_rfl) (by kernel_rfl) (fun _ _ _ h => h) (Or.inl ⟨by rfl, ?_⟩) (by assumption) ?_
        rotate_left
        · (intro w hSw; (try dsimp only at hSw); (try obtain ⟨hSa, hSb⟩ := hSw); go_simp; try with_reducible rfl)
        try simp only [Act.put, List.setIfInBounds_toArray, List.set_cons_zero, List.set_cons_succ]
        refine wpAnyH_take (i := 8) (oi := { dst := some 44, op := Op.indexAddr 24 (Operand.tmp 42) (Operand.tmp 43), type := 0, pos := "ref.go:30", after := #[{ on := 6, ground := Ground.data }, { on := 7, ground := Ground.data }, { on := 5, ground := Ground.guard }], guard := some (5, false) }) (v := ?_) rfl (by kernel_rfl) (by kernel_rfl) (by kernel_rfl) (fun _ _ _ h => h) (Or.inl ⟨by rfl, ?_⟩) (by assumption) ?_
        rotate_left
        · (intro w hSw; (try dsimp only at hSw); (try obtain ⟨hSa, hSb⟩ := hSw); go_simp; try with_reducible rfl)
        try simp only [Act.put, List.setIfInBounds_toArray, List.set_cons_zero, List.set_cons_succ]
        refine wpAnyH_take (i := 9) (oi := { dst := some 45, op := Op.load 3 (Operand.tmp 44), type := 3, pos := "ref.go:30", after := #[{ on := 8, ground := Ground.data }, { on := 5, ground := Ground.guard }], guard := some (5, false) }) (v := ?_) rfl (by kernel_rfl) (by kernel_rfl) (by kernel_rfl) (fun _ _ _ h => h) (Or.inl ⟨by rfl, ?_⟩) (by assumption) ?_
        rotate_left
        · (intro w hSw; (try dsimp only at hSw); (try obtain ⟨hSa, hSb⟩ := hSw); go_simp; try with_reducible rfl)
        try simp only [Act.put, List.setIfInBounds_toArray, List.set_cons_zero, List.set_cons_succ]
        refine wpAnyH_take (i := 10) (oi := { dst := some 46, op := Op.load 23 (Operand.tmp 3), type := 23, pos := "ref.go:30", after := #[{ on := 5, ground := Ground.guard }], guard := some (5, false) }) (v := ?_) rfl (by kernel_rfl) (by kernel_rfl) (by kernel_rfl) (fun _ _ _ h => h) (Or.inl ⟨by rfl, ?_⟩) (by assumption) ?_
        rotate_left
        · (intro w hSw; (try dsimp only at hSw); (try obtain ⟨hSa, hSb⟩ := hSw); go_simp; try with_reducible rfl)
        try simp only [Act.put, List.setIfInBounds_toArray, List.set_cons_zero, List.set_cons_succ]
        refine wpAnyH_ready (rs := [11]) (by kernel_rfl) (by simp) ?_
        refine AllReadyH.cons (o := { dst := some 47, op := Op.call { callee := Callee.value (Operand.func 28), args := #[Operand.tmp 46], argTypes := #[23] }, type := 3, pos := "ref.go:30", after := #[{ on := 10, ground := Ground.data }, { on := 5, ground := Ground.chain }, { on := 5, ground := Ground.guard }], guard := some (5, false) }) rfl (fun K hK => ?_) AllReadyH.nil
        go_simp
        (refine (HU.out _).mono ?_; rintro e w2 ⟨rfl, hO2⟩; have hOd := (Only.refl (fun _ => False) wr).drew.trans hO2; have HO2 := Lib.hid (HO.out.trans hOd); have HB2 := Lib.hid (HB.out.only hOd id); have HOUT2 := Lib.hid (HOUT.out.only hOd id); have HROW2 := Lib.hid (HROW.out.only hOd (fun _ => id)); have cg2 := HRG.out w2 k HO2.out hkn; have cw2 := HRW.out w2 k HO2.out hkn; rw [HGI2.out.1] at cg2; rw [HGI2.out.2] at cw2; clear hO2 hOd; try simp only [])
        refine hK.out _ _ ?_ (fun hHeld => ?_)
        · exact ⟨⟨⟨cg2, cw2⟩, HB2.out.cell 0, HB2.out.cell 1⟩, ⟨HB2.out.cell 2, HB2.out.cell 3⟩, HB2.out.cell 4⟩
        clear hK K
        try simp only [Act.put, List.setIfInBounds_toArray, List.set_cons_zero, List.set_cons_succ]
        refine wpAnyH_take (i := 12) (oi := { dst := some 48, op := Op.binOp BinOp.gtr 3 (Operand.tmp 45) (Operand.tmp 47) 3, type := 4, pos := "ref.go:30", after := #[{ on := 9, ground := Ground.data }, { on := 11, ground := Ground.data }, { on := 5, ground := Ground.guard }], guard := some (5, false) }) (v := ?_) rfl (by kernel_rfl) (by kernel_rfl) (by kernel_rfl) (fun _ _ _ h => h) (Or.inl ⟨by rfl, ?_⟩) (by assumption) ?_
        rotate_left
        · (intro w hSw; (try dsimp only at hSw); (try obtain ⟨hSa, hSb⟩ := hSw); go_simp; try with_reducible rfl)
        try simp only [Act.put, List.setIfInBounds_toArray, List.set_cons_zero, List.set_cons_succ]
        refine wpAnyH_take (i := 13) (oi := { dst := some 49, op := Op.pick (Operand.tmp 41) (Operand.const (Value.bool true)) (Operand.tmp 48), type := 4, pos := "ref.go:30", after := #[{ on := 5, ground := Ground.data }, { on := 12, ground := Ground.data }], guard := none }) (v := ?_) rfl (by kernel_rfl) (by kernel_rfl) (by kernel_rfl) (fun _ _ _ h => h) (Or.inl ⟨by rfl, ?_⟩) (by assumption) ?_
        rotate_left
        · (intro w hSw; (try dsimp only at hSw); (try obtain ⟨hSa, hSb⟩ := hSw); go_simp; try with_reducible rfl)
        try simp only [Act.put, List.setIfInBounds_toArray, List.set_cons_zero, List.set_cons_succ]
        refine wpAnyH_take (i := 14) (oi := { dst := some 50, op := Op.move (Operand.tmp 49), type := 4, pos := "ref.go:30", after := #[{ on := 13, ground := Ground.data }, { on := 11, ground := Ground.chain }], guard := none }) (v := ?_) rfl (by kernel_rfl) (by kernel_rfl) (by kernel_rfl) (fun _ _ _ h => h) (Or.inl ⟨by rfl, ?_⟩) (by assumption) ?_
        rotate_left
        · (intro w hSw; (try dsimp only at hSw); (try obtain ⟨hSa, hSb⟩ := hSw); go_simp; try with_reducible rfl)
        try simp only [Act.put, List.setIfInBounds_toArray, List.set_cons_zero, List.set_cons_succ]
        refine wpAnyH_take (i := 15) (oi := { dst := some 51, op := Op.move (Operand.tmp 2), type := 24, pos := "ref.go:30", after := #[{ on := 14, ground := Ground.guard }], guard := some (14, false) }) (v := ?_) rfl (by kernel_rfl) (by kernel_rfl) (by kernel_rfl) (fun _ _ _ h => h) (Or.inl ⟨by rfl, ?_⟩) (by assumption) ?_
        rotate_left
        · (intro w hSw; (try dsimp only at hSw); (try obtain ⟨hSa, hSb⟩ := hSw); go_simp; try with_reducible rfl)
        try simp only [Act.put, List.setIfInBounds_toArray, List.set_cons_zero, List.set_cons_succ]
        refine wpAnyH_take (i := 16) (oi := { dst := some 52, op := Op.move (Operand.tmp 9), type := 3, pos := "ref.go:30", after := #[{ on := 14, ground := Ground.guard }], guard := some (14, false) }) (v := ?_) rfl (by kernel_rfl) (by kernel_rfl) (by kernel_rfl) (fun _ _ _ h => h) (Or.inl ⟨by rfl, ?_⟩) (by assumption) ?_
        rotate_left
        · (intro w hSw; (try dsimp only at hSw); (try obtain ⟨hSa, hSb⟩ := hSw); go_simp; try with_reducible rfl)
        try simp only [Act.put, List.setIfInBounds_toArray, List.set_cons_zero, List.set_cons_succ]
        refine wpAnyH_take (i := 17) (oi := { dst := some 53, op := Op.indexAddr 24 (Operand.tmp 51) (Operand.tmp 52), type := 0, pos := "ref.go:30", after := #[{ on := 15, ground := Ground.data }, { on := 16, ground := Ground.data }, { on := 14, ground := Ground.guard }], guard := some (14, false) }) (v := ?_) rfl (by kernel_rfl) (by kernel_rfl) (by kernel_rfl) (fun _ _ _ h => h) (Or.inl ⟨by rfl, ?_⟩) (by assumption) ?_
        rotate_left
        · (intro w hSw; (try dsimp only at hSw); (try obtain ⟨hSa, hSb⟩ := hSw); go_simp; try with_reducible rfl)
        try simp only [Act.put, List.setIfInBounds_toArray, List.set_cons_zero, List.set_cons_succ]
        refine wpAnyH_take (i := 18) (oi := { dst := some 54, op := Op.load 3 (Operand.tmp 53), type := 3, pos := "ref.go:30", after := #[{ on := 17, ground := Ground.data }, { on := 14, ground := Ground.guard }], guard := some (14, false) }) (v := ?_) rfl (by kernel_rfl) (by kernel_rfl) (by kernel_rfl) (fun _ _ _ h => h) (Or.inl ⟨by rfl, ?_⟩) (by assumption) ?_
        rotate_left
        · (intro w hSw; (try dsimp only at hSw); (try obtain ⟨hSa, hSb⟩ := hSw); go_simp; try with_reducible rfl)
        try simp only [Act.put, List.setIfInBounds_toArray, List.set_cons_zero, List.set_cons_succ]
        refine wpAnyH_take (i := 19) (oi := { dst := some 55, op := Op.binOp BinOp.lss 3 (Operand.tmp 54) (Operand.const (Value.int IntKind.i64 0)) 3, type := 4, pos := "ref.go:30", after := #[{ on := 18, ground := Ground.data }, { on := 14, ground := Ground.guard }], guard := some (14, false) }) (v := ?_) rfl (by kernel_rfl) (by kernel_rfl) (by kernel_rfl) (fun _ _ _ h => h) (Or.inl ⟨by rfl, ?_⟩) (by assumption) ?_
        rotate_left
        · (intro w hSw; (try dsimp only at hSw); (try obtain ⟨hSa, hSb⟩ := hSw); go_simp; try with_reducible rfl)
        try simp only [Act.put, List.setIfInBounds_toArray, List.set_cons_zero, List.set_cons_succ]
        refine wpAnyH_take (i := 20) (oi := { dst := some 56, op := Op.pick (Operand.tmp 50) (Operand.const (Value.bool true)) (Operand.tmp 55), type := 4, pos := "ref.go:30", after := #[{ on := 14, ground := Ground.data }, { on := 19, ground := Ground.data }], guard := none }) (v := ?_) rfl (by kernel_rfl) (by kernel_rfl) (by kernel_rfl) (fun _ _ _ h => h) (Or.inl ⟨by rfl, ?_⟩) (by assumption) ?_
        rotate_left
        · (intro w hSw; (try dsimp only at hSw); (try obtain ⟨hSa, hSb⟩ := hSw); go_simp; try with_reducible rfl)
        try simp only [Act.put, List.setIfInBounds_toArray, List.set_cons_zero, List.set_cons_succ]
        refine wpAnyH_take (i := 21) (oi := { dst := some 57, op := Op.move (Operand.tmp 56), type := 4, pos := "ref.go:30", after := #[{ on := 20, ground := Ground.data }, { on := 14, ground := Ground.chain }], guard := none }) (v := ?_) rfl (by kernel_rfl) (by kernel_rfl) (by kernel_rfl) (fun _ _ _ h => h) (Or.inl ⟨by rfl, ?_⟩) (by assumption) ?_
        rotate_left
        · (intro w hSw; (try dsimp only at hSw); (try obtain ⟨hSa, hSb⟩ := hSw); go_simp; try with_reducible rfl)
        try simp only [Act.put, List.setIfInBounds_toArray, List.set_cons_zero, List.set_cons_succ]
        refine wpAnyH_take (i := 22) (oi := { dst := some 58, op := Op.move (Operand.tmp 2), type := 24, pos := "ref.go:30", after := #[{ on := 21, ground := Ground.guard }], guard := some (21, false) }) (v := ?_) rfl (by kernel_rfl) (by kernel_rfl) (by kernel_rfl) (fun _ _ _ h => h) (Or.inl ⟨by rfl, ?_⟩) (by assumption) ?_
        rotate_left
        · (intro w hSw; (try dsimp only at hSw); (try obtain ⟨hSa, hSb⟩ := hSw); go_simp; try with_reducible rfl)
        try simp only [Act.put, List.setIfInBounds_toArray, List.set_cons_zero, List.set_cons_succ]
        refine wpAnyH_take (i := 23) (oi := { dst := some 59, op := Op.move (Operand.tmp 9), type := 3, pos := "ref.go:30", after := #[{ on := 21, ground := Ground.guard }], guard := some (21, false) }) (v := ?_) rfl (by kernel_rfl) (by kernel_rfl) (by kernel_rfl) (fun _ _ _ h => h) (Or.inl ⟨by rfl, ?_⟩) (by assumption) ?_
        rotate_left
        · (intro w hSw; (try dsimp only at hSw); (try obtain ⟨hSa, hSb⟩ := hSw); go_simp; try with_reducible rfl)
        try simp only [Act.put, List.setIfInBounds_toArray, List.set_cons_zero, List.set_cons_succ]
        refine wpAnyH_take (i := 24) (oi := { dst := some 60, op := Op.indexAddr 24 (Operand.tmp 58) (Operand.tmp 59), type := 0, pos := "ref.go:30", after := #[{ on := 22, ground := Ground.data }, { on := 23, ground := Ground.data }, { on := 21, ground := Ground.guard }], guard := some (21, false) }) (v := ?_) rfl (by kernel_rfl) (by kernel_rfl) (by kernel_rfl) (fun _ _ _ h => h) (Or.inl ⟨by rfl, ?_⟩) (by assumption) ?_
        rotate_left
        · (intro w hSw; (try dsimp only at hSw); (try obtain ⟨hSa, hSb⟩ := hSw); go_simp; try with_reducible rfl)
        try simp only [Act.put, List.setIfInBounds_toArray, List.set_cons_zero, List.set_cons_succ]
        refine wpAnyH_take (i := 25) (oi := { dst := some 61, op := Op.load 3 (Operand.tmp 60), type := 3, pos := "ref.go:30", after := #[{ on := 24, ground := Ground.data }, { on := 21, ground := Ground.guard }], guard := some (21, false) }) (v := ?_) rfl (by kernel_rfl) (by kernel_rfl) (by kernel_rfl) (fun _ _ _ h => h) (Or.inl ⟨by rfl, ?_⟩) (by assumption) ?_
        rotate_left
        · (intro w hSw; (try dsimp only at hSw); (try obtain ⟨hSa, hSb⟩ := hSw); go_simp; try with_reducible rfl)
        try simp only [Act.put, List.setIfInBounds_toArray, List.set_cons_zero, List.set_cons_succ]
        refine wpAnyH_take (i := 26) (oi := { dst := some 62, op := Op.binOp BinOp.gtr 3 (Operand.tmp 61) (Operand.const (Value.int IntKind.i64 2147483647)) 3, type := 4, pos := "ref.go:30", after := #[{ on := 25, ground := Ground.data }, { on := 21, ground := Ground.guard }], guard := some (21, false) }) (v := ?_) rfl (by kernel_rfl) (by kernel_rfl) (by kernel_rfl) (fun _ _ _ h => h) (Or.inl ⟨by rfl, ?_⟩) (by assumption) ?_
        rotate_left
        · (intro w hSw; (try dsimp only at hSw); (try obtain ⟨hSa, hSb⟩ := hSw); go_simp; try with_reducible rfl)
        try simp only [Act.put, List.setIfInBounds_toArray, List.set_cons_zero, List.set_cons_succ]
        refine wpAnyH_take (i := 27) (oi := { dst := some 63, op := Op.pick (Operand.tmp 57) (Operand.const (Value.bool true)) (Operand.tmp 62), type := 4, pos := "ref.go:30", after := #[{ on := 21, ground := Ground.data }, { on := 26, ground := Ground.data }], guard := none }) (v := ?_) rfl (by kernel_rfl) (by kernel_rfl) (by kernel_rfl) (fun _ _ _ h => h) (Or.inl ⟨by rfl, ?_⟩) (by assumption) ?_
        rotate_left
        · (intro w hSw; (try dsimp only at hSw); (try obtain ⟨hSa, hSb⟩ := hSw); go_simp; try with_reducible rfl)
        try simp only [Act.put, List.setIfInBounds_toArray, List.set_cons_zero, List.set_cons_succ]
        refine wpAnyH_done (by kernel_rfl) ?_ _
        go_wp2
        go_ret2
        exact .inr ⟨HNN.out, rfl, HO2.out⟩
      have d4 : decide (2147483647 < wi) = false := by simp; omega
      have HST2 := Lib.hid (HST.out (by omega))
      clear h1 h2 h3 h4
      refine wp_region_held_drew (S := (fun W => ((W.cell? ⟨gg, og + k, none⟩ = some (.int .i64 gi) ∧ W.cell? ⟨gw, ow + k, none⟩ = some (.int .i64 wi)) ∧ (W.cell? ⟨w.heap.size, 0, none⟩ = some (.int .i64 G.c) ∧ W.cell? ⟨w.heap.size, 1, none⟩ = some (.int .i64 G.l))) ∧ ((W.cell? ⟨w.heap.size, 2, none⟩ = some (.int .i64 G.b) ∧ W.cell? ⟨w.heap.size, 3, none⟩ = some (.int .i64 G.p)) ∧ W.cell? ⟨w.heap.size, 4, none⟩ = some (.int .i64 G.s)))) (by kernel_rfl) ?_ (fun hHeld => ?_)
      · exact ⟨⟨⟨cg0, cw0⟩, HB.out.cell 0, HB.out.cell 1⟩, ⟨HB.out.cell 2, HB.out.cell 3⟩, HB.out.cell 4⟩
      refine wpAnyH_take (i := 0) (oi := { dst := some 36, op := Op.move (Operand.tmp 1), type := 24, pos := "ref.go:30", after := #[], guard := none }) (v := ?_) rfl (by kernel_rfl) (by kernel_rfl) (by kernel_rfl) (fun _ _ _ h => h) (Or.inl ⟨by rfl, ?_⟩) (by assumption) ?_
      rotate_left
      · (intro w hSw; (try dsimp only at hSw); (try obtain ⟨hSa, hSb⟩ := hSw); go_simp; try with_reducible rfl)
      try simp only [Act.put, List.setIfInBounds_toArray, List.set_cons_zero, List.set_cons_succ]
      refine wpAnyH_take (i := 1) (oi := { dst := some 37, op := Op.move (Operand.tmp 9), type := 3, pos := "ref.go:30", after := #[], guard := none }) (v := ?_) rfl (by kernel_rfl) (by kernel_rfl) (by kernel_rfl) (fun _ _ _ h => h) (Or.inl ⟨by rfl, ?_⟩) (by assumption) ?_
      rotate_left
      · (intro w hSw; (try dsimp only at hSw); (try obtain ⟨hSa, hSb⟩ := hSw); go_simp; try with_reducible rfl)
      try simp only [Act.put, List.setIfInBounds_toArray, List.set_cons_zero, List.set_cons_succ]
      refine wpAnyH_take (i := 2) (oi := { dst := some 38, op := Op.indexAddr 24 (Operand.tmp 36) (Operand.tmp 37), type := 0, pos := "ref.go:30", after := #[{ on := 0, ground := Ground.data }, { on := 1, ground := Ground.data }], guard := none }) (v := ?_) rfl (by kernel_rfl) (by kernel_rfl) (by kernel_rfl) (fun _ _ _ h => h) (Or.inl ⟨by rfl, ?_⟩) (by assumption) ?_
      rotate_left
      · (intro w hSw; (try dsimp only at hSw); (try obtain ⟨hSa, hSb⟩ := hSw); go_simp; try with_reducible rfl)
      try simp only [Act.put, List.setIfInBounds_toArray, List.set_cons_zero, List.set_cons_succ]
      refine wpAnyH_take (i := 3) (oi := { dst := some 39, op := Op.load 3 (Operand.tmp 38), type := 3, pos := "ref.go:30", after := #[{ on := 2, ground := Ground.data }], guard := none }) (v := ?_) rfl (by kernel_rfl) (by kernel_rfl) (by kernel_rfl) (fun _ _ _ h => h) (Or.inl ⟨by rfl, ?_⟩) (by assumption) ?_
      rotate_left
      · (intro w hSw; (try dsimp only at hSw); (try obtain ⟨hSa, hSb⟩ := hSw); go_simp; try with_reducible rfl)
      try simp only [Act.put, List.setIfInBounds_toArray, List.set_cons_zero, List.set_cons_succ]
      refine wpAnyH_take (i := 4) (oi := { dst := some 40, op := Op.binOp BinOp.lss 3 (Operand.tmp 39) (Operand.const (Value.int IntKind.i64 0)) 3, type := 4, pos := "ref.go:30", after := #[{ on := 3, ground := Ground.data }], guard := none }) (v := ?_) rfl (by kernel_rfl) (by kernel_rfl) (by kernel_rfl) (fun _ _ _ h => h) (Or.inl ⟨by rfl, ?_⟩) (by assumption) ?_
      rotate_left
      · (intro w hSw; (try dsimp only at hSw); (try obtain ⟨hSa, hSb⟩ := hSw); go_simp; try with_reducible rfl)
      try simp only [Act.put, List.setIfInBounds_toArray, List.set_cons_zero, List.set_cons_succ]
      refine wpAnyH_take (i := 5) (oi := { dst := some 41, op := Op.move (Operand.tmp 40), type := 4, pos := "ref.go:30", after := #[{ on := 4, ground := Ground.data }], guard := none }) (v := ?_) rfl (by kernel_rfl) (by kernel_rfl) (by kernel_rfl) (fun _ _ _ h => h) (Or.inl ⟨by rfl, ?_⟩) (by assumption) ?_
      rotate_left
      · (intro w hSw; (try dsimp only at hSw); (try obtain ⟨hSa, hSb⟩ := hSw); go_simp; try with_reducible rfl)
      try simp only [Act.put, List.setIfInBounds_toArray, List.set_cons_zero, List.set_cons_succ]
      refine wpAnyH_take (i := 6) (oi := { dst := some 42, op := Op.move (Operand.tmp 1), type := 24, pos := "ref.go:30", after := #[{ on := 5, ground := Ground.guard }], guard := some (5, false) }) (v := ?_) rfl (by kernel_rfl) (by kernel_rfl) (by kernel_rfl) (fun _ _ _ h => h) (Or.inl ⟨by rfl, ?_⟩) (by assumption) ?_
      rotate_left
      · (intro w hSw; (try dsimp only at hSw); (try obtain ⟨hSa, hSb⟩ := hSw); go_simp; try with_reducible rfl)
      try simp only [Act.put, List.setIfInBounds_toArray, List.set_cons_zero, List.set_cons_succ]
      refine wpAnyH_take (i := 7) (oi := { dst := some 43, op := Op.move (Operand.tmp 9), type := 3, pos := "ref.go:30", after := #[{ on := 5, ground := Ground.guard }], guard := some (5, false) }) (v := ?_) rfl (by kernel_rfl) (by kernel_rfl) (by kernel_rfl) (fun _ _ _ h => h) (Or.inl ⟨by rfl, ?_⟩) (by assumption) ?_
      rotate_left
      · (intro w hSw; (try dsimp only at hSw); (try obtain ⟨hSa, hSb⟩ := hSw); go_simp; try with_reducible rfl)
      try simp only [Act.put, List.setIfInBounds_toArray, List.set_cons_zero, List.set_cons_succ]
      refine wpAnyH_take (i := 8) (oi := { dst := some 44, op := Op.indexAddr 24 (Operand.tmp 42) (Operand.tmp 43), type := 0, pos := "ref.go:30", after := #[{ on := 6, ground := Ground.data }, { on := 7, ground := Ground.data }, { on := 5, ground := Ground.guard }], guard := some (5, false) }) (v := ?_) rfl (by kernel_rfl) (by kernel_rfl) (by kernel_rfl) (fun _ _ _ h => h) (Or.inl ⟨by rfl, ?_⟩) (by assumption) ?_
      rotate_left
      · (intro w hSw; (try dsimp only at hSw); (try obtain ⟨hSa, hSb⟩ := hSw); go_simp; try with_reducible rfl)
      try simp only [Act.put, List.setIfInBounds_toArray, List.set_cons_zero, List.set_cons_succ]
      refine wpAnyH_take (i := 9) (oi := { dst := some 45, op := Op.load 3 (Operand.tmp 44), type := 3, pos := "ref.go:30", after := #[{ on := 8, ground := Ground.data }, { on := 5, ground := Ground.guard }], guard := some (5, false) }) (v := ?_) rfl (by kernel_rfl) (by kernel_rfl) (by kernel_rfl) (fun _ _ _ h => h) (Or.inl ⟨by rfl, ?_⟩) (by assumption) ?_
      rotate_left
      · (intro w hSw; (try dsimp only at hSw); (try obtain ⟨hSa, hSb⟩ := hSw); go_simp; try with_reducible rfl)
      try simp only [Act.put, List.setIfInBounds_toArray, List.set_cons_zero, List.set_cons_succ]
      refine wpAnyH_take (i := 10) (oi := { dst := some 46, op := Op.load 23 (Operand.tmp 3), type := 23, pos := "ref.go:30", after := #[{ on := 5, ground := Ground.guard }], guard := some (5, false) }) (v := ?_) rfl (by kernel_rfl) (by kernel_rfl) (by kernel_rfl) (fun _ _ _ h => h) (Or.inl ⟨by rfl, ?_⟩) (by assumption) ?_
      rotate_left
      · (intro w hSw; (try dsimp only at hSw); (try obtain ⟨hSa, hSb⟩ := hSw); go_simp; try with_reducible rfl)
      try simp only [Act.put, List.setIfInBounds_toArray, List.set_cons_zero, List.set_cons_succ]
      refine wpAnyH_ready (rs := [11]) (by kernel_rfl) (by simp) ?_
      refine AllReadyH.cons (o := { dst := some 47, op := Op.call { callee := Callee.value (Operand.func 28), args := #[Operand.tmp 46], argTypes := #[23] }, type := 3, pos := "ref.go:30", after := #[{ on := 10, ground := Ground.data }, { on := 5, ground := Ground.chain }, { on := 5, ground := Ground.guard }], guard := some (5, false) }) rfl (fun K hK => ?_) AllReadyH.nil
      go_simp
      (refine (HU.out _).mono ?_; rintro e w2 ⟨rfl, hO2⟩; have hOd := (Only.refl (fun _ => False) wr).drew.trans hO2; have HO2 := Lib.hid (HO.out.trans hOd); have HB2 := Lib.hid (HB.out.only hOd id); have HOUT2 := Lib.hid (HOUT.out.only hOd id); have HROW2 := Lib.hid (HROW.out.only hOd (fun _ => id)); have cg2 := HRG.out w2 k HO2.out hkn; have cw2 := HRW.out w2 k HO2.out hkn; rw [HGI2.out.1] at cg2; rw [HGI2.out.2] at cw2; clear hO2 hOd; try simp only [])
      refine hK.out _ _ ?_ (fun hHeld => ?_)
      · exact ⟨⟨⟨cg2, cw2⟩, HB2.out.cell 0, HB2.out.cell 1⟩, ⟨HB2.out.cell 2, HB2.out.cell 3⟩, HB2.out.cell 4⟩
      clear hK K
      try simp only [Act.put, List.setIfInBounds_toArray, List.set_cons_zero, List.set_cons_succ]
      refine wpAnyH_take (i := 12) (oi := { dst := some 48, op := Op.binOp BinOp.gtr 3 (Operand.tmp 45) (Operand.tmp 47) 3, type := 4, pos := "ref.go:30", after := #[{ on := 9, ground := Ground.data }, { on := 11, ground := Ground.data }, { on := 5, ground := Ground.guard }], guard := some (5, false) }) (v := ?_) rfl (by kernel_rfl) (by kernel_rfl) (by kernel_rfl) (fun _ _ _ h => h) (Or.inl ⟨by rfl, ?_⟩) (by assumption) ?_
      rotate_left
      · (intro w hSw; (try dsimp only at hSw); (try obtain ⟨hSa, hSb⟩ := hSw); go_simp; try with_reducible rfl)
      try simp only [Act.put, List.setIfInBounds_toArray, List.set_cons_zero, List.set_cons_succ]
      refine wpAnyH_take (i := 13) (oi := { dst := some 49, op := Op.pick (Operand.tmp 41) (Operand.const (Value.bool true)) (Operand.tmp 48), type := 4, pos := "ref.go:30", after := #[{ on := 5, ground := Ground.data }, { on := 12, ground := Ground.data }], guard := none }) (v := ?_) rfl (by kernel_rfl) (by kernel_rfl) (by kernel_rfl) (fun _ _ _ h => h) (Or.inl ⟨by rfl, ?_⟩) (by assumption) ?_
      rotate_left
      · (intro w hSw; (try dsimp only at hSw); (try obtain ⟨hSa, hSb⟩ := hSw); go_simp; try with_reducible rfl)
      try simp only [Act.put, List.setIfInBounds_toArray, List.set_cons_zero, List.set_cons_succ]
      refine wpAnyH_take (i := 14) (oi := { dst := some 50, op := Op.move (Operand.tmp 49), type := 4, pos := "ref.go:30", after := #[{ on := 13, ground := Ground.data }, { on := 11, ground := Ground.chain }], guard := none }) (v := ?_) rfl (by kernel_rfl) (by kernel_rfl) (by kernel_rfl) (fun _ _ _ h => h) (Or.inl ⟨by rfl, ?_⟩) (by assumption) ?_
      rotate_left
      · (intro w hSw; (try dsimp only at hSw); (try obtain ⟨hSa, hSb⟩ := hSw); go_simp; try with_reducible rfl)
      try simp only [Act.put, List.setIfInBounds_toArray, List.set_cons_zero, List.set_cons_succ]
      refine wpAnyH_take (i := 15) (oi := { dst := some 51, op := Op.move (Operand.tmp 2), type := 24, pos := "ref.go:30", after := #[{ on := 14, ground := Ground.guard }], guard := some (14, false) }) (v := ?_) rfl (by kernel_rfl) (by kernel_rfl) (by kernel_rfl) (fun _ _ _ h => h) (Or.inl ⟨by rfl, ?_⟩) (by assumption) ?_
      rotate_left
      · (intro w hSw; (try dsimp only at hSw); (try obtain ⟨hSa, hSb⟩ := hSw); go_simp; try with_reducible rfl)
      try simp only [Act.put, List.setIfInBounds_toArray, List.set_cons_zero, List.set_cons_succ]
      refine wpAnyH_take (i := 16) (oi := { dst := some 52, op := Op.move (Operand.tmp 9), type := 3, pos := "ref.go:30", after := #[{ on := 14, ground := Ground.guard }], guard := some (14, false) }) (v := ?_) rfl (by kernel_rfl) (by kernel_rfl) (by kernel_rfl) (fun _ _ _ h => h) (Or.inl ⟨by rfl, ?_⟩) (by assumption) ?_
      rotate_left
      · (intro w hSw; (try dsimp only at hSw); (try obtain ⟨hSa, hSb⟩ := hSw); go_simp; try with_reducible rfl)
      try simp only [Act.put, List.setIfInBounds_toArray, List.set_cons_zero, List.set_cons_succ]
      refine wpAnyH_take (i := 17) (oi := { dst := some 53, op := Op.indexAddr 24 (Operand.tmp 51) (Operand.tmp 52), type := 0, pos := "ref.go:30", after := #[{ on := 15, ground := Ground.data }, { on := 16, ground := Ground.data }, { on := 14, ground := Ground.guard }], guard := some (14, false) }) (v := ?_) rfl (by kernel_rfl) (by kernel_rfl) (by kernel_rfl) (fun _ _ _ h => h) (Or.inl ⟨by rfl, ?_⟩) (by assumption) ?_
      rotate_left
      · (intro w hSw; (try dsimp only at hSw); (try obtain ⟨hSa, hSb⟩ := hSw); go_simp; try with_reducible rfl)
      try simp only [Act.put, List.setIfInBounds_toArray, List.set_cons_zero, List.set_cons_succ]
      refine wpAnyH_take (i := 18) (oi := { dst := some 54, op := Op.load 3 (Operand.tmp 53), type := 3, pos := "ref.go:30", after := #[{ on := 17, ground := Ground.data }, { on := 14, ground := Ground.guard }], guard := some (14, false) }) (v := ?_) rfl (by kernel_rfl) (by kernel_rfl) (by kernel_rfl) (fun _ _ _ h => h) (Or.inl ⟨by rfl, ?_⟩) (by assumption) ?_
      rotate_left
      · (intro w hSw; (try dsimp only at hSw); (try obtain ⟨hSa, hSb⟩ := hSw); go_simp; try with_reducible rfl)
      try simp only [Act.put, List.setIfInBounds_toArray, List.set_cons_zero, List.set_cons_succ]
      refine wpAnyH_take (i := 19) (oi := { dst := some 55, op := Op.binOp BinOp.lss 3 (Operand.tmp 54) (Operand.const (Value.int IntKind.i64 0)) 3, type := 4, pos := "ref.go:30", after := #[{ on := 18, ground := Ground.data }, { on := 14, ground := Ground.guard }], guard := some (14, false) }) (v := ?_) rfl (by kernel_rfl) (by kernel_rfl) (by kernel_rfl) (fun _ _ _ h => h) (Or.inl ⟨by rfl, ?_⟩) (by assumption) ?_
      rotate_left
      · (intro w hSw; (try dsimp only at hSw); (try obtain ⟨hSa, hSb⟩ := hSw); go_simp; try with_reducible rfl)
      try simp only [Act.put, List.setIfInBounds_toArray, List.set_cons_zero, List.set_cons_succ]
      refine wpAnyH_take (i := 20) (oi := { dst := some 56, op := Op.pick (Operand.tmp 50) (Operand.const (Value.bool true)) (Operand.tmp 55), type := 4, pos := "ref.go:30", after := #[{ on := 14, ground := Ground.data }, { on := 19, ground := Ground.data }], guard := none }) (v := ?_) rfl (by kernel_rfl) (by kernel_rfl) (by kernel_rfl) (fun _ _ _ h => h) (Or.inl ⟨by rfl, ?_⟩) (by assumption) ?_
      rotate_left
      · (intro w hSw; (try dsimp only at hSw); (try obtain ⟨hSa, hSb⟩ := hSw); go_simp; try with_reducible rfl)
      try simp only [Act.put, List.setIfInBounds_toArray, List.set_cons_zero, List.set_cons_succ]
      refine wpAnyH_take (i := 21) (oi := { dst := some 57, op := Op.move (Operand.tmp 56), type := 4, pos := "ref.go:30", after := #[{ on := 20, ground := Ground.data }, { on := 14, ground := Ground.chain }], guard := none }) (v := ?_) rfl (by kernel_rfl) (by kernel_rfl) (by kernel_rfl) (fun _ _ _ h => h) (Or.inl ⟨by rfl, ?_⟩) (by assumption) ?_
      rotate_left
      · (intro w hSw; (try dsimp only at hSw); (try obtain ⟨hSa, hSb⟩ := hSw); go_simp; try with_reducible rfl)
      try simp only [Act.put, List.setIfInBounds_toArray, List.set_cons_zero, List.set_cons_succ]
      refine wpAnyH_take (i := 22) (oi := { dst := some 58, op := Op.move (Operand.tmp 2), type := 24, pos := "ref.go:30", after := #[{ on := 21, ground := Ground.guard }], guard := some (21, false) }) (v := ?_) rfl (by kernel_rfl) (by kernel_rfl) (by kernel_rfl) (fun _ _ _ h => h) (Or.inl ⟨by rfl, ?_⟩) (by assumption) ?_
      rotate_left
      · (intro w hSw; (try dsimp only at hSw); (try obtain ⟨hSa, hSb⟩ := hSw); go_simp; try with_reducible rfl)
      try simp only [Act.put, List.setIfInBounds_toArray, List.set_cons_zero, List.set_cons_succ]
      refine wpAnyH_take (i := 23) (oi := { dst := some 59, op := Op.move (Operand.tmp 9), type := 3, pos := "ref.go:30", after := #[{ on := 21, ground := Ground.guard }], guard := some (21, false) }) (v := ?_) rfl (by kernel_rfl) (by kernel_rfl) (by kernel_rfl) (fun _ _ _ h => h) (Or.inl ⟨by rfl, ?_⟩) (by assumption) ?_
      rotate_left
      · (intro w hSw; (try dsimp only at hSw); (try obtain ⟨hSa, hSb⟩ := hSw); go_simp; try with_reducible rfl)
      try simp only [Act.put, List.setIfInBounds_toArray, List.set_cons_zero, List.set_cons_succ]
      refine wpAnyH_take (i := 24) (oi := { dst := some 60, op := Op.indexAddr 24 (Operand.tmp 58) (Operand.tmp 59), type := 0, pos := "ref.go:30", after := #[{ on := 22, ground := Ground.data }, { on := 23, ground := Ground.data }, { on := 21, ground := Ground.guard }], guard := some (21, false) }) (v := ?_) rfl (by kernel_rfl) (by kernel_rfl) (by kernel_rfl) (fun _ _ _ h => h) (Or.inl ⟨by rfl, ?_⟩) (by assumption) ?_
      rotate_left
      · (intro w hSw; (try dsimp only at hSw); (try obtain ⟨hSa, hSb⟩ := hSw); go_simp; try with_reducible rfl)
      try simp only [Act.put, List.setIfInBounds_toArray, List.set_cons_zero, List.set_cons_succ]
      refine wpAnyH_take (i := 25) (oi := { dst := some 61, op := Op.load 3 (Operand.tmp 60), type := 3, pos := "ref.go:30", after := #[{ on := 24, ground := Ground.data }, { on := 21, ground := Ground.guard }], guard := some (21, false) }) (v := ?_) rfl (by kernel_rfl) (by kernel_rfl) (by kernel_rfl) (fun _ _ _ h => h) (Or.inl ⟨by rfl, ?_⟩) (by assumption) ?_
      rotate_left
      · (intro w hSw; (try dsimp only at hSw); (try obtain ⟨hSa, hSb⟩ := hSw); go_simp; try with_reducible rfl)
      try simp only [Act.put, List.setIfInBounds_toArray, List.set_cons_zero, List.set_cons_succ]
      refine wpAnyH_take (i := 26) (oi := { dst := some 62, op := Op.binOp BinOp.gtr 3 (Operand.tmp 61) (Operand.const (Value.int IntKind.i64 2147483647)) 3, type := 4, pos := "ref.go:30", after := #[{ on := 25, ground := Ground.data }, { on := 21, ground := Ground.guard }], guard := some (21, false) }) (v := ?_) rfl (by kernel_rfl) (by kernel_rfl) (by kernel_rfl) (fun _ _ _ h => h) (Or.inl ⟨by rfl, ?_⟩) (by assumption) ?_
      rotate_left
      · (intro w hSw; (try dsimp only at hSw); (try obtain ⟨hSa, hSb⟩ := hSw); go_simp; try with_reducible rfl)
      try simp only [Act.put, List.setIfInBounds_toArray, List.set_cons_zero, List.set_cons_succ]
      refine wpAnyH_take (i := 27) (oi := { dst := some 63, op := Op.pick (Operand.tmp 57) (Operand.const (Value.bool true)) (Operand.tmp 62), type := 4, pos := "ref.go:30", after := #[{ on := 21, ground := Ground.data }, { on := 26, ground := Ground.data }], guard := none }) (v := ?_) rfl (by kernel_rfl) (by kernel_rfl) (by kernel_rfl) (fun _ _ _ h => h) (Or.inl ⟨by rfl, ?_⟩) (by assumption) ?_
      rotate_left
      · (intro w hSw; (try dsimp only at hSw); (try obtain ⟨hSa, hSb⟩ := hSw); go_simp; try with_reducible rfl)
      try simp only [Act.put, List.setIfInBounds_toArray, List.set_cons_zero, List.set_cons_succ]
      refine wpAnyH_done (by kernel_rfl) ?_ _
      have hlt2 := HOUT2.out.lt
      have hsz2 := HO2.out.size
      have q0 := HOUT2.out.cell 5
      have q0f := HOUT2.out.frozen 5
      simp only [List.getElem?_toArray, List.getElem?_cons_zero, List.getElem?_cons_succ] at q0
      have o7 := ((Only.refl (fun _ => False) w2).alloc (.cells #[.int .i64 (un gi), .int .i64 wi, .int .i64 gi, .int .i64 0, .int .i64 0] 43)).drew
      have HROW7 := Lib.hid (HROW2.out.only o7 (fun _ => id))
      have HOUT7 := Lib.hid (HOUT2.out.only o7 id)
      have HB7 := Lib.hid (HB2.out.only o7 id)
      have HO7 := Lib.hid (HO2.out.trans o7)
      have HN7 := Lib.hid (At.new w2 43 #[.int .i64 (un gi), .int .i64 wi, .int .i64 gi, .int .i64 0, .int .i64 0]).drew
      have hgb1 : ¬ (A ≠ none ∧ w1.heap.size = gb) := fun h => HROW2.out.neAt HOUT2.out h.1 (by decide) h.2.symm
      have hgb2 : ¬ (A ≠ none ∧ w.heap.size = gb) := fun h => by have := HGB.out h.1; omega
      have HG12 := Lib.hid (And.intro hgb1 hgb2)
      have hkm : k + 1 ≤ maxLen := by unfold maxLen; omega
      have q7 : (w2.alloc (.cells #[.int .i64 (un gi), .int .i64 wi, .int .i64 gi, .int .i64 0, .int .i64 0] 43)).cell? ⟨w1.heap.size, 5, none⟩ = some (.slice A k c) := HOUT7.out.cell 5
      clear o7 hgb1 hgb2
      go_wp2_with (fail)
      refine wp_region_held_drew (S := (fun W => W.cell? ⟨gg, og + k, none⟩ = some (.int .i64 gi) ∧ W.cell? ⟨gw, ow + k, none⟩ = some (.int .i64 wi))) (by kernel_rfl) ?_ (fun hHeld => ?_)
      · exact ⟨cg2, cw2⟩
      refine wpAnyH_take (i := 0) (oi := { dst := some 64, op := Op.move (Operand.tmp 8), type := 30, pos := "ref.go:33", after := #[], guard := none }) (v := ?_) rfl (by kernel_rfl) (by kernel_rfl) (by kernel_rfl) (fun _ _ _ h => h) (Or.inl ⟨by rfl, ?_⟩) (by assumption) ?_
      rotate_left
      · (intro w hSw; (try dsimp only at hSw); (try obtain ⟨hSa, hSb⟩ := hSw); go_simp; try with_reducible rfl)
      try simp only [Act.put, List.setIfInBounds_toArray, List.set_cons_zero, List.set_cons_succ]
      refine wpAnyH_take (i := 1) (oi := { dst := some 65, op := Op.move (Operand.tmp 8), type := 30, pos := "ref.go:33", after := #[], guard := none }) (v := ?_) rfl (by kernel_rfl) (by kernel_rfl) (by kernel_rfl) (fun _ _ _ h => h) (Or.inl ⟨by rfl, ?_⟩) (by assumption) ?_
      rotate_left
      · (intro w hSw; (try dsimp only at hSw); (try obtain ⟨hSa, hSb⟩ := hSw); go_simp; try with_reducible rfl)
      try simp only [Act.put, List.setIfInBounds_toArray, List.set_cons_zero, List.set_cons_succ]
      refine wpAnyH_take (i := 2) (oi := { dst := some 66, op := Op.nilCheck (Operand.tmp 65), type := 0, pos := "ref.go:33", after := #[{ on := 1, ground := Ground.data }], guard := none }) (v := ?_) rfl (by kernel_rfl) (by kernel_rfl) (by kernel_rfl) (fun _ _ _ h => h) (Or.inl ⟨by rfl, ?_⟩) (by assumption) ?_
      rotate_left
      · (intro w hSw; (try dsimp only at hSw); (try obtain ⟨hSa, hSb⟩ := hSw); go_simp; try with_reducible rfl)
      try simp only [Act.put, List.setIfInBounds_toArray, List.set_cons_zero, List.set_cons_succ]
      refine wpAnyH_take (i := 3) (oi := { dst := some 67, op := Op.fieldAddr 64 (Operand.tmp 66) 1, type := 0, pos := "ref.go:33", after := #[{ on := 2, ground := Ground.data }], guard := none }) (v := ?_) rfl (by kernel_rfl) (by kernel_rfl) (by kernel_rfl) (fun _ _ _ h => h) (Or.inl ⟨by rfl, ?_⟩) (by assumption) ?_
      rotate_left
      · (intro w hSw; (try dsimp only at hSw); (try obtain ⟨hSa, hSb⟩ := hSw); go_simp; try with_reducible rfl)
      try simp only [Act.put, List.setIfInBounds_toArray, List.set_cons_zero, List.set_cons_succ]
      refine wpAnyH_take (i := 5) (oi := { dst := some 69, op := Op.move (Operand.tmp 1), type := 24, pos := "ref.go:33", after := #[], guard := none }) (v := ?_) rfl (by kernel_rfl) (by kernel_rfl) (by kernel_rfl) (fun _ _ _ h => h) (Or.inl ⟨by rfl, ?_⟩) (by assumption) ?_
      rotate_left
      · (intro w hSw; (try dsimp only at hSw); (try obtain ⟨hSa, hSb⟩ := hSw); go_simp; try with_reducible rfl)
      try simp only [Act.put, List.setIfInBounds_toArray, List.set_cons_zero, List.set_cons_succ]
      refine wpAnyH_take (i := 6) (oi := { dst := some 70, op := Op.move (Operand.tmp 9), type := 3, pos := "ref.go:33", after := #[], guard := none }) (v := ?_) rfl (by kernel_rfl) (by kernel_rfl) (by kernel_rfl) (fun _ _ _ h => h) (Or.inl ⟨by rfl, ?_⟩) (by assumption) ?_
      rotate_left
      · (intro w hSw; (try dsimp only at hSw); (try obtain ⟨hSa, hSb⟩ := hSw); go_simp; try with_reducible rfl)
      try simp only [Act.put, List.setIfInBounds_toArray, List.set_cons_zero, List.set_cons_succ]
      refine wpAnyH_take (i := 7) (oi := { dst := some 71, op := Op.indexAddr 24 (Operand.tmp 69) (Operand.tmp 70), type := 0, pos := "ref.go:33", after := #[{ on := 5, ground := Ground.data }, { on := 6, ground := Ground.data }], guard := none }) (v := ?_) rfl (by kernel_rfl) (by kernel_rfl) (by kernel_rfl) (fun _ _ _ h => h) (Or.inl ⟨by rfl, ?_⟩) (by assumption) ?_
      rotate_left
      · (intro w hSw; (try dsimp only at hSw); (try obtain ⟨hSa, hSb⟩ := hSw); go_simp; try with_reducible rfl)
      try simp only [Act.put, List.setIfInBounds_toArray, List.set_cons_zero, List.set_cons_succ]
      refine wpAnyH_take (i := 8) (oi := { dst := some 72, op := Op.load 3 (Operand.tmp 71), type := 3, pos := "ref.go:33", after := #[{ on := 7, ground := Ground.data }], guard := none }) (v := ?_) rfl (by kernel_rfl) (by kernel_rfl) (by kernel_rfl) (fun _ _ _ h => h) (Or.inl ⟨by rfl, ?_⟩) (by assumption) ?_
      rotate_left
      · (intro w hSw; (try dsimp only at hSw); (try obtain ⟨hSa, hSb⟩ := hSw); go_simp; try with_reducible rfl)
      try simp only [Act.put, List.setIfInBounds_toArray, List.set_cons_zero, List.set_cons_succ]
      refine wpAnyH_take (i := 10) (oi := { dst := some 74, op := Op.move (Operand.tmp 2), type := 24, pos := "ref.go:33", after := #[], guard := none }) (v := ?_) rfl (by kernel_rfl) (by kernel_rfl) (by kernel_rfl) (fun _ _ _ h => h) (Or.inl ⟨by rfl, ?_⟩) (by assumption) ?_
      rotate_left
      · (intro w hSw; (try dsimp only at hSw); (try obtain ⟨hSa, hSb⟩ := hSw); go_simp; try with_reducible rfl)
      try simp only [Act.put, List.setIfInBounds_toArray, List.set_cons_zero, List.set_cons_succ]
      refine wpAnyH_take (i := 11) (oi := { dst := some 75, op := Op.move (Operand.tmp 9), type := 3, pos := "ref.go:33", after := #[], guard := none }) (v := ?_) rfl (by kernel_rfl) (by kernel_rfl) (by kernel_rfl) (fun _ _ _ h => h) (Or.inl ⟨by rfl, ?_⟩) (by assumption) ?_
      rotate_left
      · (intro w hSw; (try dsimp only at hSw); (try obtain ⟨hSa, hSb⟩ := hSw); go_simp; try with_reducible rfl)
      try simp only [Act.put, List.setIfInBounds_toArray, List.set_cons_zero, List.set_cons_succ]
      refine wpAnyH_take (i := 12) (oi := { dst := some 76, op := Op.indexAddr 24 (Operand.tmp 74) (Operand.tmp 75), type := 0, pos := "ref.go:33", after := #[{ on := 10, ground := Ground.data }, { on := 11, ground := Ground.data }], guard := none }) (v := ?_) rfl (by kernel_rfl) (by kernel_rfl) (by kernel_rfl) (fun _ _ _ h => h) (Or.inl ⟨by rfl, ?_⟩) (by assumption) ?_
      rotate_left
      · (intro w hSw; (try dsimp only at hSw); (try obtain ⟨hSa, hSb⟩ := hSw); go_simp; try with_reducible rfl)
      try simp only [Act.put, List.setIfInBounds_toArray, List.set_cons_zero, List.set_cons_succ]
      refine wpAnyH_take (i := 13) (oi := { dst := some 77, op := Op.load 3 (Operand.tmp 76), type := 3, pos := "ref.go:33", after := #[{ on := 12, ground := Ground.data }], guard := none }) (v := ?_) rfl (by kernel_rfl) (by kernel_rfl) (by kernel_rfl) (fun _ _ _ h => h) (Or.inl ⟨by rfl, ?_⟩) (by assumption) ?_
      rotate_left
      · (intro w hSw; (try dsimp only at hSw); (try obtain ⟨hSa, hSb⟩ := hSw); go_simp; try with_reducible rfl)
      try simp only [Act.put, List.setIfInBounds_toArray, List.set_cons_zero, List.set_cons_succ]
      refine wpAnyH_take (i := 14) (oi := { dst := some 78, op := Op.move (Operand.tmp 1), type := 24, pos := "ref.go:33", after := #[], guard := none }) (v := ?_) rfl (by kernel_rfl) (by kernel_rfl) (by kernel_rfl) (fun _ _ _ h => h) (Or.inl ⟨by rfl, ?_⟩) (by assumption) ?_
      rotate_left
      · (intro w hSw; (try dsimp only at hSw); (try obtain ⟨hSa, hSb⟩ := hSw); go_simp; try with_reducible rfl)
      try simp only [Act.put, List.setIfInBounds_toArray, List.set_cons_zero, List.set_cons_succ]
      refine wpAnyH_take (i := 15) (oi := { dst := some 79, op := Op.move (Operand.tmp 9), type := 3, pos := "ref.go:33", after := #[], guard := none }) (v := ?_) rfl (by kernel_rfl) (by kernel_rfl) (by kernel_rfl) (fun _ _ _ h => h) (Or.inl ⟨by rfl, ?_⟩) (by assumption) ?_
      rotate_left
      · (intro w hSw; (try dsimp only at hSw); (try obtain ⟨hSa, hSb⟩ := hSw); go_simp; try with_reducible rfl)
      try simp only [Act.put, List.setIfInBounds_toArray, List.set_cons_zero, List.set_cons_succ]
      refine wpAnyH_take (i := 16) (oi := { dst := some 80, op := Op.indexAddr 24 (Operand.tmp 78) (Operand.tmp 79), type := 0, pos := "ref.go:33", after := #[{ on := 14, ground := Ground.data }, { on := 15, ground := Ground.data }], guard := none }) (v := ?_) rfl (by kernel_rfl) (by kernel_rfl) (by kernel_rfl) (fun _ _ _ h => h) (Or.inl ⟨by rfl, ?_⟩) (by assumption) ?_
      rotate_left
      · (intro w hSw; (try dsimp only at hSw); (try obtain ⟨hSa, hSb⟩ := hSw); go_simp; try with_reducible rfl)
      try simp only [Act.put, List.setIfInBounds_toArray, List.set_cons_zero, List.set_cons_succ]
      refine wpAnyH_take (i := 17) (oi := { dst := some 81, op := Op.load 3 (Operand.tmp 80), type := 3, pos := "ref.go:33", after := #[{ on := 16, ground := Ground.data }], guard := none }) (v := ?_) rfl (by kernel_rfl) (by kernel_rfl) (by kernel_rfl) (fun _ _ _ h => h) (Or.inl ⟨by rfl, ?_⟩) (by assumption) ?_
      rotate_left
      · (intro w hSw; (try dsimp only at hSw); (try obtain ⟨hSa, hSb⟩ := hSw); go_simp; try with_reducible rfl)
      try simp only [Act.put, List.setIfInBounds_toArray, List.set_cons_zero, List.set_cons_succ]
      refine wpAnyH_ready (rs := [4, 9]) (by kernel_rfl) (by simp) ?_
      refine AllReadyH.cons (o := { dst := some 68, op := Op.load 41 (Operand.tmp 67), type := 41, pos := "ref.go:33", after := #[{ on := 3, ground := Ground.data }], guard := none }) rfl (fun K hK => ?_) (AllReadyH.cons (o := { dst := some 73, op := Op.call { callee := Callee.value (Operand.func 29), args := #[Operand.tmp 72], argTypes := #[3] }, type := 3, pos := "ref.go:33", after := #[{ on := 8, ground := Ground.data }], guard := none }) rfl (fun K hK => ?_) AllReadyH.nil)
      · skip
        go_simp
        refine hK.out _ _ ?_ (fun hHeld => ?_)
        · have ck1 := HRG.out _ k HO2.out.drew hkn
          have ck2 := HRW.out _ k HO2.out.drew hkn
          rw [HGI2.out.1] at ck1
          rw [HGI2.out.2] at ck2
          exact ⟨ck1, ck2⟩
        clear hK K
        try simp only [Act.put, List.setIfInBounds_toArray, List.set_cons_zero, List.set_cons_succ]
        refine wpAnyH_ready (rs := [9]) (by kernel_rfl) (by simp) ?_
        refine AllReadyH.cons (o := { dst := some 73, op := Op.call { callee := Callee.value (Operand.func 29), args := #[Operand.tmp 72], argTypes := #[3] }, type := 3, pos := "ref.go:33", after := #[{ on := 8, ground := Ground.data }], guard := none }) rfl (fun K hK => ?_) AllReadyH.nil
        go_simp
        go_at_call 29
        refine (free_any gi _).mono ?_
        rintro e wz ⟨rfl, rfl⟩
        try simp only []
        refine hK.out _ _ ?_ (fun hHeld => ?_)
        · have ck1 := HRG.out _ k HO2.out.drew hkn
          have ck2 := HRW.out _ k HO2.out.drew hkn
          rw [HGI2.out.1] at ck1
          rw [HGI2.out.2] at ck2
          exact ⟨ck1, ck2⟩
        clear hK K
        try simp only [Act.put, List.setIfInBounds_toArray, List.set_cons_zero, List.set_cons_succ]
        refine wpAnyH_take (i := 18) (oi := { dst := some 82, op := Op.build 43 #[(0, Operand.tmp 73), (1, Operand.tmp 77), (2, Operand.tmp 81)], type := 43, pos := "ref.go:33", after := #[{ on := 9, ground := Ground.data }, { on := 13, ground := Ground.data }, { on := 17, ground := Ground.data }], guard := none }) (v := ?_) rfl (by kernel_rfl) (by kernel_rfl) (by kernel_rfl) (fun _ _ _ h => h) (Or.inl ⟨by rfl, ?_⟩) (by assumption) ?_
        rotate_left
        · (intro w hSw; (try dsimp only at hSw); (try obtain ⟨hSa, hSb⟩ := hSw); go_simp; try with_reducible rfl)
        try simp only [Act.put, List.setIfInBounds_toArray, List.set_cons_zero, List.set_cons_succ]
        refine wpAnyH_ready (rs := [19]) (by kernel_rfl) (by simp) ?_
        refine AllReadyH.cons (o := { dst := some 83, op := Op.buildSlice 41 1 #[(0, Operand.tmp 82)], type := 41, pos := "ref.go:33", after := #[{ on := 18, ground := Ground.data }], guard := none }) rfl (fun K hK => ?_) AllReadyH.nil
        go_simp
        refine hK.out _ _ ?_ (fun hHeld => ?_)
        · have ck1 := HRG.out _ k HO7.out hkn
          have ck2 := HRW.out _ k HO7.out hkn
          rw [HGI2.out.1] at ck1
          rw [HGI2.out.2] at ck2
          exact ⟨ck1, ck2⟩
        clear hK K
        try simp only [Act.put, List.setIfInBounds_toArray, List.set_cons_zero, List.set_cons_succ]
        refine wpAnyH_ready (rs := [20]) (by kernel_rfl) (by simp) ?_
        refine AllReadyH.cons (o := { dst := some 84, op := Op.call { callee := Callee.builtin Builtin.append, args := #[Operand.tmp 68, Operand.tmp 83], argTypes := #[41, 41] }, type := 41, pos := "ref.go:33", after := #[{ on := 4, ground := Ground.data }, { on := 19, ground := Ground.data }, { on := 9, ground := Ground.chain }], guard := none }) rfl (fun K hK => ?_) AllReadyH.nil
        refine step_append_row rfl (.tmp 68) (.tmp 83) 41 rfl 43 i0t (.agg #[.int .i64 0, .int .i64 0, .int .i64 0, .int .i64 0, .int .i64 0]) 5 40 Try.underlying41 HI.out.1 HI.out.2.1 HI.out.2.2.1 HI.out.2.2.2 rfl (by decide) A k c gb (rcs (newL good wear k)) rfl HROW7.out ⟨w2.heap.size, 0, none⟩ [.int .i64 (un gi), .int .i64 wi, .int .i64 gi, .int .i64 0, .int .i64 0] 1 rfl rfl (fun j u' hj => At.reads HN7.out j u' hj) (by simp [Value.oneCell']) hkm (by omega) ?_
        intro A3 c3 g3 w8 hrow3 hO3 hA3
        have HR3 := Lib.hid hrow3
        have HO3 := Lib.hid hO3
        have HA3 := Lib.hid hA3
        have hout8 := HOUT7.out.only hO3 HG12.out.1
        have HOUT8 := Lib.hid hout8
        have HO8 := Lib.hid (HO7.out.trans' hO3 (S := fun _ => False) (fun i hi e => by have := HGB.out e.1; omega))
        have f8 := hout8.frozen 5
        have c8 := hout8.cell 5
        simp only [List.getElem?_toArray, List.getElem?_cons_zero, List.getElem?_cons_succ] at c8
        clear hrow3 hO3 hA3 hout8
        refine hK.out _ _ ?_ (fun hHeld => ?_)
        · have ck1 := HRG.out _ k HO8.out hkn
          have ck2 := HRW.out _ k HO8.out hkn
          rw [HGI2.out.1] at ck1
          rw [HGI2.out.2] at ck2
          exact ⟨ck1, ck2⟩
        clear hK K
        try simp only [Act.put, List.setIfInBounds_toArray, List.set_cons_zero, List.set_cons_succ]
        refine wpAnyH_take (i := 21) (oi := { dst := some 85, op := Op.nilCheck (Operand.tmp 64), type := 0, pos := "ref.go:33", after := #[{ on := 0, ground := Ground.data }, { on := 0, ground := Ground.phase }, { on := 1, ground := Ground.phase }, { on := 2, ground := Ground.phase }, { on := 3, ground := Ground.phase }, { on := 4, ground := Ground.phase }, { on := 5, ground := Ground.phase }, { on := 6, ground := Ground.phase }, { on := 7, ground := Ground.phase }, { on := 8, ground := Ground.phase }, { on := 9, ground := Ground.phase }, { on := 10, ground := Ground.phase }, { on := 11, ground := Ground.phase }, { on := 12, ground := Ground.phase }, { on := 13, ground := Ground.phase }, { on := 14, ground := Ground.phase }, { on := 15, ground := Ground.phase }, { on := 16, ground := Ground.phase }, { on := 17, ground := Ground.phase }, { on := 18, ground := Ground.phase }, { on := 19, ground := Ground.phase }, { on := 20, ground := Ground.phase }], guard := none }) (v := ?_) rfl (by kernel_rfl) (by kernel_rfl) (by kernel_rfl) (fun _ _ _ h => h) (Or.inl ⟨by rfl, ?_⟩) (by assumption) ?_
        rotate_left
        · (intro w hSw; (try dsimp only at hSw); (try obtain ⟨hSa, hSb⟩ := hSw); go_simp; try with_reducible rfl)
        try simp only [Act.put, List.setIfInBounds_toArray, List.set_cons_zero, List.set_cons_succ]
        refine wpAnyH_take (i := 22) (oi := { dst := some 86, op := Op.fieldAddr 64 (Operand.tmp 85) 1, type := 0, pos := "ref.go:33", after := #[{ on := 21, ground := Ground.data }, { on := 0, ground := Ground.phase }, { on := 1, ground := Ground.phase }, { on := 2, ground := Ground.phase }, { on := 3, ground := Ground.phase }, { on := 4, ground := Ground.phase }, { on := 5, ground := Ground.phase }, { on := 6, ground := Ground.phase }, { on := 7, ground := Ground.phase }, { on := 8, ground := Ground.phase }, { on := 9, ground := Ground.phase }, { on := 10, ground := Ground.phase }, { on := 11, ground := Ground.phase }, { on := 12, ground := Ground.phase }, { on := 13, ground := Ground.phase }, { on := 14, ground := Ground.phase }, { on := 15, ground := Ground.phase }, { on := 16, ground := Ground.phase }, { on := 17, ground := Ground.phase }, { on := 18, ground := Ground.phase }, { on := 19, ground := Ground.phase }, { on := 20, ground := Ground.phase }], guard := none }) (v := ?_) rfl (by kernel_rfl) (by kernel_rfl) (by kernel_rfl) (fun _ _ _ h => h) (Or.inl ⟨by rfl, ?_⟩) (by assumption) ?_
        rotate_left
        · (intro w hSw; (try dsimp only at hSw); (try obtain ⟨hSa, hSb⟩ := hSw); go_simp; try with_reducible rfl)
        try simp only [Act.put, List.setIfInBounds_toArray, List.set_cons_zero, List.set_cons_succ]
        refine wpAnyH_ready (rs := [23]) (by kernel_rfl) (by simp) ?_
        refine AllReadyH.cons (o := { dst := none, op := Op.store 41 (Operand.tmp 86) (Operand.tmp 84), type := 0, pos := "ref.go:33", after := #[{ on := 22, ground := Ground.data }, { on := 20, ground := Ground.data }, { on := 20, ground := Ground.chain }, { on := 0, ground := Ground.phase }, { on := 1, ground := Ground.phase }, { on := 2, ground := Ground.phase }, { on := 3, ground := Ground.phase }, { on := 4, ground := Ground.phase }, { on := 5, ground := Ground.phase }, { on := 6, ground := Ground.phase }, { on := 7, ground := Ground.phase }, { on := 8, ground := Ground.phase }, { on := 9, ground := Ground.phase }, { on := 10, ground := Ground.phase }, { on := 11, ground := Ground.phase }, { on := 12, ground := Ground.phase }, { on := 13, ground := Ground.phase }, { on := 14, ground := Ground.phase }, { on := 15, ground := Ground.phase }, { on := 16, ground := Ground.phase }, { on := 17, ground := Ground.phase }, { on := 18, ground := Ground.phase }, { on := 19, ground := Ground.phase }, { on := 20, ground := Ground.phase }], guard := none }) rfl (fun K hK => ?_) AllReadyH.nil
        go_simp
        have HO9 := Lib.hid (HO8.out.setCell (p := ⟨w1.heap.size, 5, none⟩) (fun h => by simp at h; omega) (.slice A3 (k + 1) c3))
        refine hK.out _ _ ?_ (fun hHeld => ?_)
        · have ck1 := HRG.out _ k HO9.out hkn
          have ck2 := HRW.out _ k HO9.out hkn
          rw [HGI2.out.1] at ck1
          rw [HGI2.out.2] at ck2
          exact ⟨ck1, ck2⟩
        clear hK K
        try simp only [Act.put, List.setIfInBounds_toArray, List.set_cons_zero, List.set_cons_succ]
        refine wpAnyH_done (by kernel_rfl) ?_ _
        go_wp2_with (fail)
        have hW9 := (Only.refl (fun i => i = w1.heap.size) w8).setCell (p := ⟨w1.heap.size, 5, none⟩) (fun _ => rfl) (.slice A3 (k + 1) c3)
        have hg3 := HR3.out.neAt HOUT8.out HA3.out.1 (by decide)
        have hB9 := (HB7.out.only HO3.out HG12.out.2).only hW9 (by omega)
        have hOUT9 : At (w8.setCell ⟨w1.heap.size, 5, none⟩ (.slice A3 (k + 1) c3)) w1.heap.size 64 #[.int .i64 G.c, .int .i64 G.l, .int .i64 G.b, .int .i64 G.p, .int .i64 G.s, .slice A3 (k + 1) c3] := HOUT8.out.set 5 _
        have hROW9 := HR3.out.only hW9 (fun _ => hg3)
        have hGB9 : A3 ≠ none → w.heap.size < g3 := by
          intro _
          rcases HA3.out.2 with ⟨h1, h2⟩ | h2
          · rw [h2]; exact HGB.out h1
          · have e7 : (w2.alloc (.cells #[.int .i64 (un gi), .int .i64 wi, .int .i64 gi, .int .i64 0, .int .i64 0] 43)).drew.heap.size = w2.heap.size + 1 := by
              show (World.alloc _ _).heap.size = _
              simp
            rw [e7] at h2
            omega
        have hO9 := (HO7.out.trans' HO3.out (fun i hi e => by have := HGB.out e.1; omega)).setCell (p := ⟨w1.heap.size, 5, none⟩) (fun h => by simp at h; omega) (.slice A3 (k + 1) c3)
        have hL9 : rcs (newL good wear (k + 1)) = rcs (newL good wear k) ++ [.int .i64 (un gi), .int .i64 wi, .int .i64 gi, .int .i64 0, .int .i64 0] := by
          rw [newL, rcs_app, HGI2.out.1, HGI2.out.2]; rfl
        rw [← hL9] at hROW9
        have HFIN := Lib.hid (And.intro hB9 (And.intro hOUT9 (And.intro hROW9 (And.intro hGB9 hO9))))
        clear hW9 hg3 hB9 hOUT9 hROW9 hGB9 hO9 hL9
        go_roundw
        case rel => exact ⟨k + 1, A3, c3, g3, by omega, by simp, HST2.out, HFIN.out.1, HFIN.out.2.1, HFIN.out.2.2.1, HFIN.out.2.2.2.1, HFIN.out.2.2.2.2⟩
        case measure => simp [intOf]; omega

      · skip
        go_simp
        go_at_call 29
        refine (free_any gi _).mono ?_
        rintro e wz ⟨rfl, rfl⟩
        try simp only []
        refine hK.out _ _ ?_ (fun hHeld => ?_)
        · have ck1 := HRG.out _ k HO2.out.drew hkn
          have ck2 := HRW.out _ k HO2.out.drew hkn
          rw [HGI2.out.1] at ck1
          rw [HGI2.out.2] at ck2
          exact ⟨ck1, ck2⟩
        clear hK K
        try simp only [Act.put, List.setIfInBounds_toArray, List.set_cons_zero, List.set_cons_succ]
        refine wpAnyH_take (i := 18) (oi := { dst := some 82, op := Op.build 43 #[(0, Operand.tmp 73), (1, Operand.tmp 77), (2, Operand.tmp 81)], type := 43, pos := "ref.go:33", after := #[{ on := 9, ground := Ground.data }, { on := 13, ground := Ground.data }, { on := 17, ground := Ground.data }], guard := none }) (v := ?_) rfl (by kernel_rfl) (by kernel_rfl) (by kernel_rfl) (fun _ _ _ h => h) (Or.inl ⟨by rfl, ?_⟩) (by assumption) ?_
        rotate_left
        · (intro w hSw; (try dsimp only at hSw); (try obtain ⟨hSa, hSb⟩ := hSw); go_simp; try with_reducible rfl)
        try simp only [Act.put, List.setIfInBounds_toArray, List.set_cons_zero, List.set_cons_succ]
        refine wpAnyH_ready (rs := [4, 19]) (by kernel_rfl) (by simp) ?_
        refine AllReadyH.cons (o := { dst := some 68, op := Op.load 41 (Operand.tmp 67), type := 41, pos := "ref.go:33", after := #[{ on := 3, ground := Ground.data }], guard := none }) rfl (fun K hK => ?_) (AllReadyH.cons (o := { dst := some 83, op := Op.buildSlice 41 1 #[(0, Operand.tmp 82)], type := 41, pos := "ref.go:33", after := #[{ on := 18, ground := Ground.data }], guard := none }) rfl (fun K hK => ?_) AllReadyH.nil)
        · skip
          go_simp
          refine hK.out _ _ ?_ (fun hHeld => ?_)
          · have ck1 := HRG.out _ k HO2.out.drew hkn
            have ck2 := HRW.out _ k HO2.out.drew hkn
            rw [HGI2.out.1] at ck1
            rw [HGI2.out.2] at ck2
            exact ⟨ck1, ck2⟩
          clear hK K
          try simp only [Act.put, List.setIfInBounds_toArray, List.set_cons_zero, List.set_cons_succ]
          refine wpAnyH_ready (rs := [19]) (by kernel_rfl) (by simp) ?_
          refine AllReadyH.cons (o := { dst := some 83, op := Op.buildSlice 41 1 #[(0, Operand.tmp 82)], type := 41, pos := "ref.go:33", after := #[{ on := 18, ground := Ground.data }], guard := none }) rfl (fun K hK => ?_) AllReadyH.nil
          go_simp
          refine hK.out _ _ ?_ (fun hHeld => ?_)
          · have ck1 := HRG.out _ k HO7.out hkn
            have ck2 := HRW.out _ k HO7.out hkn
            rw [HGI2.out.1] at ck1
            rw [HGI2.out.2] at ck2
            exact ⟨ck1, ck2⟩
          clear hK K
          try simp only [Act.put, List.setIfInBounds_toArray, List.set_cons_zero, List.set_cons_succ]
          refine wpAnyH_ready (rs := [20]) (by kernel_rfl) (by simp) ?_
          refine AllReadyH.cons (o := { dst := some 84, op := Op.call { callee := Callee.builtin Builtin.append, args := #[Operand.tmp 68, Operand.tmp 83], argTypes := #[41, 41] }, type := 41, pos := "ref.go:33", after := #[{ on := 4, ground := Ground.data }, { on := 19, ground := Ground.data }, { on := 9, ground := Ground.chain }], guard := none }) rfl (fun K hK => ?_) AllReadyH.nil
          refine step_append_row rfl (.tmp 68) (.tmp 83) 41 rfl 43 i0t (.agg #[.int .i64 0, .int .i64 0, .int .i64 0, .int .i64 0, .int .i64 0]) 5 40 Try.underlying41 HI.out.1 HI.out.2.1 HI.out.2.2.1 HI.out.2.2.2 rfl (by decide) A k c gb (rcs (newL good wear k)) rfl HROW7.out ⟨w2.heap.size, 0, none⟩ [.int .i64 (un gi), .int .i64 wi, .int .i64 gi, .int .i64 0, .int .i64 0] 1 rfl rfl (fun j u' hj => At.reads HN7.out j u' hj) (by simp [Value.oneCell']) hkm (by omega) ?_
          intro A3 c3 g3 w8 hrow3 hO3 hA3
          have HR3 := Lib.hid hrow3
          have HO3 := Lib.hid hO3
          have HA3 := Lib.hid hA3
          have hout8 := HOUT7.out.only hO3 HG12.out.1
          have HOUT8 := Lib.hid hout8
          have HO8 := Lib.hid (HO7.out.trans' hO3 (S := fun _ => False) (fun i hi e => by have := HGB.out e.1; omega))
          have f8 := hout8.frozen 5
          have c8 := hout8.cell 5
          simp only [List.getElem?_toArray, List.getElem?_cons_zero, List.getElem?_cons_succ] at c8
          clear hrow3 hO3 hA3 hout8
          refine hK.out _ _ ?_ (fun hHeld => ?_)
          · have ck1 := HRG.out _ k HO8.out hkn
            have ck2 := HRW.out _ k HO8.out hkn
            rw [HGI2.out.1] at ck1
            rw [HGI2.out.2] at ck2
            exact ⟨ck1, ck2⟩
          clear hK K
          try simp only [Act.put, List.setIfInBounds_toArray, List.set_cons_zero, List.set_cons_succ]
          refine wpAnyH_take (i := 21) (oi := { dst := some 85, op := Op.nilCheck (Operand.tmp 64), type := 0, pos := "ref.go:33", after := #[{ on := 0, ground := Ground.data }, { on := 0, ground := Ground.phase }, { on := 1, ground := Ground.phase }, { on := 2, ground := Ground.phase }, { on := 3, ground := Ground.phase }, { on := 4, ground := Ground.phase }, { on := 5, ground := Ground.phase }, { on := 6, ground := Ground.phase }, { on := 7, ground := Ground.phase }, { on := 8, ground := Ground.phase }, { on := 9, ground := Ground.phase }, { on := 10, ground := Ground.phase }, { on := 11, ground := Ground.phase }, { on := 12, ground := Ground.phase }, { on := 13, ground := Ground.phase }, { on := 14, ground := Ground.phase }, { on := 15, ground := Ground.phase }, { on := 16, ground := Ground.phase }, { on := 17, ground := Ground.phase }, { on := 18, ground := Ground.phase }, { on := 19, ground := Ground.phase }, { on := 20, ground := Ground.phase }], guard := none }) (v := ?_) rfl (by kernel_rfl) (by kernel_rfl) (by kernel_rfl) (fun _ _ _ h => h) (Or.inl ⟨by rfl, ?_⟩) (by assumption) ?_
          rotate_left
          · (intro w hSw; (try dsimp only at hSw); (try obtain ⟨hSa, hSb⟩ := hSw); go_simp; try with_reducible rfl)
          try simp only [Act.put, List.setIfInBounds_toArray, List.set_cons_zero, List.set_cons_succ]
          refine wpAnyH_take (i := 22) (oi := { dst := some 86, op := Op.fieldAddr 64 (Operand.tmp 85) 1, type := 0, pos := "ref.go:33", after := #[{ on := 21, ground := Ground.data }, { on := 0, ground := Ground.phase }, { on := 1, ground := Ground.phase }, { on := 2, ground := Ground.phase }, { on := 3, ground := Ground.phase }, { on := 4, ground := Ground.phase }, { on := 5, ground := Ground.phase }, { on := 6, ground := Ground.phase }, { on := 7, ground := Ground.phase }, { on := 8, ground := Ground.phase }, { on := 9, ground := Ground.phase }, { on := 10, ground := Ground.phase }, { on := 11, ground := Ground.phase }, { on := 12, ground := Ground.phase }, { on := 13, ground := Ground.phase }, { on := 14, ground := Ground.phase }, { on := 15, ground := Ground.phase }, { on := 16, ground := Ground.phase }, { on := 17, ground := Ground.phase }, { on := 18, ground := Ground.phase }, { on := 19, ground := Ground.phase }, { on := 20, ground := Ground.phase }], guard := none }) (v := ?_) rfl (by kernel_rfl) (by kernel_rfl) (by kernel_rfl) (fun _ _ _ h => h) (Or.inl ⟨by rfl, ?_⟩) (by assumption) ?_
          rotate_left
          · (intro w hSw; (try dsimp only at hSw); (try obtain ⟨hSa, hSb⟩ := hSw); go_simp; try with_reducible rfl)
          try simp only [Act.put, List.setIfInBounds_toArray, List.set_cons_zero, List.set_cons_succ]
          refine wpAnyH_ready (rs := [23]) (by kernel_rfl) (by simp) ?_
          refine AllReadyH.cons (o := { dst := none, op := Op.store 41 (Operand.tmp 86) (Operand.tmp 84), type := 0, pos := "ref.go:33", after := #[{ on := 22, ground := Ground.data }, { on := 20, ground := Ground.data }, { on := 20, ground := Ground.chain }, { on := 0, ground := Ground.phase }, { on := 1, ground := Ground.phase }, { on := 2, ground := Ground.phase }, { on := 3, ground := Ground.phase }, { on := 4, ground := Ground.phase }, { on := 5, ground := Ground.phase }, { on := 6, ground := Ground.phase }, { on := 7, ground := Ground.phase }, { on := 8, ground := Ground.phase }, { on := 9, ground := Ground.phase }, { on := 10, ground := Ground.phase }, { on := 11, ground := Ground.phase }, { on := 12, ground := Ground.phase }, { on := 13, ground := Ground.phase }, { on := 14, ground := Ground.phase }, { on := 15, ground := Ground.phase }, { on := 16, ground := Ground.phase }, { on := 17, ground := Ground.phase }, { on := 18, ground := Ground.phase }, { on := 19, ground := Ground.phase }, { on := 20, ground := Ground.phase }], guard := none }) rfl (fun K hK => ?_) AllReadyH.nil
          go_simp
          have HO9 := Lib.hid (HO8.out.setCell (p := ⟨w1.heap.size, 5, none⟩) (fun h => by simp at h; omega) (.slice A3 (k + 1) c3))
          refine hK.out _ _ ?_ (fun hHeld => ?_)
          · have ck1 := HRG.out _ k HO9.out hkn
            have ck2 := HRW.out _ k HO9.out hkn
            rw [HGI2.out.1] at ck1
            rw [HGI2.out.2] at ck2
            exact ⟨ck1, ck2⟩
          clear hK K
          try simp only [Act.put, List.setIfInBounds_toArray, List.set_cons_zero, List.set_cons_succ]
          refine wpAnyH_done (by kernel_rfl) ?_ _
          go_wp2_with (fail)
          have hW9 := (Only.refl (fun i => i = w1.heap.size) w8).setCell (p := ⟨w1.heap.size, 5, none⟩) (fun _ => rfl) (.slice A3 (k + 1) c3)
          have hg3 := HR3.out.neAt HOUT8.out HA3.out.1 (by decide)
          have hB9 := (HB7.out.only HO3.out HG12.out.2).only hW9 (by omega)
          have hOUT9 : At (w8.setCell ⟨w1.heap.size, 5, none⟩ (.slice A3 (k + 1) c3)) w1.heap.size 64 #[.int .i64 G.c, .int .i64 G.l, .int .i64 G.b, .int .i64 G.p, .int .i64 G.s, .slice A3 (k + 1) c3] := HOUT8.out.set 5 _
          have hROW9 := HR3.out.only hW9 (fun _ => hg3)
          have hGB9 : A3 ≠ none → w.heap.size < g3 := by
            intro _
            rcases HA3.out.2 with ⟨h1, h2⟩ | h2
            · rw [h2]; exact HGB.out h1
            · have e7 : (w2.alloc (.cells #[.int .i64 (un gi), .int .i64 wi, .int .i64 gi, .int .i64 0, .int .i64 0] 43)).drew.heap.size = w2.heap.size + 1 := by
                show (World.alloc _ _).heap.size = _
                simp
              rw [e7] at h2
              omega
          have hO9 := (HO7.out.trans' HO3.out (fun i hi e => by have := HGB.out e.1; omega)).setCell (p := ⟨w1.heap.size, 5, none⟩) (fun h => by simp at h; omega) (.slice A3 (k + 1) c3)
          have hL9 : rcs (newL good wear (k + 1)) = rcs (newL good wear k) ++ [.int .i64 (un gi), .int .i64 wi, .int .i64 gi, .int .i64 0, .int .i64 0] := by
            rw [newL, rcs_app, HGI2.out.1, HGI2.out.2]; rfl
          rw [← hL9] at hROW9
          have HFIN := Lib.hid (And.intro hB9 (And.intro hOUT9 (And.intro hROW9 (And.intro hGB9 hO9))))
          clear hW9 hg3 hB9 hOUT9 hROW9 hGB9 hO9 hL9
          go_roundw
          case rel => exact ⟨k + 1, A3, c3, g3, by omega, by simp, HST2.out, HFIN.out.1, HFIN.out.2.1, HFIN.out.2.2.1, HFIN.out.2.2.2.1, HFIN.out.2.2.2.2⟩
          case measure => simp [intOf]; omega

        · skip
          go_simp
          refine hK.out _ _ ?_ (fun hHeld => ?_)
          · have ck1 := HRG.out _ k HO7.out hkn
            have ck2 := HRW.out _ k HO7.out hkn
            rw [HGI2.out.1] at ck1
            rw [HGI2.out.2] at ck2
            exact ⟨ck1, ck2⟩
          clear hK K
          try simp only [Act.put, List.setIfInBounds_toArray, List.set_cons_zero, List.set_cons_succ]
          refine wpAnyH_ready (rs := [4]) (by kernel_rfl) (by simp) ?_
          refine AllReadyH.cons (o := { dst := some 68, op := Op.load 41 (Operand.tmp 67), type := 41, pos := "ref.go:33", after := #[{ on := 3, ground := Ground.data }], guard := none }) rfl (fun K hK => ?_) AllReadyH.nil
          go_simp
          refine hK.out _ _ ?_ (fun hHeld => ?_)
          · have ck1 := HRG.out _ k HO7.out hkn
            have ck2 := HRW.out _ k HO7.out hkn
            rw [HGI2.out.1] at ck1
            rw [HGI2.out.2] at ck2
            exact ⟨ck1, ck2⟩
          clear hK K
          try simp only [Act.put, List.setIfInBounds_toArray, List.set_cons_zero, List.set_cons_succ]
          refine wpAnyH_ready (rs := [20]) (by kernel_rfl) (by simp) ?_
          refine AllReadyH.cons (o := { dst := some 84, op := Op.call { callee := Callee.builtin Builtin.append, args := #[Operand.tmp 68, Operand.tmp 83], argTypes := #[41, 41] }, type := 41, pos := "ref.go:33", after := #[{ on := 4, ground := Ground.data }, { on := 19, ground := Ground.data }, { on := 9, ground := Ground.chain }], guard := none }) rfl (fun K hK => ?_) AllReadyH.nil
          refine step_append_row rfl (.tmp 68) (.tmp 83) 41 rfl 43 i0t (.agg #[.int .i64 0, .int .i64 0, .int .i64 0, .int .i64 0, .int .i64 0]) 5 40 Try.underlying41 HI.out.1 HI.out.2.1 HI.out.2.2.1 HI.out.2.2.2 rfl (by decide) A k c gb (rcs (newL good wear k)) rfl HROW7.out ⟨w2.heap.size, 0, none⟩ [.int .i64 (un gi), .int .i64 wi, .int .i64 gi, .int .i64 0, .int .i64 0] 1 rfl rfl (fun j u' hj => At.reads HN7.out j u' hj) (by simp [Value.oneCell']) hkm (by omega) ?_
          intro A3 c3 g3 w8 hrow3 hO3 hA3
          have HR3 := Lib.hid hrow3
          have HO3 := Lib.hid hO3
          have HA3 := Lib.hid hA3
          have hout8 := HOUT7.out.only hO3 HG12.out.1
          have HOUT8 := Lib.hid hout8
          have HO8 := Lib.hid (HO7.out.trans' hO3 (S := fun _ => False) (fun i hi e => by have := HGB.out e.1; omega))
          have f8 := hout8.frozen 5
          have c8 := hout8.cell 5
          simp only [List.getElem?_toArray, List.getElem?_cons_zero, List.getElem?_cons_succ] at c8
          clear hrow3 hO3 hA3 hout8
          refine hK.out _ _ ?_ (fun hHeld => ?_)
          · have ck1 := HRG.out _ k HO8.out hkn
            have ck2 := HRW.out _ k HO8.out hkn
            rw [HGI2.out.1] at ck1
            rw [HGI2.out.2] at ck2
            exact ⟨ck1, ck2⟩
          clear hK K
          try simp only [Act.put, List.setIfInBounds_toArray, List.set_cons_zero, List.set_cons_succ]
          refine wpAnyH_take (i := 21) (oi := { dst := some 85, op := Op.nilCheck (Operand.tmp 64), type := 0, pos := "ref.go:33", after := #[{ on := 0, ground := Ground.data }, { on := 0, ground := Ground.phase }, { on := 1, ground := Ground.phase }, { on := 2, ground := Ground.phase }, { on := 3, ground := Ground.phase }, { on := 4, ground := Ground.phase }, { on := 5, ground := Ground.phase }, { on := 6, ground := Ground.phase }, { on := 7, ground := Ground.phase }, { on := 8, ground := Ground.phase }, { on := 9, ground := Ground.phase }, { on := 10, ground := Ground.phase }, { on := 11, ground := Ground.phase }, { on := 12, ground := Ground.phase }, { on := 13, ground := Ground.phase }, { on := 14, ground := Ground.phase }, { on := 15, ground := Ground.phase }, { on := 16, ground := Ground.phase }, { on := 17, ground := Ground.phase }, { on := 18, ground := Ground.phase }, { on := 19, ground := Ground.phase }, { on := 20, ground := Ground.phase }], guard := none }) (v := ?_) rfl (by kernel_rfl) (by kernel_rfl) (by kernel_rfl) (fun _ _ _ h => h) (Or.inl ⟨by rfl, ?_⟩) (by assumption) ?_
          rotate_left
          · (intro w hSw; (try dsimp only at hSw); (try obtain ⟨hSa, hSb⟩ := hSw); go_simp; try with_reducible rfl)
          try simp only [Act.put, List.setIfInBounds_toArray, List.set_cons_zero, List.set_cons_succ]
          refine wpAnyH_take (i := 22) (oi := { dst := some 86, op := Op.fieldAddr 64 (Operand.tmp 85) 1, type := 0, pos := "ref.go:33", after := #[{ on := 21, ground := Ground.data }, { on := 0, ground := Ground.phase }, { on := 1, ground := Ground.phase }, { on := 2, ground := Ground.phase }, { on := 3, ground := Ground.phase }, { on := 4, ground := Ground.phase }, { on := 5, ground := Ground.phase }, { on := 6, ground := Ground.phase }, { on := 7, ground := Ground.phase }, { on := 8, ground := Ground.phase }, { on := 9, ground := Ground.phase }, { on := 10, ground := Ground.phase }, { on := 11, ground := Ground.phase }, { on := 12, ground := Ground.phase }, { on := 13, ground := Ground.phase }, { on := 14, ground := Ground.phase }, { on := 15, ground := Ground.phase }, { on := 16, ground := Ground.phase }, { on := 17, ground := Ground.phase }, { on := 18, ground := Ground.phase }, { on := 19, ground := Ground.phase }, { on := 20, ground := Ground.phase }], guard := none }) (v := ?_) rfl (by kernel_rfl) (by kernel_rfl) (by kernel_rfl) (fun _ _ _ h => h) (Or.inl ⟨by rfl, ?_⟩) (by assumption) ?_
          rotate_left
          · (intro w hSw; (try dsimp only at hSw); (try obtain ⟨hSa, hSb⟩ := hSw); go_simp; try with_reducible rfl)
          try simp only [Act.put, List.setIfInBounds_toArray, List.set_cons_zero, List.set_cons_succ]
          refine wpAnyH_ready (rs := [23]) (by kernel_rfl) (by simp) ?_
          refine AllReadyH.cons (o := { dst := none, op := Op.store 41 (Operand.tmp 86) (Operand.tmp 84), type := 0, pos := "ref.go:33", after := #[{ on := 22, ground := Ground.data }, { on := 20, ground := Ground.data }, { on := 20, ground := Ground.chain }, { on := 0, ground := Ground.phase }, { on := 1, ground := Ground.phase }, { on := 2, ground := Ground.phase }, { on := 3, ground := Ground.phase }, { on := 4, ground := Ground.phase }, { on := 5, ground := Ground.phase }, { on := 6, ground := Ground.phase }, { on := 7, ground := Ground.phase }, { on := 8, ground := Ground.phase }, { on := 9, ground := Ground.phase }, { on := 10, ground := Ground.phase }, { on := 11, ground := Ground.phase }, { on := 12, ground := Ground.phase }, { on := 13, ground := Ground.phase }, { on := 14, ground := Ground.phase }, { on := 15, ground := Ground.phase }, { on := 16, ground := Ground.phase }, { on := 17, ground := Ground.phase }, { on := 18, ground := Ground.phase }, { on := 19, ground := Ground.phase }, { on := 20, ground := Ground.phase }], guard := none }) rfl (fun K hK => ?_) AllReadyH.nil
          go_simp
          have HO9 := Lib.hid (HO8.out.setCell (p := ⟨w1.heap.size, 5, none⟩) (fun h => by simp at h; omega) (.slice A3 (k + 1) c3))
          refine hK.out _ _ ?_ (fun hHeld => ?_)
          · have ck1 := HRG.out _ k HO9.out hkn
            have ck2 := HRW.out _ k HO9.out hkn
            rw [HGI2.out.1] at ck1
            rw [HGI2.out.2] at ck2
            exact ⟨ck1, ck2⟩
          clear hK K
          try simp only [Act.put, List.setIfInBounds_toArray, List.set_cons_zero, List.set_cons_succ]
          refine wpAnyH_done (by kernel_rfl) ?_ _
          go_wp2_with (fail)
          have hW9 := (Only.refl (fun i => i = w1.heap.size) w8).setCell (p := ⟨w1.heap.size, 5, none⟩) (fun _ => rfl) (.slice A3 (k + 1) c3)
          have hg3 := HR3.out.neAt HOUT8.out HA3.out.1 (by decide)
          have hB9 := (HB7.out.only HO3.out HG12.out.2).only hW9 (by omega)
          have hOUT9 : At (w8.setCell ⟨w1.heap.size, 5, none⟩ (.slice A3 (k + 1) c3)) w1.heap.size 64 #[.int .i64 G.c, .int .i64 G.l, .int .i64 G.b, .int .i64 G.p, .int .i64 G.s, .slice A3 (k + 1) c3] := HOUT8.out.set 5 _
          have hROW9 := HR3.out.only hW9 (fun _ => hg3)
          have hGB9 : A3 ≠ none → w.heap.size < g3 := by
            intro _
            rcases HA3.out.2 with ⟨h1, h2⟩ | h2
            · rw [h2]; exact HGB.out h1
            · have e7 : (w2.alloc (.cells #[.int .i64 (un gi), .int .i64 wi, .int .i64 gi, .int .i64 0, .int .i64 0] 43)).drew.heap.size = w2.heap.size + 1 := by
                show (World.alloc _ _).heap.size = _
                simp
              rw [e7] at h2
              omega
          have hO9 := (HO7.out.trans' HO3.out (fun i hi e => by have := HGB.out e.1; omega)).setCell (p := ⟨w1.heap.size, 5, none⟩) (fun h => by simp at h; omega) (.slice A3 (k + 1) c3)
          have hL9 : rcs (newL good wear (k + 1)) = rcs (newL good wear k) ++ [.int .i64 (un gi), .int .i64 wi, .int .i64 gi, .int .i64 0, .int .i64 0] := by
            rw [newL, rcs_app, HGI2.out.1, HGI2.out.2]; rfl
          rw [← hL9] at hROW9
          have HFIN := Lib.hid (And.intro hB9 (And.intro hOUT9 (And.intro hROW9 (And.intro hGB9 hO9))))
          clear hW9 hg3 hB9 hOUT9 hROW9 hGB9 hO9 hL9
          go_roundw
          case rel => exact ⟨k + 1, A3, c3, g3, by omega, by simp, HST2.out, HFIN.out.1, HFIN.out.2.1, HFIN.out.2.2.1, HFIN.out.2.2.2.1, HFIN.out.2.2.2.2⟩
          case measure => simp [intOf]; omega


    · obtain rfl : k = n := by omega
      have i1 : ¬ (k : Int) < k := by omega
      go_wp2
      go_ret2
      refine .inl ⟨HYES.out HOKT.out, ?_⟩
      have hl := newL_len good wear k
      have hR := HROW.out
      have hA : A ≠ none := by
        rintro rfl
        rcases hR with ⟨_, h1, _⟩ | ⟨_, _, h1, _⟩
        · omega
        · cases h1
      obtain ⟨off, rfl⟩ : ∃ off, A = some ⟨gb, off, none⟩ := by
        rcases hR with ⟨h1, _⟩ | ⟨off', _, h1, _⟩
        · exact absurd h1 hA
        · exact ⟨off', h1⟩
      refine ⟨w1.heap.size, off, c, gb, rfl, ⟨?_, ?_, ?_⟩, by omega, by have := HGB.out hA; omega, HO.out⟩
      · rw [HN.out, hl]; exact HOUT.out
      · rw [HN.out, hl]; exact HROW.out
      · rw [HN.out, hl]; exact hn1
end Go.Proofs.Ytlenjgofiocaaaa
