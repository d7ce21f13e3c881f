/- Victim: the law VictimMore, walked. -/
import Derived.Test.YtbcjpchjidgpeaaAA
import Derived.Test.YtbcjpchjidgpeaaAP
import Derived.Deep.DeepCutAuto
import Derived.Deep.CutBlock
import Derived.Outline
namespace Go.Proofs.Ytbcjpchjidgpeaa
open Go.RowKit

theorem At.new' {w : World} {g : Nat} (h : g = w.heap.size) (t : TypeId) (cs : Array Value) : At (w.alloc (.cells cs t)) g t cs := by subst h; exact At.new w t cs
theorem Rd.fresh {w : World} {g : Nat} {t : TypeId} {cs : Array Value} (h : At w g t cs) (xs : List Value) (hx : cs.toList = xs) : Rd w g (some ⟨g, 0, none⟩) xs :=
  .inr ⟨0, rfl, h.lt, fun j u hu => by rw [Nat.zero_add, h.cell j]; rw [← hx] at hu; simpa using hu⟩
theorem lv_len (l : List Ln) : (lv l).length = l.length * 5 := by rw [lv_length]; omega
theorem lv_single (y : Ln) : lv [y] = [.int .i64 y.st, .int .i64 y.we, .int .i64 y.go, .int .i64 y.va, .int .i64 y.ro] := rfl

set_option maxRecDepth 100000 in
set_option maxHeartbeats 16000000 in
theorem victimMore_walk (g c : Nat) (A : Option Addr) (l : List Ln) (x : Ln) (how : Int) (w : World) (hr : Rd w g A (lv l)) :
    Calls Try.prog 8 #[.slice A l.length c, x.val, .int .i64 how] w fun e w' => e = .returned (.bool true) ∧ Below w.heap.size w w' := by
  obtain ⟨i0, hi⟩ : ∃ i, Try.prog.info? 33 = some i := ⟨_, rfl⟩
  have hz0 : i0.zero = some (.agg #[.int .i64 0, .int .i64 0, .int .i64 0, .int .i64 0, .int .i64 0]) := by cases hi; rfl
  have hz1 : i0.size = 5 := by cases hi; rfl
  have hz2 : i0.bytes = 40 := by cases hi; rfl
  have HI := Lib.hid (And.intro hi (And.intro hz0 (And.intro hz1 hz2)))
  have HR := Lib.hid hr
  have HO0 := Lib.hid ((Only.refl (fun _ => False) w).alloc (.cells #[.int .i64 x.st, .int .i64 x.we, .int .i64 x.go, .int .i64 x.va, .int .i64 x.ro] 33))
  have HX := Lib.hid (At.new w 33 #[.int .i64 x.st, .int .i64 x.we, .int .i64 x.go, .int .i64 x.va, .int .i64 x.ro])
  clear hr hi hz0 hz1 hz2
  unfold Ln.val
  go_enter Try.func8, Try.ntmps8
  go_wp2_with (fail)
  refine (awake_any _).mono ?_
  rintro e w1 ⟨rfl, hO1⟩
  have HO1 := Lib.hid (HO0.out.trans hO1)
  have HX1 := Lib.hid (HX.out.only hO1 id)
  clear hO1 HO0 HX
  by_cases hbig : (300 : Int) < l.length
  · go_wp2
    go_ret
    exact ⟨rfl, HO1.out.below (Nat.le_refl _) (fun i hi h => h)⟩
  have hsm : l.length ≤ 300 := by omega
  have x0 := HX1.out.cell 0
  have x1 := HX1.out.cell 1
  have x2 := HX1.out.cell 2
  have x3 := HX1.out.cell 3
  have x4 := HX1.out.cell 4
  have f0 := HX1.out.frozen 0
  have f3 := HX1.out.frozen 3
  have f4 := HX1.out.frozen 4
  simp only [List.getElem?_toArray, List.getElem?_cons_zero, List.getElem?_cons_succ] at x0 x1 x2 x3 x4
  have dbig : decide ((300 : Int) < l.length) = false := decide_eq_false hbig
  go_upto_block 0 with (fail)
  go_cut [21] (fun v21 wy => ∃ y : Ln, y.may = false ∧ At wy w.heap.size 33 #[.int .i64 y.st, .int .i64 y.we, .int .i64 y.go, .int .i64 y.va, .int .i64 y.ro] ∧ Only (fun _ => False) w wy)
  case first =>
    by_cases h0 : how = 0
    · have t0 : (how == 0) = true := by simp [h0]
      go_wp2_with (fail)
      go_meet
      exact ⟨{ x with st := 1 }, by simp [Ln.may], HX1.out.set 0 _, HO1.out.setCell (p := ⟨w.heap.size, 0, none⟩) (fun h => by simp at h) _⟩
    have t0 : (how == 0) = false := beq_false_of_ne h0
    by_cases h1 : how = 1
    · have t1 : (how == 1) = true := by simp [h1]
      go_wp2_with (fail)
      go_meet
      exact ⟨{ x with va := x.ro }, by simp [Ln.may], HX1.out.set 3 _, HO1.out.setCell (p := ⟨w.heap.size, 3, none⟩) (fun h => by simp at h) _⟩
    have t1 : (how == 1) = false := beq_false_of_ne h1
    by_cases h2 : how = 2
    · have t2 : (how == 2) = true := by simp [h2]
      go_wp2_with (fail)
      go_meet
      exact ⟨{ x with ro := 8193 }, by simp [Ln.may], HX1.out.set 4 _, HO1.out.setCell (p := ⟨w.heap.size, 4, none⟩) (fun h => by simp at h) _⟩
    have t2 : (how == 2) = false := beq_false_of_ne h2
    go_wp2_with (fail)
    go_meet
    exact ⟨{ x with va := -1 }, by simp [Ln.may], HX1.out.set 3 _, HO1.out.setCell (p := ⟨w.heap.size, 3, none⟩) (fun h => by simp at h) _⟩
  case rest =>
  obtain ⟨y, hy, hX, hO⟩ := hcut
  obtain ⟨wz, hwz⟩ : ∃ wz, wz = wc := ⟨_, rfl⟩
  subst hwz
  have hxx : w.heap.size < wz.heap.size := hX.lt
  have HY := Lib.hid hy
  have HXd := Lib.hid hX
  have HOd := Lib.hid hO
  have HRd := Lib.hid (HR.out.only hO id)
  clear hy hX hO HX1 HO1 x0 x1 x2 x3 x4 f0 f3 f4
  go_upto_region 12 with (fail)
  go_cut [8] (fun v8 wy => ∃ (A2 : Option Addr) (c2 g2 : Nat), v8 = .slice A2 (l.length + 1) c2 ∧ Rd wy g2 A2 (lv (l ++ [y])) ∧ Only (fun _ => False) w wy)
  case first =>
    refine wp_region_held_drew (S := (fun W => (W.cell? ⟨w.heap.size, 0, none⟩ = some (.int .i64 y.st) ∧ W.cell? ⟨w.heap.size, 1, none⟩ = some (.int .i64 y.we)) ∧ (W.cell? ⟨w.heap.size, 2, none⟩ = some (.int .i64 y.go) ∧ W.cell? ⟨w.heap.size, 3, none⟩ = some (.int .i64 y.va)) ∧ W.cell? ⟨w.heap.size, 4, none⟩ = some (.int .i64 y.ro))) (by kernel_rfl) ?_ (fun hHeld => ?_)
    · exact ⟨⟨HXd.out.cell 0, HXd.out.cell 1⟩, ⟨HXd.out.cell 2, HXd.out.cell 3⟩, HXd.out.cell 4⟩
    refine wpAnyH_take (i := 1) (oi := { dst := some 33, op := Op.move (Operand.tmp 0), type := 22, pos := "law.go:106", after := #[], guard := none }) (v := ?_) rfl (by kernel_rfl) (by kernel_rfl) (by kernel_rfl) (fun _ _ _ h => h) (Or.inl ⟨by rfl, ?_⟩) (by assumption) ?_
    rotate_left
    · (intro w hSw; (try dsimp only at hSw); (try obtain ⟨hSa, hSb⟩ := hSw); go_simp; try with_reducible rfl)
    try simp only [Act.put, List.setIfInBounds_toArray, List.set_cons_zero, List.set_cons_succ]
    refine wpAnyH_take (i := 3) (oi := { dst := some 35, op := Op.load 33 (Operand.tmp 4), type := 33, pos := "law.go:106", after := #[], guard := none }) (v := ?_) rfl (by kernel_rfl) (by kernel_rfl) (by kernel_rfl) (fun _ _ _ h => h) (Or.inl ⟨by rfl, ?_⟩) (by assumption) ?_
    rotate_left
    · (intro w hSw; (try dsimp only at hSw); (try obtain ⟨hSa, hSb⟩ := hSw); go_simp; try with_reducible rfl)
    try simp only [Act.put, List.setIfInBounds_toArray, List.set_cons_zero, List.set_cons_succ]
    refine wpAnyH_ready (rs := [0, 4]) (by kernel_rfl) (by simp) ?_
    refine AllReadyH.cons (o := { dst := some 32, op := Op.buildSlice 22 0 #[], type := 22, pos := "law.go:106", after := #[], guard := none }) rfl (fun K hK => ?_) (AllReadyH.cons (o := { dst := some 36, op := Op.buildSlice 22 1 #[(0, Operand.tmp 35)], type := 22, pos := "law.go:106", after := #[{ on := 3, ground := Ground.data }], guard := none }) rfl (fun K hK => ?_) (AllReadyH.nil))
    · skip
      go_simp
      have HX1 := Lib.hid (HXd.out.alloc (.cells #[] 33))
      have HR1 := Lib.hid (HRd.out.only (S := fun _ => False) ((Only.refl _ _).alloc (.cells #[] 33)) id)
      have HO1 := Lib.hid (HOd.out.alloc (.cells #[] 33))
      have HF1 := Lib.hid (own_fresh (base := wz.heap.size) (At.new' (g := wz.heap.size) (w := wz) (by simp) 33 #[]) (by omega) 5)
      refine hK.out _ _ ?_ (fun hHeld => ?_)
      · exact ⟨⟨HX1.out.cell 0, HX1.out.cell 1⟩, ⟨HX1.out.cell 2, HX1.out.cell 3⟩, HX1.out.cell 4⟩
      clear hK K
      try simp only [Act.put, List.setIfInBounds_toArray, List.set_cons_zero, List.set_cons_succ]
      refine wpAnyH_ready (rs := [2, 4]) (by kernel_rfl) (by simp) ?_
      refine AllReadyH.cons (o := { dst := some 34, op := Op.call { callee := Callee.builtin Builtin.append, args := #[Operand.tmp 32, Operand.tmp 33], argTypes := #[22, 22] }, type := 22, pos := "law.go:106", after := #[{ on := 0, ground := Ground.data }, { on := 1, ground := Ground.data }], guard := none }) rfl (fun K hK => ?_) (AllReadyH.cons (o := { dst := some 36, op := Op.buildSlice 22 1 #[(0, Operand.tmp 35)], type := 22, pos := "law.go:106", after := #[{ on := 3, ground := Ground.data }], guard := none }) rfl (fun K hK => ?_) (AllReadyH.nil))
      · skip
        have hbs : wz.heap.size ≤ (wz.alloc (.cells #[] 33)).heap.size := by first | (simp; done) | (simp; omega)
        refine step_append_src rfl (.tmp 32) (.tmp 33) 22 rfl wz.heap.size 33 i0 (.agg #[.int .i64 0, .int .i64 0, .int .i64 0, .int .i64 0, .int .i64 0]) 5 40 Try.underlying22 HI.out.1 HI.out.2.1 HI.out.2.2.1 HI.out.2.2.2 rfl (by decide) (.slice (some ⟨wz.heap.size, 0, none⟩) 0 0) 0 [] rfl HF1.out.drew g A l.length c (lv l) rfl (lv_len l) (HR1.out.only (S := fun _ => False) ((Only.refl _ _).drew) id) (lv_one l) (by unfold maxLen; omega) (by omega) hbs ?_
        intro A1 c1 wa2 hc1 hown1 hg1
        simp only [Nat.zero_add, List.nil_append] at hown1 hc1
        simp only [Nat.zero_add]
        have HX2 := Lib.hid (HX1.out.drew.grown hg1 (own_ne HF1.out hxx))
        have HO2 := Lib.hid (HO1.out.drew.append HF1.out.drew hg1 (fun i hi hb => by omega))
        have HF2 := Lib.hid hown1
        have hsz2 : wz.heap.size + 1 ≤ wa2.heap.size := by have := hg1.size; simp at this; omega
        have HR2 := Lib.hid (show True from trivial)
        clear hown1 hg1
        refine hK.out _ _ ?_ (fun hHeld => ?_)
        · exact ⟨⟨HX2.out.cell 0, HX2.out.cell 1⟩, ⟨HX2.out.cell 2, HX2.out.cell 3⟩, HX2.out.cell 4⟩
        clear hK K
        try simp only [Act.put, List.setIfInBounds_toArray, List.set_cons_zero, List.set_cons_succ]
        refine wpAnyH_ready (rs := [4]) (by kernel_rfl) (by simp) ?_
        refine AllReadyH.cons (o := { dst := some 36, op := Op.buildSlice 22 1 #[(0, Operand.tmp 35)], type := 22, pos := "law.go:106", after := #[{ on := 3, ground := Ground.data }], guard := none }) rfl (fun K hK => ?_) (AllReadyH.nil)
        skip
        go_simp
        have HX3 := Lib.hid (HX2.out.alloc (.cells #[.int .i64 y.st, .int .i64 y.we, .int .i64 y.go, .int .i64 y.va, .int .i64 y.ro] 33))
        have HR3 := Lib.hid (show True from trivial)
        have HO3 := Lib.hid (HO2.out.alloc (.cells #[.int .i64 y.st, .int .i64 y.we, .int .i64 y.go, .int .i64 y.va, .int .i64 y.ro] 33))
        have HB3 := Lib.hid (At.new' (g := wa2.heap.size) (w := wa2) (by simp) 33 #[.int .i64 y.st, .int .i64 y.we, .int .i64 y.go, .int .i64 y.va, .int .i64 y.ro])
        have HF3 := Lib.hid (HF2.out.alloc (.cells #[.int .i64 y.st, .int .i64 y.we, .int .i64 y.go, .int .i64 y.va, .int .i64 y.ro] 33))
        refine hK.out _ _ ?_ (fun hHeld => ?_)
        · exact ⟨⟨HX3.out.cell 0, HX3.out.cell 1⟩, ⟨HX3.out.cell 2, HX3.out.cell 3⟩, HX3.out.cell 4⟩
        clear hK K
        try simp only [Act.put, List.setIfInBounds_toArray, List.set_cons_zero, List.set_cons_succ]
        refine wpAnyH_ready (rs := [5]) (by kernel_rfl) (by simp) ?_
        refine AllReadyH.cons (o := { dst := some 37, op := Op.call { callee := Callee.builtin Builtin.append, args := #[Operand.tmp 34, Operand.tmp 36], argTypes := #[22, 22] }, type := 22, pos := "law.go:106", after := #[{ on := 2, ground := Ground.data }, { on := 4, ground := Ground.data }, { on := 2, ground := Ground.chain }], guard := none }) rfl (fun K hK => ?_) (AllReadyH.nil)
        skip
        have hbs : wz.heap.size ≤ (wa2.alloc (.cells #[.int .i64 y.st, .int .i64 y.we, .int .i64 y.go, .int .i64 y.va, .int .i64 y.ro] 33)).heap.size := by first | omega | (simp; omega)
        refine step_append_src rfl (.tmp 34) (.tmp 36) 22 rfl wz.heap.size 33 i0 (.agg #[.int .i64 0, .int .i64 0, .int .i64 0, .int .i64 0, .int .i64 0]) 5 40 Try.underlying22 HI.out.1 HI.out.2.1 HI.out.2.2.1 HI.out.2.2.2 rfl (by decide) (.slice A1 l.length c1) l.length (lv l) rfl HF3.out (wa2.heap.size) (some ⟨wa2.heap.size, 0, none⟩) 1 1 [.int .i64 y.st, .int .i64 y.we, .int .i64 y.go, .int .i64 y.va, .int .i64 y.ro] rfl rfl (Rd.fresh HB3.out _ rfl) (by simp [Value.oneCell']) (by unfold maxLen; omega) (by omega) hbs ?_
        intro A2 c2 wb4 hc2 hown2 hg2
        have HX4 := Lib.hid (HX3.out.grown hg2 (own_ne HF3.out hxx))
        have HO4 := Lib.hid (HO3.out.append HF3.out hg2 (fun i hi hb => by omega))
        have HF4 := Lib.hid hown2
        clear hown2 hg2
        refine hK.out _ _ ?_ (fun hHeld => ?_)
        · exact ⟨⟨HX4.out.cell 0, HX4.out.cell 1⟩, ⟨HX4.out.cell 2, HX4.out.cell 3⟩, HX4.out.cell 4⟩
        clear hK K
        try simp only [Act.put, List.setIfInBounds_toArray, List.set_cons_zero, List.set_cons_succ]
        refine wpAnyH_ready (rs := [6]) (by kernel_rfl) (by simp) ?_
        refine AllReadyH.cons (o := { dst := some 8, op := Op.assign (Operand.tmp 37), type := 22, pos := "law.go:106", after := #[{ on := 5, ground := Ground.data }, { on := 5, ground := Ground.chain }, { on := 0, ground := Ground.phase }, { on := 1, ground := Ground.phase }, { on := 2, ground := Ground.phase }, { on := 3, ground := Ground.phase }, { on := 4, ground := Ground.phase }, { on := 5, ground := Ground.phase }], guard := none }) rfl (fun K hK => ?_) (AllReadyH.nil)
        skip
        go_simp
        refine hK.out _ _ ?_ (fun hHeld => ?_)
        · exact ⟨⟨HX4.out.cell 0, HX4.out.cell 1⟩, ⟨HX4.out.cell 2, HX4.out.cell 3⟩, HX4.out.cell 4⟩
        clear hK K
        try simp only [Act.put, List.setIfInBounds_toArray, List.set_cons_zero, List.set_cons_succ]
        refine wpAnyH_done (by kernel_rfl) ?_ _
        have HXF := Lib.hid HX4.out
        have HOF := Lib.hid HO4.out
        obtain ⟨gF, hgF, hrF⟩ := own_row HF4.out (by simp [Ln.cells, lv])
        have HRF := Lib.hid hrF
        clear hrF
        go_wp2_with (fail)
        go_meet
        exact ⟨A2, c2, gF, rfl, by rw [lv_app, lv_single]; exact HRF.out, HOF.out⟩
      · skip
        go_simp
        have HX6 := Lib.hid (HX1.out.alloc (.cells #[.int .i64 y.st, .int .i64 y.we, .int .i64 y.go, .int .i64 y.va, .int .i64 y.ro] 33))
        have HR6 := Lib.hid (HR1.out.only (S := fun _ => False) ((Only.refl _ _).alloc (.cells #[.int .i64 y.st, .int .i64 y.we, .int .i64 y.go, .int .i64 y.va, .int .i64 y.ro] 33)) id)
        have HO6 := Lib.hid (HO1.out.alloc (.cells #[.int .i64 y.st, .int .i64 y.we, .int .i64 y.go, .int .i64 y.va, .int .i64 y.ro] 33))
        have HB6 := Lib.hid (At.new' (g := wz.heap.size + 1) (w := (wz.alloc (.cells #[] 33))) (by simp) 33 #[.int .i64 y.st, .int .i64 y.we, .int .i64 y.go, .int .i64 y.va, .int .i64 y.ro])
        have HF6 := Lib.hid (HF1.out.alloc (.cells #[.int .i64 y.st, .int .i64 y.we, .int .i64 y.go, .int .i64 y.va, .int .i64 y.ro] 33))
        refine hK.out _ _ ?_ (fun hHeld => ?_)
        · exact ⟨⟨HX6.out.cell 0, HX6.out.cell 1⟩, ⟨HX6.out.cell 2, HX6.out.cell 3⟩, HX6.out.cell 4⟩
        clear hK K
        try simp only [Act.put, List.setIfInBounds_toArray, List.set_cons_zero, List.set_cons_succ]
        refine wpAnyH_ready (rs := [2]) (by kernel_rfl) (by simp) ?_
        refine AllReadyH.cons (o := { dst := some 34, op := Op.call { callee := Callee.builtin Builtin.append, args := #[Operand.tmp 32, Operand.tmp 33], argTypes := #[22, 22] }, type := 22, pos := "law.go:106", after := #[{ on := 0, ground := Ground.data }, { on := 1, ground := Ground.data }], guard := none }) rfl (fun K hK => ?_) (AllReadyH.nil)
        skip
        have hbs : wz.heap.size ≤ ((wz.alloc (.cells #[] 33)).alloc (.cells #[.int .i64 y.st, .int .i64 y.we, .int .i64 y.go, .int .i64 y.va, .int .i64 y.ro] 33)).heap.size := by first | (simp; done) | (simp; omega)
        refine step_append_src rfl (.tmp 32) (.tmp 33) 22 rfl wz.heap.size 33 i0 (.agg #[.int .i64 0, .int .i64 0, .int .i64 0, .int .i64 0, .int .i64 0]) 5 40 Try.underlying22 HI.out.1 HI.out.2.1 HI.out.2.2.1 HI.out.2.2.2 rfl (by decide) (.slice (some ⟨wz.heap.size, 0, none⟩) 0 0) 0 [] rfl HF6.out.drew g A l.length c (lv l) rfl (lv_len l) (HR6.out.only (S := fun _ => False) ((Only.refl _ _).drew) id) (lv_one l) (by unfold maxLen; omega) (by omega) hbs ?_
        intro A1 c1 wa7 hc1 hown1 hg1
        simp only [Nat.zero_add, List.nil_append] at hown1 hc1
        simp only [Nat.zero_add]
        have HX7 := Lib.hid (HX6.out.drew.grown hg1 (own_ne HF6.out hxx))
        have HO7 := Lib.hid (HO6.out.drew.append HF6.out.drew hg1 (fun i hi hb => by omega))
        have HF7 := Lib.hid hown1
        have hsz7 : wz.heap.size + 1 ≤ wa7.heap.size := by have := hg1.size; simp at this; omega
        have HB7 := Lib.hid (HB6.out.drew.grown hg1 (by simp [Value.ownBlock]))
        have HR7 := Lib.hid (show True from trivial)
        clear hown1 hg1
        refine hK.out _ _ ?_ (fun hHeld => ?_)
        · exact ⟨⟨HX7.out.cell 0, HX7.out.cell 1⟩, ⟨HX7.out.cell 2, HX7.out.cell 3⟩, HX7.out.cell 4⟩
        clear hK K
        try simp only [Act.put, List.setIfInBounds_toArray, List.set_cons_zero, List.set_cons_succ]
        refine wpAnyH_ready (rs := [5]) (by kernel_rfl) (by simp) ?_
        refine AllReadyH.cons (o := { dst := some 37, op := Op.call { callee := Callee.builtin Builtin.append, args := #[Operand.tmp 34, Operand.tmp 36], argTypes := #[22, 22] }, type := 22, pos := "law.go:106", after := #[{ on := 2, ground := Ground.data }, { on := 4, ground := Ground.data }, { on := 2, ground := Ground.chain }], guard := none }) rfl (fun K hK => ?_) (AllReadyH.nil)
        skip
        have hbs : wz.heap.size ≤ wa7.heap.size := by first | omega | (simp; omega)
        refine step_append_src rfl (.tmp 34) (.tmp 36) 22 rfl wz.heap.size 33 i0 (.agg #[.int .i64 0, .int .i64 0, .int .i64 0, .int .i64 0, .int .i64 0]) 5 40 Try.underlying22 HI.out.1 HI.out.2.1 HI.out.2.2.1 HI.out.2.2.2 rfl (by decide) (.slice A1 l.length c1) l.length (lv l) rfl HF7.out (wz.heap.size + 1) (some ⟨wz.heap.size + 1, 0, none⟩) 1 1 [.int .i64 y.st, .int .i64 y.we, .int .i64 y.go, .int .i64 y.va, .int .i64 y.ro] rfl rfl (Rd.fresh HB7.out _ rfl) (by simp [Value.oneCell']) (by unfold maxLen; omega) (by omega) hbs ?_
        intro A2 c2 wb8 hc2 hown2 hg2
        have HX8 := Lib.hid (HX7.out.grown hg2 (own_ne HF7.out hxx))
        have HO8 := Lib.hid (HO7.out.append HF7.out hg2 (fun i hi hb => by omega))
        have HF8 := Lib.hid hown2
        clear hown2 hg2
        refine hK.out _ _ ?_ (fun hHeld => ?_)
        · exact ⟨⟨HX8.out.cell 0, HX8.out.cell 1⟩, ⟨HX8.out.cell 2, HX8.out.cell 3⟩, HX8.out.cell 4⟩
        clear hK K
        try simp only [Act.put, List.setIfInBounds_toArray, List.set_cons_zero, List.set_cons_succ]
        refine wpAnyH_ready (rs := [6]) (by kernel_rfl) (by simp) ?_
        refine AllReadyH.cons (o := { dst := some 8, op := Op.assign (Operand.tmp 37), type := 22, pos := "law.go:106", after := #[{ on := 5, ground := Ground.data }, { on := 5, ground := Ground.chain }, { on := 0, ground := Ground.phase }, { on := 1, ground := Ground.phase }, { on := 2, ground := Ground.phase }, { on := 3, ground := Ground.phase }, { on := 4, ground := Ground.phase }, { on := 5, ground := Ground.phase }], guard := none }) rfl (fun K hK => ?_) (AllReadyH.nil)
        skip
        go_simp
        refine hK.out _ _ ?_ (fun hHeld => ?_)
        · exact ⟨⟨HX8.out.cell 0, HX8.out.cell 1⟩, ⟨HX8.out.cell 2, HX8.out.cell 3⟩, HX8.out.cell 4⟩
        clear hK K
        try simp only [Act.put, List.setIfInBounds_toArray, List.set_cons_zero, List.set_cons_succ]
        refine wpAnyH_done (by kernel_rfl) ?_ _
        have HXF := Lib.hid HX8.out
        have HOF := Lib.hid HO8.out
        obtain ⟨gF, hgF, hrF⟩ := own_row HF8.out (by simp [Ln.cells, lv])
        have HRF := Lib.hid hrF
        clear hrF
        go_wp2_with (fail)
        go_meet
        exact ⟨A2, c2, gF, rfl, by rw [lv_app, lv_single]; exact HRF.out, HOF.out⟩
    · skip
      go_simp
      have HX10 := Lib.hid (HXd.out.alloc (.cells #[.int .i64 y.st, .int .i64 y.we, .int .i64 y.go, .int .i64 y.va, .int .i64 y.ro] 33))
      have HR10 := Lib.hid (HRd.out.only (S := fun _ => False) ((Only.refl _ _).alloc (.cells #[.int .i64 y.st, .int .i64 y.we, .int .i64 y.go, .int .i64 y.va, .int .i64 y.ro] 33)) id)
      have HO10 := Lib.hid (HOd.out.alloc (.cells #[.int .i64 y.st, .int .i64 y.we, .int .i64 y.go, .int .i64 y.va, .int .i64 y.ro] 33))
      have HB10 := Lib.hid (At.new' (g := wz.heap.size) (w := wz) (by simp) 33 #[.int .i64 y.st, .int .i64 y.we, .int .i64 y.go, .int .i64 y.va, .int .i64 y.ro])
      refine hK.out _ _ ?_ (fun hHeld => ?_)
      · exact ⟨⟨HX10.out.cell 0, HX10.out.cell 1⟩, ⟨HX10.out.cell 2, HX10.out.cell 3⟩, HX10.out.cell 4⟩
      clear hK K
      try simp only [Act.put, List.setIfInBounds_toArray, List.set_cons_zero, List.set_cons_succ]
      refine wpAnyH_ready (rs := [0]) (by kernel_rfl) (by simp) ?_
      refine AllReadyH.cons (o := { dst := some 32, op := Op.buildSlice 22 0 #[], type := 22, pos := "law.go:106", after := #[], guard := none }) rfl (fun K hK => ?_) (AllReadyH.nil)
      skip
      go_simp
      have HX11 := Lib.hid (HX10.out.alloc (.cells #[] 33))
      have HR11 := Lib.hid (HR10.out.only (S := fun _ => False) ((Only.refl _ _).alloc (.cells #[] 33)) id)
      have HO11 := Lib.hid (HO10.out.alloc (.cells #[] 33))
      have HF11 := Lib.hid (own_fresh (base := wz.heap.size) (At.new' (g := wz.heap.size + 1) (w := (wz.alloc (.cells #[.int .i64 y.st, .int .i64 y.we, .int .i64 y.go, .int .i64 y.va, .int .i64 y.ro] 33))) (by simp) 33 #[]) (by omega) 5)
      have HB11 := Lib.hid (HB10.out.alloc (.cells #[] 33))
      refine hK.out _ _ ?_ (fun hHeld => ?_)
      · exact ⟨⟨HX11.out.cell 0, HX11.out.cell 1⟩, ⟨HX11.out.cell 2, HX11.out.cell 3⟩, HX11.out.cell 4⟩
      clear hK K
      try simp only [Act.put, List.setIfInBounds_toArray, List.set_cons_zero, List.set_cons_succ]
      refine wpAnyH_ready (rs := [2]) (by kernel_rfl) (by simp) ?_
      refine AllReadyH.cons (o := { dst := some 34, op := Op.call { callee := Callee.builtin Builtin.append, args := #[Operand.tmp 32, Operand.tmp 33], argTypes := #[22, 22] }, type := 22, pos := "law.go:106", after := #[{ on := 0, ground := Ground.data }, { on := 1, ground := Ground.data }], guard := none }) rfl (fun K hK => ?_) (AllReadyH.nil)
      skip
      have hbs : wz.heap.size ≤ ((wz.alloc (.cells #[.int .i64 y.st, .int .i64 y.we, .int .i64 y.go, .int .i64 y.va, .int .i64 y.ro] 33)).alloc (.cells #[] 33)).heap.size := by first | (simp; done) | (simp; omega)
      refine step_append_src rfl (.tmp 32) (.tmp 33) 22 rfl wz.heap.size 33 i0 (.agg #[.int .i64 0, .int .i64 0, .int .i64 0, .int .i64 0, .int .i64 0]) 5 40 Try.underlying22 HI.out.1 HI.out.2.1 HI.out.2.2.1 HI.out.2.2.2 rfl (by decide) (.slice (some ⟨wz.heap.size + 1, 0, none⟩) 0 0) 0 [] rfl HF11.out.drew g A l.length c (lv l) rfl (lv_len l) (HR11.out.only (S := fun _ => False) ((Only.refl _ _).drew) id) (lv_one l) (by unfold maxLen; omega) (by omega) hbs ?_
      intro A1 c1 wa12 hc1 hown1 hg1
      simp only [Nat.zero_add, List.nil_append] at hown1 hc1
      simp only [Nat.zero_add]
      have HX12 := Lib.hid (HX11.out.drew.grown hg1 (own_ne HF11.out hxx))
      have HO12 := Lib.hid (HO11.out.drew.append HF11.out.drew hg1 (fun i hi hb => by omega))
      have HF12 := Lib.hid hown1
      have hsz12 : wz.heap.size + 1 ≤ wa12.heap.size := by have := hg1.size; simp at this; omega
      have HB12 := Lib.hid (HB11.out.drew.grown hg1 (by simp [Value.ownBlock]))
      have HR12 := Lib.hid (show True from trivial)
      clear hown1 hg1
      refine hK.out _ _ ?_ (fun hHeld => ?_)
      · exact ⟨⟨HX12.out.cell 0, HX12.out.cell 1⟩, ⟨HX12.out.cell 2, HX12.out.cell 3⟩, HX12.out.cell 4⟩
      clear hK K
      try simp only [Act.put, List.setIfInBounds_toArray, List.set_cons_zero, List.set_cons_succ]
      refine wpAnyH_ready (rs := [5]) (by kernel_rfl) (by simp) ?_
      refine AllReadyH.cons (o := { dst := some 37, op := Op.call { callee := Callee.builtin Builtin.append, args := #[Operand.tmp 34, Operand.tmp 36], argTypes := #[22, 22] }, type := 22, pos := "law.go:106", after := #[{ on := 2, ground := Ground.data }, { on := 4, ground := Ground.data }, { on := 2, ground := Ground.chain }], guard := none }) rfl (fun K hK => ?_) (AllReadyH.nil)
      skip
      have hbs : wz.heap.size ≤ wa12.heap.size := by first | omega | (simp; omega)
      refine step_append_src rfl (.tmp 34) (.tmp 36) 22 rfl wz.heap.size 33 i0 (.agg #[.int .i64 0, .int .i64 0, .int .i64 0, .int .i64 0, .int .i64 0]) 5 40 Try.underlying22 HI.out.1 HI.out.2.1 HI.out.2.2.1 HI.out.2.2.2 rfl (by decide) (.slice A1 l.length c1) l.length (lv l) rfl HF12.out (wz.heap.size) (some ⟨wz.heap.size, 0, none⟩) 1 1 [.int .i64 y.st, .int .i64 y.we, .int .i64 y.go, .int .i64 y.va, .int .i64 y.ro] rfl rfl (Rd.fresh HB12.out _ rfl) (by simp [Value.oneCell']) (by unfold maxLen; omega) (by omega) hbs ?_
      intro A2 c2 wb13 hc2 hown2 hg2
      have HX13 := Lib.hid (HX12.out.grown hg2 (own_ne HF12.out hxx))
      have HO13 := Lib.hid (HO12.out.append HF12.out hg2 (fun i hi hb => by omega))
      have HF13 := Lib.hid hown2
      clear hown2 hg2
      refine hK.out _ _ ?_ (fun hHeld => ?_)
      · exact ⟨⟨HX13.out.cell 0, HX13.out.cell 1⟩, ⟨HX13.out.cell 2, HX13.out.cell 3⟩, HX13.out.cell 4⟩
      clear hK K
      try simp only [Act.put, List.setIfInBounds_toArray, List.set_cons_zero, List.set_cons_succ]
      refine wpAnyH_ready (rs := [6]) (by kernel_rfl) (by simp) ?_
      refine AllReadyH.cons (o := { dst := some 8, op := Op.assign (Operand.tmp 37), type := 22, pos := "law.go:106", after := #[{ on := 5, ground := Ground.data }, { on := 5, ground := Ground.chain }, { on := 0, ground := Ground.phase }, { on := 1, ground := Ground.phase }, { on := 2, ground := Ground.phase }, { on := 3, ground := Ground.phase }, { on := 4, ground := Ground.phase }, { on := 5, ground := Ground.phase }], guard := none }) rfl (fun K hK => ?_) (AllReadyH.nil)
      skip
      go_simp
      refine hK.out _ _ ?_ (fun hHeld => ?_)
      · exact ⟨⟨HX13.out.cell 0, HX13.out.cell 1⟩, ⟨HX13.out.cell 2, HX13.out.cell 3⟩, HX13.out.cell 4⟩
      clear hK K
      try simp only [Act.put, List.setIfInBounds_toArray, List.set_cons_zero, List.set_cons_succ]
      refine wpAnyH_done (by kernel_rfl) ?_ _
      have HXF := Lib.hid HX13.out
      have HOF := Lib.hid HO13.out
      obtain ⟨gF, hgF, hrF⟩ := own_row HF13.out (by simp [Ln.cells, lv])
      have HRF := Lib.hid hrF
      clear hrF
      go_wp2_with (fail)
      go_meet
      exact ⟨A2, c2, gF, rfl, by rw [lv_app, lv_single]; exact HRF.out, HOF.out⟩
  case rest =>
  obtain ⟨A2, c2, g2, rfl, hrM, hO⟩ := hcut
  have HRM := Lib.hid hrM
  have HOM := Lib.hid hO
  clear hrM hO HXd HOd HRd hxx
  have hml : (l ++ [y]).length = l.length + 1 := by simp
  have HP1 := Lib.hid (fun W (o : Only (fun _ => False) w W) => pick_any g c A l W (by omega) (HR.out.only o id))
  have HP2 := Lib.hid (fun W (o : Only (fun _ => False) wc W) => pick_any g2 c2 A2 (l ++ [y]) W (by omega) (HRM.out.only o id))
  have HQ1 := Lib.hid (fun W (o : Only (fun _ => False) w W) => order_any g c A l W (by omega) (HR.out.only o id))
  have HQ2 := Lib.hid (fun W (o : Only (fun _ => False) wc W) => order_any g2 c2 A2 (l ++ [y]) W (by omega) (HRM.out.only o id))
  have HG2 := Lib.hid (fun W (o : Only (fun _ => False) wc W) => gain_any g2 c2 A2 (l ++ [y]) (l.length : Int) W (HRM.out.only o id))
  rw [pk_more l y HY.out] at HP2
  rw [gain_more l y HY.out] at HG2
  rw [hml] at HP2 HG2
  have HSM : Hid (∀ d1 d2 : List Nat, d1.Perm (mayL l l.length) → So l d1 0 d1.length → d2.Perm (mayL (l ++ [y]) (l ++ [y]).length) → So (l ++ [y]) d2 0 d2.length → d2 = d1) := Lib.hid (fun d1 d2 h1 h2 h3 h4 => by
    rw [mayL_more l y HY.out] at h3
    exact ord_one h3 (so_more l y d2 (fun e he => ((mem_mayL l e _).1 (h3.mem_iff.1 he)).1) h4) h1 h2)
  have HML := Lib.hid hml
  rw [hml] at HQ2
  generalize max (pk l l.length) 0 = b2 at *
  generalize decide (0 ≤ pk l l.length) = t at *
  clear hml
  obtain ⟨wM, hwM⟩ : ∃ wM, wM = wc := ⟨_, rfl⟩
  subst hwM
  go_wp2_with (fail)
  refine (HP1.out _ HOM.out).mono ?_
  rintro e w2 ⟨rfl, hO⟩
  have HO2 := Lib.hid hO
  clear hO
  go_wp2_with (fail)
  refine (HP2.out _ HO2.out).mono ?_
  rintro e w3 ⟨rfl, hO⟩
  have HO3 := Lib.hid (HO2.out.trans hO)
  clear hO
  go_wp2_with (fail)
  refine (HQ1.out _ (HOM.out.trans HO3.out)).mono ?_
  rintro e w4 ⟨A4, c4, g4, d4, rfl, hr4, hp4, hs4, hO⟩
  have HO4 := Lib.hid (HO3.out.trans hO)
  have HR4 := Lib.hid hr4
  have H4 := Lib.hid (And.intro hp4 hs4)
  clear hO hr4 hp4 hs4
  go_wp2_with (fail)
  refine (HQ2.out _ HO4.out).mono ?_
  rintro e w5 ⟨A5, c5, g5, d5, rfl, hr5, hp5, hs5, hO⟩
  have he := HSM.out d4 d5 H4.out.1 H4.out.2 hp5 hs5
  subst he
  have HO5 := Lib.hid (HO4.out.trans hO)
  have HS := Lib.hid (same_any d5 A4 A5 c4 c5 g4 g5 w5 (HR4.out.only hO (fun _ => id)) hr5)
  clear hO hr5 hp5 hs5
  go_wp2_with (fail)
  refine HS.out.mono ?_
  rintro e w6 ⟨rfl, hO⟩
  have HO6 := Lib.hid (HO5.out.trans hO)
  have tb : ((b2 : Int) == b2) = true := by simp
  have tt : (t == t) = true := by simp
  clear hO HS
  go_wp2_with (fail)
  refine (HG2.out _ HO6.out).mono ?_
  rintro e w7 ⟨rfl, hO⟩
  have HO7 := Lib.hid (HOM.out.trans (HO6.out.trans hO))
  clear hO
  go_wp2
  go_ret
  exact ⟨by simp, HO7.out.below (Nat.le_refl _) (fun _ _ h => h)⟩
end Go.Proofs.Ytbcjpchjidgpeaa
