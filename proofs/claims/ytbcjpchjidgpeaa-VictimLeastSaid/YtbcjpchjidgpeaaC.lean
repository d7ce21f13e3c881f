/- Victim: the contract of Pick. -/
import Derived.Test.YtbcjpchjidgpeaaB
import Derived.Deep.RegionHeld3
namespace Go.Proofs.Ytbcjpchjidgpeaa
open Go.RowKit

theorem LnAt.only {S : Nat → Prop} {w w' : World} {g o : Nat} {x : Ln} (h : LnAt w g o x) (k : Only S w w') (hg : ¬ S g) : LnAt w' g o x := by
  have hlt := World.block_lt_of_cell? _ _ h.c0
  exact ⟨(k.cell (p := ⟨g, o, none⟩) hlt hg).trans h.c0, (k.cell (p := ⟨g, o + 1, none⟩) hlt hg).trans h.c1, (k.cell (p := ⟨g, o + 2, none⟩) hlt hg).trans h.c2, (k.cell (p := ⟨g, o + 3, none⟩) hlt hg).trans h.c3, (k.cell (p := ⟨g, o + 4, none⟩) hlt hg).trans h.c4⟩


/-- Which line is best of the first i: its number, or -1. -/
def pk (l : List Ln) : Nat → Int
  | 0 => -1
  | i + 1 => match l[i]? with
    | some x => if x.may = true ∧ (pk l i < 0 ∨ ∃ y, l[(pk l i).toNat]? = some y ∧ heldI x y < 0) then (i : Int) else pk l i
    | none => pk l i

theorem pk_bd (l : List Ln) (i : Nat) : -1 ≤ pk l i ∧ pk l i < i := by
  induction i with
  | zero => simp [pk]
  | succ i ih =>
    unfold pk
    split
    · split <;> omega
    · omega

theorem pk_lt (l : List Ln) (i : Nat) (hi : i ≤ l.length) : pk l i < l.length := by
  have := (pk_bd l i).2; omega

set_option maxRecDepth 100000 in
set_option maxHeartbeats 2000000 in
theorem pick_walk (g off c : Nat) (l : List Ln) (w : World) (hlen : l.length ≤ 1000000) (hg : g < w.heap.size) (hc : ∀ (j : Nat) (u : Value), (lv l)[j]? = some u → w.cell? ⟨g, off + j, none⟩ = some u) :
    Calls Try.prog 10 #[.slice (some ⟨g, off, none⟩) l.length c] w fun e w' => e = .returned (.tuple #[.int .i64 (max (pk l l.length) 0), .bool (decide (0 ≤ pk l l.length))]) ∧ Only (fun _ => False) w w' := by
  have HC := Lib.hid hc
  clear hc
  go_enter Try.func10, Try.ntmps10
  go_wp2
  go_loopw [4, 9] (fun b v wr => ∃ i : Nat, i ≤ l.length ∧ v = .int .i64 i ∧ b = .int .i64 (pk l i) ∧ Only (fun _ => False) w wr) (fun _ v _ => l.length - (intOf v).toNat)
  case atStart => exact ⟨0, by omega, rfl, rfl, Only.refl _ _⟩
  case round =>
    obtain ⟨i, hi, rfl, rfl, hO⟩ := hrel
    by_cases h1 : i < l.length
    · have hx := LnAt.of HC.out i h1
      obtain ⟨x, hxe⟩ : ∃ x, l[i] = x := ⟨_, rfl⟩
      rw [hxe] at hx
      have k0 := (hO.cell (p := ⟨g, off + i * 5, none⟩) hg id).trans hx.c0
      have k1 := (hO.cell (p := ⟨g, off + i * 5 + 1, none⟩) hg id).trans hx.c1
      have k2 := (hO.cell (p := ⟨g, off + i * 5 + 2, none⟩) hg id).trans hx.c2
      have k3 := (hO.cell (p := ⟨g, off + i * 5 + 3, none⟩) hg id).trans hx.c3
      have k4 := (hO.cell (p := ⟨g, off + i * 5 + 4, none⟩) hg id).trans hx.c4
      have HX := Lib.hid hxe
      have HO := Lib.hid hO
      clear hx hxe hO
      have hb := pk_bd l i
      generalize hpk : pk l i = b at *
      have HP := Lib.hid hpk
      clear hpk
      go_wp2_with (fail)
      have hbox : LnAt (wr.alloc (.cells #[.int .i64 x.st, .int .i64 x.we, .int .i64 x.go, .int .i64 x.va, .int .i64 x.ro] 33)) wr.heap.size 0 x := by
        have q := At.new wr 33 #[.int .i64 x.st, .int .i64 x.we, .int .i64 x.go, .int .i64 x.va, .int .i64 x.ro]
        exact ⟨q.cell 0, q.cell 1, q.cell 2, q.cell 3, q.cell 4⟩
      obtain ⟨B, hB⟩ : ∃ B, B = wr.heap.size := ⟨_, rfl⟩
      obtain ⟨W0, hW0⟩ : ∃ W0, W0 = wr.alloc (.cells #[.int .i64 x.st, .int .i64 x.we, .int .i64 x.go, .int .i64 x.va, .int .i64 x.ro] 33) := ⟨_, rfl⟩
      have hO0 : Only (fun _ => False) w W0 := by rw [hW0]; exact HO.out.alloc _
      rw [← hB, ← hW0] at hbox
      rw [← hB, ← hW0]
      have HO0 := Lib.hid hO0
      have Hbox := Lib.hid hbox
      obtain ⟨z0, z1, z2, z3, z4⟩ := hbox
      simp only [Nat.zero_add] at z1 z2 z3 z4
      clear k0 k1 k2 k3 k4 hO0 hW0 hB HO
      have hne := HX.out
      by_cases hm : x.may = true
      · have hc := fun w => may_any x w
        rw [hm] at hc
        have Hc := Lib.hid hc
        have Hm := Lib.hid hm
        clear hc hm
        by_cases hb0 : b < 0
        · have Hnew : Hid (pk l (i + 1) = (i : Int)) := by
            show pk l (i + 1) = (i : Int)
            simp only [pk]
            rw [List.getElem?_eq_getElem h1, hne, HP.out]
            simp only
            rw [if_pos ⟨Hm.out, .inl hb0⟩]
          clear hne
          refine wp_region_held_drew (S := (fun W => W.cell? ⟨B, 0, none⟩ = some (.int .i64 x.st) ∧ W.cell? ⟨B, 1, none⟩ = some (.int .i64 x.we) ∧ W.cell? ⟨B, 2, none⟩ = some (.int .i64 x.go) ∧ W.cell? ⟨B, 3, none⟩ = some (.int .i64 x.va) ∧ W.cell? ⟨B, 4, none⟩ = some (.int .i64 x.ro))) (by kernel_rfl) ?_ (fun hHeld => ?_)
          · exact ⟨z0, z1, z2, z3, z4⟩
          refine wpAnyH_take (i := 0) (oi := { dst := some 14, op := Op.load 33 (Operand.tmp 6), type := 33, pos := "victim.go:67", after := #[], guard := none }) (v := ?_) rfl (by kernel_rfl) (by kernel_rfl) (by kernel_rfl) (fun _ _ _ h => h) (Or.inl ⟨by rfl, ?_⟩) (by assumption) ?_
          rotate_left
          · (intro w hSw; (try dsimp only at hSw); (try obtain ⟨hSa, hSb⟩ := hSw); go_simp; try with_reducible rfl)
          try simp only [Act.put, List.setIfInBounds_toArray, List.set_cons_zero, List.set_cons_succ]
          refine wpAnyH_ready (rs := [1]) (by kernel_rfl) (by simp) ?_
          refine AllReadyH.cons (o := { dst := some 15, op := Op.call { callee := Callee.value (Operand.func 17), args := #[Operand.tmp 14], argTypes := #[33] }, type := 4, pos := "victim.go:67", after := #[{ on := 0, ground := Ground.data }], guard := none }) rfl (fun K hK => ?_) AllReadyH.nil
          go_simp
          (go_at_call 17; refine (Hc.out _).mono ?_; rintro e w1 ⟨rfl, hO⟩)
          have hO1 : Only (fun _ => False) W0 w1 := ((Only.refl (fun _ => False) W0).drew).trans hO
          obtain ⟨e0, e1, e2, e3, e4⟩ := Hbox.out.only hO1 id
          simp only [Nat.zero_add] at e1 e2 e3 e4
          have HO1 := Lib.hid hO1
          clear hO hO1
          refine hK.out _ _ ?_ (fun hHeld => ?_)
          · exact ⟨e0, e1, e2, e3, e4⟩
          clear hK K
          try simp only [Act.put, List.setIfInBounds_toArray, List.set_cons_zero, List.set_cons_succ]
          refine wpAnyH_take (i := 2) (oi := { dst := some 16, op := Op.move (Operand.tmp 15), type := 4, pos := "victim.go:67", after := #[{ on := 1, ground := Ground.data }, { on := 1, ground := Ground.chain }], guard := none }) (v := ?_) rfl (by kernel_rfl) (by kernel_rfl) (by kernel_rfl) (fun _ _ _ h => h) (Or.inl ⟨by rfl, ?_⟩) (by assumption) ?_
          rotate_left
          · (intro w hSw; (try dsimp only at hSw); (try obtain ⟨hSa, hSb⟩ := hSw); go_simp; try with_reducible rfl)
          try simp only [Act.put, List.setIfInBounds_toArray, List.set_cons_zero, List.set_cons_succ]
          refine wpAnyH_take (i := 3) (oi := { dst := some 17, op := Op.move (Operand.tmp 4), type := 3, pos := "victim.go:67", after := #[{ on := 2, ground := Ground.guard }], guard := some (2, true) }) (v := ?_) rfl (by kernel_rfl) (by kernel_rfl) (by kernel_rfl) (fun _ _ _ h => h) (Or.inl ⟨by rfl, ?_⟩) (by assumption) ?_
          rotate_left
          · (intro w hSw; (try dsimp only at hSw); (try obtain ⟨hSa, hSb⟩ := hSw); go_simp; try with_reducible rfl)
          try simp only [Act.put, List.setIfInBounds_toArray, List.set_cons_zero, List.set_cons_succ]
          refine wpAnyH_take (i := 4) (oi := { dst := some 18, op := Op.binOp BinOp.lss 3 (Operand.tmp 17) (Operand.const (Value.int IntKind.i64 0)) 3, type := 4, pos := "victim.go:67", after := #[{ on := 3, ground := Ground.data }, { on := 2, ground := Ground.guard }], guard := some (2, true) }) (v := ?_) rfl (by kernel_rfl) (by kernel_rfl) (by kernel_rfl) (fun _ _ _ h => h) (Or.inl ⟨by rfl, ?_⟩) (by assumption) ?_
          rotate_left
          · (intro w hSw; (try dsimp only at hSw); (try obtain ⟨hSa, hSb⟩ := hSw); go_simp; try with_reducible rfl)
          try simp only [Act.put, List.setIfInBounds_toArray, List.set_cons_zero, List.set_cons_succ]
          refine wpAnyH_take (i := 5) (oi := { dst := some 19, op := Op.move (Operand.tmp 18), type := 4, pos := "victim.go:67", after := #[{ on := 4, ground := Ground.data }, { on := 2, ground := Ground.chain }, { on := 2, ground := Ground.guard }], guard := some (2, true) }) (v := ?_) rfl (by kernel_rfl) (by kernel_rfl) (by kernel_rfl) (fun _ _ _ h => h) (Or.inl ⟨by rfl, ?_⟩) (by assumption) ?_
          rotate_left
          · (intro w hSw; (try dsimp only at hSw); (try obtain ⟨hSa, hSb⟩ := hSw); go_simp; try with_reducible rfl)
          try simp only [Act.put, List.setIfInBounds_toArray, List.set_cons_zero, List.set_cons_succ]
          refine wpAnyH_take (i := 6) (oi := { dst := some 20, op := Op.load 33 (Operand.tmp 6), type := 33, pos := "victim.go:67", after := #[{ on := 5, ground := Ground.guard }], guard := some (5, false) }) (v := undef) rfl (by kernel_rfl) (by kernel_rfl) (by kernel_rfl) (fun _ _ _ h => h) (Or.inr ⟨by rfl, rfl⟩) (by assumption) ?_
          try simp only [Act.put, List.setIfInBounds_toArray, List.set_cons_zero, List.set_cons_succ]
          refine wpAnyH_take (i := 7) (oi := { dst := some 21, op := Op.move (Operand.tmp 0), type := 22, pos := "victim.go:67", after := #[{ on := 5, ground := Ground.guard }], guard := some (5, false) }) (v := undef) rfl (by kernel_rfl) (by kernel_rfl) (by kernel_rfl) (fun _ _ _ h => h) (Or.inr ⟨by rfl, rfl⟩) (by assumption) ?_
          try simp only [Act.put, List.setIfInBounds_toArray, List.set_cons_zero, List.set_cons_succ]
          refine wpAnyH_take (i := 8) (oi := { dst := some 22, op := Op.move (Operand.tmp 4), type := 3, pos := "victim.go:67", after := #[{ on := 5, ground := Ground.guard }], guard := some (5, false) }) (v := undef) rfl (by kernel_rfl) (by kernel_rfl) (by kernel_rfl) (fun _ _ _ h => h) (Or.inr ⟨by rfl, rfl⟩) (by assumption) ?_
          try simp only [Act.put, List.setIfInBounds_toArray, List.set_cons_zero, List.set_cons_succ]
          refine wpAnyH_take (i := 9) (oi := { dst := some 23, op := Op.indexAddr 22 (Operand.tmp 21) (Operand.tmp 22), type := 0, pos := "victim.go:67", after := #[{ on := 7, ground := Ground.data }, { on := 8, ground := Ground.data }, { on := 5, ground := Ground.guard }], guard := some (5, false) }) (v := undef) rfl (by kernel_rfl) (by kernel_rfl) (by kernel_rfl) (fun _ _ _ h => h) (Or.inr ⟨by rfl, rfl⟩) (by assumption) ?_
          try simp only [Act.put, List.setIfInBounds_toArray, List.set_cons_zero, List.set_cons_succ]
          refine wpAnyH_take (i := 10) (oi := { dst := some 24, op := Op.load 33 (Operand.tmp 23), type := 33, pos := "victim.go:67", after := #[{ on := 9, ground := Ground.data }, { on := 5, ground := Ground.guard }], guard := some (5, false) }) (v := undef) rfl (by kernel_rfl) (by kernel_rfl) (by kernel_rfl) (fun _ _ _ h => h) (Or.inr ⟨by rfl, rfl⟩) (by assumption) ?_
          try simp only [Act.put, List.setIfInBounds_toArray, List.set_cons_zero, List.set_cons_succ]
          refine wpAnyH_take (i := 11) (oi := { dst := some 25, op := Op.call { callee := Callee.value (Operand.func 18), args := #[Operand.tmp 20, Operand.tmp 24], argTypes := #[33, 33] }, type := 3, pos := "victim.go:67", after := #[{ on := 6, ground := Ground.data }, { on := 10, ground := Ground.data }, { on := 5, ground := Ground.chain }, { on := 5, ground := Ground.guard }], guard := some (5, false) }) (v := undef) rfl (by kernel_rfl) (by kernel_rfl) (by kernel_rfl) (fun _ _ _ h => h) (Or.inr ⟨by rfl, rfl⟩) (by assumption) ?_
          try simp only [Act.put, List.setIfInBounds_toArray, List.set_cons_zero, List.set_cons_succ]
          refine wpAnyH_take (i := 12) (oi := { dst := some 26, op := Op.binOp BinOp.lss 3 (Operand.tmp 25) (Operand.const (Value.int IntKind.i64 0)) 3, type := 4, pos := "victim.go:67", after := #[{ on := 11, ground := Ground.data }, { on := 5, ground := Ground.guard }], guard := some (5, false) }) (v := undef) rfl (by kernel_rfl) (by kernel_rfl) (by kernel_rfl) (fun _ _ _ h => h) (Or.inr ⟨by rfl, rfl⟩) (by assumption) ?_
          try simp only [Act.put, List.setIfInBounds_toArray, List.set_cons_zero, List.set_cons_succ]
          refine wpAnyH_take (i := 13) (oi := { dst := some 27, op := Op.pick (Operand.tmp 19) (Operand.const (Value.bool true)) (Operand.tmp 26), type := 4, pos := "victim.go:67", after := #[{ on := 5, ground := Ground.data }, { on := 12, ground := Ground.data }, { on := 2, ground := Ground.guard }], guard := some (2, true) }) (v := ?_) rfl (by kernel_rfl) (by kernel_rfl) (by kernel_rfl) (fun _ _ _ h => h) (Or.inl ⟨by rfl, ?_⟩) (by assumption) ?_
          rotate_left
          · (intro w hSw; (try dsimp only at hSw); (try obtain ⟨hSa, hSb⟩ := hSw); go_simp; try with_reducible rfl)
          try simp only [Act.put, List.setIfInBounds_toArray, List.set_cons_zero, List.set_cons_succ]
          refine wpAnyH_take (i := 14) (oi := { dst := some 28, op := Op.pick (Operand.tmp 16) (Operand.tmp 27) (Operand.const (Value.bool false)), type := 4, pos := "victim.go:67", after := #[{ on := 2, ground := Ground.data }, { on := 13, ground := Ground.data }], guard := none }) (v := ?_) rfl (by kernel_rfl) (by kernel_rfl) (by kernel_rfl) (fun _ _ _ h => h) (Or.inl ⟨by rfl, ?_⟩) (by assumption) ?_
          rotate_left
          · (intro w hSw; (try dsimp only at hSw); (try obtain ⟨hSa, hSb⟩ := hSw); go_simp; try with_reducible rfl)
          try simp only [Act.put, List.setIfInBounds_toArray, List.set_cons_zero, List.set_cons_succ]
          refine wpAnyH_done (by kernel_rfl) ?_ _
          go_wp2
          go_roundw
          case rel => exact ⟨i + 1, by omega, by go_num, by rw [Hnew.out], HO0.out.trans HO1.out⟩
          case measure => simp [intOf]; omega
        · obtain ⟨bn, rfl⟩ := Int.eq_ofNat_of_zero_le (show 0 ≤ b by omega)
          have hbn : bn < l.length := by omega
          obtain ⟨y, hy⟩ : ∃ y, l[bn] = y := ⟨_, rfl⟩
          have hY : LnAt W0 g (off + bn * 5) y := by
            have := (LnAt.of HC.out bn hbn).only HO0.out id
            rwa [hy] at this
          have HY := Lib.hid hY
          obtain ⟨y0, y1, y2, y3, y4⟩ := hY
          have j1 : (0 : Int) ≤ (bn : Int) := by omega
          have j2 : (bn : Int) < (l.length : Int) := by omega
          have hd := fun w => held_any x y w
          by_cases hh : heldI x y < 0
          · have Hnew : Hid (pk l (i + 1) = (i : Int)) := by
              show pk l (i + 1) = (i : Int)
              simp only [pk]
              rw [List.getElem?_eq_getElem h1, hne, HP.out]
              simp only
              rw [if_pos ⟨Hm.out, .inr ⟨y, by simp [hbn, hy], hh⟩⟩]
            generalize heldI x y = hv at *
            have Hd := Lib.hid hd
            clear hd hy hne
            refine wp_region_held_drew (S := (fun W => W.cell? ⟨B, 0, none⟩ = some (.int .i64 x.st) ∧ W.cell? ⟨B, 1, none⟩ = some (.int .i64 x.we) ∧ W.cell? ⟨B, 2, none⟩ = some (.int .i64 x.go) ∧ W.cell? ⟨B, 3, none⟩ = some (.int .i64 x.va) ∧ W.cell? ⟨B, 4, none⟩ = some (.int .i64 x.ro) ∧ W.cell? ⟨g, off + bn * 5, none⟩ = some (.int .i64 y.st) ∧ W.cell? ⟨g, off + bn * 5 + 1, none⟩ = some (.int .i64 y.we) ∧ W.cell? ⟨g, off + bn * 5 + 2, none⟩ = some (.int .i64 y.go) ∧ W.cell? ⟨g, off + bn * 5 + 3, none⟩ = some (.int .i64 y.va) ∧ W.cell? ⟨g, off + bn * 5 + 4, none⟩ = some (.int .i64 y.ro))) (by kernel_rfl) ?_ (fun hHeld => ?_)
            · exact ⟨z0, z1, z2, z3, z4, y0, y1, y2, y3, y4⟩
            refine wpAnyH_take (i := 0) (oi := { dst := some 14, op := Op.load 33 (Operand.tmp 6), type := 33, pos := "victim.go:67", after := #[], guard := none }) (v := ?_) rfl (by kernel_rfl) (by kernel_rfl) (by kernel_rfl) (fun _ _ _ h => h) (Or.inl ⟨by rfl, ?_⟩) (by assumption) ?_
            rotate_left
            · (intro w hSw; (try dsimp only at hSw); (try obtain ⟨hSa, hSb⟩ := hSw); go_simp; try with_reducible rfl)
            try simp only [Act.put, List.setIfInBounds_toArray, List.set_cons_zero, List.set_cons_succ]
            refine wpAnyH_ready (rs := [1]) (by kernel_rfl) (by simp) ?_
            refine AllReadyH.cons (o := { dst := some 15, op := Op.call { callee := Callee.value (Operand.func 17), args := #[Operand.tmp 14], argTypes := #[33] }, type := 4, pos := "victim.go:67", after := #[{ on := 0, ground := Ground.data }], guard := none }) rfl (fun K hK => ?_) AllReadyH.nil
            go_simp
            (go_at_call 17; refine (Hc.out _).mono ?_; rintro e w1 ⟨rfl, hO⟩)
            have hO1 : Only (fun _ => False) W0 w1 := ((Only.refl (fun _ => False) W0).drew).trans hO
            obtain ⟨e0, e1, e2, e3, e4⟩ := Hbox.out.only hO1 id
            simp only [Nat.zero_add] at e1 e2 e3 e4
            obtain ⟨f0, f1, f2, f3, f4⟩ := HY.out.only hO1 id
            have HO1 := Lib.hid hO1
            clear hO hO1
            refine hK.out _ _ ?_ (fun hHeld => ?_)
            · exact ⟨e0, e1, e2, e3, e4, f0, f1, f2, f3, f4⟩
            clear hK K
            try simp only [Act.put, List.setIfInBounds_toArray, List.set_cons_zero, List.set_cons_succ]
            refine wpAnyH_take (i := 2) (oi := { dst := some 16, op := Op.move (Operand.tmp 15), type := 4, pos := "victim.go:67", after := #[{ on := 1, ground := Ground.data }, { on := 1, ground := Ground.chain }], guard := none }) (v := ?_) rfl (by kernel_rfl) (by kernel_rfl) (by kernel_rfl) (fun _ _ _ h => h) (Or.inl ⟨by rfl, ?_⟩) (by assumption) ?_
            rotate_left
            · (intro w hSw; (try dsimp only at hSw); (try obtain ⟨hSa, hSb⟩ := hSw); go_simp; try with_reducible rfl)
            try simp only [Act.put, List.setIfInBounds_toArray, List.set_cons_zero, List.set_cons_succ]
            refine wpAnyH_take (i := 3) (oi := { dst := some 17, op := Op.move (Operand.tmp 4), type := 3, pos := "victim.go:67", after := #[{ on := 2, ground := Ground.guard }], guard := some (2, true) }) (v := ?_) rfl (by kernel_rfl) (by kernel_rfl) (by kernel_rfl) (fun _ _ _ h => h) (Or.inl ⟨by rfl, ?_⟩) (by assumption) ?_
            rotate_left
            · (intro w hSw; (try dsimp only at hSw); (try obtain ⟨hSa, hSb⟩ := hSw); go_simp; try with_reducible rfl)
            try simp only [Act.put, List.setIfInBounds_toArray, List.set_cons_zero, List.set_cons_succ]
            refine wpAnyH_take (i := 4) (oi := { dst := some 18, op := Op.binOp BinOp.lss 3 (Operand.tmp 17) (Operand.const (Value.int IntKind.i64 0)) 3, type := 4, pos := "victim.go:67", after := #[{ on := 3, ground := Ground.data }, { on := 2, ground := Ground.guard }], guard := some (2, true) }) (v := ?_) rfl (by kernel_rfl) (by kernel_rfl) (by kernel_rfl) (fun _ _ _ h => h) (Or.inl ⟨by rfl, ?_⟩) (by assumption) ?_
            rotate_left
            · (intro w hSw; (try dsimp only at hSw); (try obtain ⟨hSa, hSb⟩ := hSw); go_simp; try with_reducible rfl)
            try simp only [Act.put, List.setIfInBounds_toArray, List.set_cons_zero, List.set_cons_succ]
            refine wpAnyH_take (i := 5) (oi := { dst := some 19, op := Op.move (Operand.tmp 18), type := 4, pos := "victim.go:67", after := #[{ on := 4, ground := Ground.data }, { on := 2, ground := Ground.chain }, { on := 2, ground := Ground.guard }], guard := some (2, true) }) (v := ?_) rfl (by kernel_rfl) (by kernel_rfl) (by kernel_rfl) (fun _ _ _ h => h) (Or.inl ⟨by rfl, ?_⟩) (by assumption) ?_
            rotate_left
            · (intro w hSw; (try dsimp only at hSw); (try obtain ⟨hSa, hSb⟩ := hSw); go_simp; try with_reducible rfl)
            try simp only [Act.put, List.setIfInBounds_toArray, List.set_cons_zero, List.set_cons_succ]
            refine wpAnyH_take (i := 6) (oi := { dst := some 20, op := Op.load 33 (Operand.tmp 6), type := 33, pos := "victim.go:67", after := #[{ on := 5, ground := Ground.guard }], guard := some (5, false) }) (v := ?_) rfl (by kernel_rfl) (by kernel_rfl) (by kernel_rfl) (fun _ _ _ h => h) (Or.inl ⟨by rfl, ?_⟩) (by assumption) ?_
            rotate_left
            · (intro w hSw; (try dsimp only at hSw); (try obtain ⟨hSa, hSb⟩ := hSw); go_simp; try with_reducible rfl)
            try simp only [Act.put, List.setIfInBounds_toArray, List.set_cons_zero, List.set_cons_succ]
            refine wpAnyH_take (i := 7) (oi := { dst := some 21, op := Op.move (Operand.tmp 0), type := 22, pos := "victim.go:67", after := #[{ on := 5, ground := Ground.guard }], guard := some (5, false) }) (v := ?_) rfl (by kernel_rfl) (by kernel_rfl) (by kernel_rfl) (fun _ _ _ h => h) (Or.inl ⟨by rfl, ?_⟩) (by assumption) ?_
            rotate_left
            · (intro w hSw; (try dsimp only at hSw); (try obtain ⟨hSa, hSb⟩ := hSw); go_simp; try with_reducible rfl)
            try simp only [Act.put, List.setIfInBounds_toArray, List.set_cons_zero, List.set_cons_succ]
            refine wpAnyH_take (i := 8) (oi := { dst := some 22, op := Op.move (Operand.tmp 4), type := 3, pos := "victim.go:67", after := #[{ on := 5, ground := Ground.guard }], guard := some (5, false) }) (v := ?_) rfl (by kernel_rfl) (by kernel_rfl) (by kernel_rfl) (fun _ _ _ h => h) (Or.inl ⟨by rfl, ?_⟩) (by assumption) ?_
            rotate_left
            · (intro w hSw; (try dsimp only at hSw); (try obtain ⟨hSa, hSb⟩ := hSw); go_simp; try with_reducible rfl)
            try simp only [Act.put, List.setIfInBounds_toArray, List.set_cons_zero, List.set_cons_succ]
            refine wpAnyH_take (i := 9) (oi := { dst := some 23, op := Op.indexAddr 22 (Operand.tmp 21) (Operand.tmp 22), type := 0, pos := "victim.go:67", after := #[{ on := 7, ground := Ground.data }, { on := 8, ground := Ground.data }, { on := 5, ground := Ground.guard }], guard := some (5, false) }) (v := ?_) rfl (by kernel_rfl) (by kernel_rfl) (by kernel_rfl) (fun _ _ _ h => h) (Or.inl ⟨by rfl, ?_⟩) (by assumption) ?_
            rotate_left
            · (intro w hSw; (try dsimp only at hSw); (try obtain ⟨hSa, hSb⟩ := hSw); go_simp; try with_reducible rfl)
            try simp only [Act.put, List.setIfInBounds_toArray, List.set_cons_zero, List.set_cons_succ]
            refine wpAnyH_take (i := 10) (oi := { dst := some 24, op := Op.load 33 (Operand.tmp 23), type := 33, pos := "victim.go:67", after := #[{ on := 9, ground := Ground.data }, { on := 5, ground := Ground.guard }], guard := some (5, false) }) (v := ?_) rfl (by kernel_rfl) (by kernel_rfl) (by kernel_rfl) (fun _ _ _ h => h) (Or.inl ⟨by rfl, ?_⟩) (by assumption) ?_
            rotate_left
            · (intro w hSw; (try dsimp only at hSw); (try obtain ⟨hSa, hSb⟩ := hSw); go_simp; try with_reducible rfl)
            try simp only [Act.put, List.setIfInBounds_toArray, List.set_cons_zero, List.set_cons_succ]
            refine wpAnyH_ready (rs := [11]) (by kernel_rfl) (by simp) ?_
            refine AllReadyH.cons (o := { dst := some 25, op := Op.call { callee := Callee.value (Operand.func 18), args := #[Operand.tmp 20, Operand.tmp 24], argTypes := #[33, 33] }, type := 3, pos := "victim.go:67", after := #[{ on := 6, ground := Ground.data }, { on := 10, ground := Ground.data }, { on := 5, ground := Ground.chain }, { on := 5, ground := Ground.guard }], guard := some (5, false) }) rfl (fun K hK => ?_) AllReadyH.nil
            go_simp
            (go_at_call 18; refine (Hd.out _).mono ?_; rintro e w2 ⟨rfl, hO⟩)
            have hO2 : Only (fun _ => False) W0 w2 := HO1.out.trans hO
            obtain ⟨r0, r1, r2, r3, r4⟩ := Hbox.out.only hO2 id
            simp only [Nat.zero_add] at r1 r2 r3 r4
            obtain ⟨s0, s1, s2, s3, s4⟩ := HY.out.only hO2 id
            have HO2 := Lib.hid hO2
            clear hO hO2
            refine hK.out _ _ ?_ (fun hHeld => ?_)
            · exact ⟨r0, r1, r2, r3, r4, s0, s1, s2, s3, s4⟩
            clear hK K
            try simp only [Act.put, List.setIfInBounds_toArray, List.set_cons_zero, List.set_cons_succ]
            refine wpAnyH_take (i := 12) (oi := { dst := some 26, op := Op.binOp BinOp.lss 3 (Operand.tmp 25) (Operand.const (Value.int IntKind.i64 0)) 3, type := 4, pos := "victim.go:67", after := #[{ on := 11, ground := Ground.data }, { on := 5, ground := Ground.guard }], guard := some (5, false) }) (v := ?_) rfl (by kernel_rfl) (by kernel_rfl) (by kernel_rfl) (fun _ _ _ h => h) (Or.inl ⟨by rfl, ?_⟩) (by assumption) ?_
            rotate_left
            · (intro w hSw; (try dsimp only at hSw); (try obtain ⟨hSa, hSb⟩ := hSw); go_simp; try with_reducible rfl)
            try simp only [Act.put, List.setIfInBounds_toArray, List.set_cons_zero, List.set_cons_succ]
            refine wpAnyH_take (i := 13) (oi := { dst := some 27, op := Op.pick (Operand.tmp 19) (Operand.const (Value.bool true)) (Operand.tmp 26), type := 4, pos := "victim.go:67", after := #[{ on := 5, ground := Ground.data }, { on := 12, ground := Ground.data }, { on := 2, ground := Ground.guard }], guard := some (2, true) }) (v := ?_) rfl (by kernel_rfl) (by kernel_rfl) (by kernel_rfl) (fun _ _ _ h => h) (Or.inl ⟨by rfl, ?_⟩) (by assumption) ?_
            rotate_left
            · (intro w hSw; (try dsimp only at hSw); (try obtain ⟨hSa, hSb⟩ := hSw); go_simp; try with_reducible rfl)
            try simp only [Act.put, List.setIfInBounds_toArray, List.set_cons_zero, List.set_cons_succ]
            refine wpAnyH_take (i := 14) (oi := { dst := some 28, op := Op.pick (Operand.tmp 16) (Operand.tmp 27) (Operand.const (Value.bool false)), type := 4, pos := "victim.go:67", after := #[{ on := 2, ground := Ground.data }, { on := 13, ground := Ground.data }], guard := none }) (v := ?_) rfl (by kernel_rfl) (by kernel_rfl) (by kernel_rfl) (fun _ _ _ h => h) (Or.inl ⟨by rfl, ?_⟩) (by assumption) ?_
            rotate_left
            · (intro w hSw; (try dsimp only at hSw); (try obtain ⟨hSa, hSb⟩ := hSw); go_simp; try with_reducible rfl)
            try simp only [Act.put, List.setIfInBounds_toArray, List.set_cons_zero, List.set_cons_succ]
            refine wpAnyH_done (by kernel_rfl) ?_ _
            go_wp2
            go_roundw
            case rel => exact ⟨i + 1, by omega, by go_num, by rw [Hnew.out], HO0.out.trans HO2.out⟩
            case measure => simp [intOf]; omega
          · have Hnew : Hid (pk l (i + 1) = (bn : Int)) := by
              show pk l (i + 1) = (bn : Int)
              simp only [pk]
              rw [List.getElem?_eq_getElem h1, hne, HP.out]
              simp only
              rw [if_neg]
              rintro ⟨_, h | ⟨y', hy', hh'⟩⟩
              · omega
              · simp [hbn, hy] at hy'; subst hy'; exact hh hh'
            generalize heldI x y = hv at *
            have Hd := Lib.hid hd
            clear hd hy hne
            refine wp_region_held_drew (S := (fun W => W.cell? ⟨B, 0, none⟩ = some (.int .i64 x.st) ∧ W.cell? ⟨B, 1, none⟩ = some (.int .i64 x.we) ∧ W.cell? ⟨B, 2, none⟩ = some (.int .i64 x.go) ∧ W.cell? ⟨B, 3, none⟩ = some (.int .i64 x.va) ∧ W.cell? ⟨B, 4, none⟩ = some (.int .i64 x.ro) ∧ W.cell? ⟨g, off + bn * 5, none⟩ = some (.int .i64 y.st) ∧ W.cell? ⟨g, off + bn * 5 + 1, none⟩ = some (.int .i64 y.we) ∧ W.cell? ⟨g, off + bn * 5 + 2, none⟩ = some (.int .i64 y.go) ∧ W.cell? ⟨g, off + bn * 5 + 3, none⟩ = some (.int .i64 y.va) ∧ W.cell? ⟨g, off + bn * 5 + 4, none⟩ = some (.int .i64 y.ro))) (by kernel_rfl) ?_ (fun hHeld => ?_)
            · exact ⟨z0, z1, z2, z3, z4, y0, y1, y2, y3, y4⟩
            refine wpAnyH_take (i := 0) (oi := { dst := some 14, op := Op.load 33 (Operand.tmp 6), type := 33, pos := "victim.go:67", after := #[], guard := none }) (v := ?_) rfl (by kernel_rfl) (by kernel_rfl) (by kernel_rfl) (fun _ _ _ h => h) (Or.inl ⟨by rfl, ?_⟩) (by assumption) ?_
            rotate_left
            · (intro w hSw; (try dsimp only at hSw); (try obtain ⟨hSa, hSb⟩ := hSw); go_simp; try with_reducible rfl)
            try simp only [Act.put, List.setIfInBounds_toArray, List.set_cons_zero, List.set_cons_succ]
            refine wpAnyH_ready (rs := [1]) (by kernel_rfl) (by simp) ?_
            refine AllReadyH.cons (o := { dst := some 15, op := Op.call { callee := Callee.value (Operand.func 17), args := #[Operand.tmp 14], argTypes := #[33] }, type := 4, pos := "victim.go:67", after := #[{ on := 0, ground := Ground.data }], guard := none }) rfl (fun K hK => ?_) AllReadyH.nil
            go_simp
            (go_at_call 17; refine (Hc.out _).mono ?_; rintro e w1 ⟨rfl, hO⟩)
            have hO1 : Only (fun _ => False) W0 w1 := ((Only.refl (fun _ => False) W0).drew).trans hO
            obtain ⟨e0, e1, e2, e3, e4⟩ := Hbox.out.only hO1 id
            simp only [Nat.zero_add] at e1 e2 e3 e4
            obtain ⟨f0, f1, f2, f3, f4⟩ := HY.out.only hO1 id
            have HO1 := Lib.hid hO1
            clear hO hO1
            refine hK.out _ _ ?_ (fun hHeld => ?_)
            · exact ⟨e0, e1, e2, e3, e4, f0, f1, f2, f3, f4⟩
            clear hK K
            try simp only [Act.put, List.setIfInBounds_toArray, List.set_cons_zero, List.set_cons_succ]
            refine wpAnyH_take (i := 2) (oi := { dst := some 16, op := Op.move (Operand.tmp 15), type := 4, pos := "victim.go:67", after := #[{ on := 1, ground := Ground.data }, { on := 1, ground := Ground.chain }], guard := none }) (v := ?_) rfl (by kernel_rfl) (by kernel_rfl) (by kernel_rfl) (fun _ _ _ h => h) (Or.inl ⟨by rfl, ?_⟩) (by assumption) ?_
            rotate_left
            · (intro w hSw; (try dsimp only at hSw); (try obtain ⟨hSa, hSb⟩ := hSw); go_simp; try with_reducible rfl)
            try simp only [Act.put, List.setIfInBounds_toArray, List.set_cons_zero, List.set_cons_succ]
            refine wpAnyH_take (i := 3) (oi := { dst := some 17, op := Op.move (Operand.tmp 4), type := 3, pos := "victim.go:67", after := #[{ on := 2, ground := Ground.guard }], guard := some (2, true) }) (v := ?_) rfl (by kernel_rfl) (by kernel_rfl) (by kernel_rfl) (fun _ _ _ h => h) (Or.inl ⟨by rfl, ?_⟩) (by assumption) ?_
            rotate_left
            · (intro w hSw; (try dsimp only at hSw); (try obtain ⟨hSa, hSb⟩ := hSw); go_simp; try with_reducible rfl)
            try simp only [Act.put, List.setIfInBounds_toArray, List.set_cons_zero, List.set_cons_succ]
            refine wpAnyH_take (i := 4) (oi := { dst := some 18, op := Op.binOp BinOp.lss 3 (Operand.tmp 17) (Operand.const (Value.int IntKind.i64 0)) 3, type := 4, pos := "victim.go:67", after := #[{ on := 3, ground := Ground.data }, { on := 2, ground := Ground.guard }], guard := some (2, true) }) (v := ?_) rfl (by kernel_rfl) (by kernel_rfl) (by kernel_rfl) (fun _ _ _ h => h) (Or.inl ⟨by rfl, ?_⟩) (by assumption) ?_
            rotate_left
            · (intro w hSw; (try dsimp only at hSw); (try obtain ⟨hSa, hSb⟩ := hSw); go_simp; try with_reducible rfl)
            try simp only [Act.put, List.setIfInBounds_toArray, List.set_cons_zero, List.set_cons_succ]
            refine wpAnyH_take (i := 5) (oi := { dst := some 19, op := Op.move (Operand.tmp 18), type := 4, pos := "victim.go:67", after := #[{ on := 4, ground := Ground.data }, { on := 2, ground := Ground.chain }, { on := 2, ground := Ground.guard }], guard := some (2, true) }) (v := ?_) rfl (by kernel_rfl) (by kernel_rfl) (by kernel_rfl) (fun _ _ _ h => h) (Or.inl ⟨by rfl, ?_⟩) (by assumption) ?_
            rotate_left
            · (intro w hSw; (try dsimp only at hSw); (try obtain ⟨hSa, hSb⟩ := hSw); go_simp; try with_reducible rfl)
            try simp only [Act.put, List.setIfInBounds_toArray, List.set_cons_zero, List.set_cons_succ]
            refine wpAnyH_take (i := 6) (oi := { dst := some 20, op := Op.load 33 (Operand.tmp 6), type := 33, pos := "victim.go:67", after := #[{ on := 5, ground := Ground.guard }], guard := some (5, false) }) (v := ?_) rfl (by kernel_rfl) (by kernel_rfl) (by kernel_rfl) (fun _ _ _ h => h) (Or.inl ⟨by rfl, ?_⟩) (by assumption) ?_
            rotate_left
            · (intro w hSw; (try dsimp only at hSw); (try obtain ⟨hSa, hSb⟩ := hSw); go_simp; try with_reducible rfl)
            try simp only [Act.put, List.setIfInBounds_toArray, List.set_cons_zero, List.set_cons_succ]
            refine wpAnyH_take (i := 7) (oi := { dst := some 21, op := Op.move (Operand.tmp 0), type := 22, pos := "victim.go:67", after := #[{ on := 5, ground := Ground.guard }], guard := some (5, false) }) (v := ?_) rfl (by kernel_rfl) (by kernel_rfl) (by kernel_rfl) (fun _ _ _ h => h) (Or.inl ⟨by rfl, ?_⟩) (by assumption) ?_
            rotate_left
            · (intro w hSw; (try dsimp only at hSw); (try obtain ⟨hSa, hSb⟩ := hSw); go_simp; try with_reducible rfl)
            try simp only [Act.put, List.setIfInBounds_toArray, List.set_cons_zero, List.set_cons_succ]
            refine wpAnyH_take (i := 8) (oi := { dst := some 22, op := Op.move (Operand.tmp 4), type := 3, pos := "victim.go:67", after := #[{ on := 5, ground := Ground.guard }], guard := some (5, false) }) (v := ?_) rfl (by kernel_rfl) (by kernel_rfl) (by kernel_rfl) (fun _ _ _ h => h) (Or.inl ⟨by rfl, ?_⟩) (by assumption) ?_
            rotate_left
            · (intro w hSw; (try dsimp only at hSw); (try obtain ⟨hSa, hSb⟩ := hSw); go_simp; try with_reducible rfl)
            try simp only [Act.put, List.setIfInBounds_toArray, List.set_cons_zero, List.set_cons_succ]
            refine wpAnyH_take (i := 9) (oi := { dst := some 23, op := Op.indexAddr 22 (Operand.tmp 21) (Operand.tmp 22), type := 0, pos := "victim.go:67", after := #[{ on := 7, ground := Ground.data }, { on := 8, ground := Ground.data }, { on := 5, ground := Ground.guard }], guard := some (5, false) }) (v := ?_) rfl (by kernel_rfl) (by kernel_rfl) (by kernel_rfl) (fun _ _ _ h => h) (Or.inl ⟨by rfl, ?_⟩) (by assumption) ?_
            rotate_left
            · (intro w hSw; (try dsimp only at hSw); (try obtain ⟨hSa, hSb⟩ := hSw); go_simp; try with_reducible rfl)
            try simp only [Act.put, List.setIfInBounds_toArray, List.set_cons_zero, List.set_cons_succ]
            refine wpAnyH_take (i := 10) (oi := { dst := some 24, op := Op.load 33 (Operand.tmp 23), type := 33, pos := "victim.go:67", after := #[{ on := 9, ground := Ground.data }, { on := 5, ground := Ground.guard }], guard := some (5, false) }) (v := ?_) rfl (by kernel_rfl) (by kernel_rfl) (by kernel_rfl) (fun _ _ _ h => h) (Or.inl ⟨by rfl, ?_⟩) (by assumption) ?_
            rotate_left
            · (intro w hSw; (try dsimp only at hSw); (try obtain ⟨hSa, hSb⟩ := hSw); go_simp; try with_reducible rfl)
            try simp only [Act.put, List.setIfInBounds_toArray, List.set_cons_zero, List.set_cons_succ]
            refine wpAnyH_ready (rs := [11]) (by kernel_rfl) (by simp) ?_
            refine AllReadyH.cons (o := { dst := some 25, op := Op.call { callee := Callee.value (Operand.func 18), args := #[Operand.tmp 20, Operand.tmp 24], argTypes := #[33, 33] }, type := 3, pos := "victim.go:67", after := #[{ on := 6, ground := Ground.data }, { on := 10, ground := Ground.data }, { on := 5, ground := Ground.chain }, { on := 5, ground := Ground.guard }], guard := some (5, false) }) rfl (fun K hK => ?_) AllReadyH.nil
            go_simp
            (go_at_call 18; refine (Hd.out _).mono ?_; rintro e w2 ⟨rfl, hO⟩)
            have hO2 : Only (fun _ => False) W0 w2 := HO1.out.trans hO
            obtain ⟨r0, r1, r2, r3, r4⟩ := Hbox.out.only hO2 id
            simp only [Nat.zero_add] at r1 r2 r3 r4
            obtain ⟨s0, s1, s2, s3, s4⟩ := HY.out.only hO2 id
            have HO2 := Lib.hid hO2
            clear hO hO2
            refine hK.out _ _ ?_ (fun hHeld => ?_)
            · exact ⟨r0, r1, r2, r3, r4, s0, s1, s2, s3, s4⟩
            clear hK K
            try simp only [Act.put, List.setIfInBounds_toArray, List.set_cons_zero, List.set_cons_succ]
            refine wpAnyH_take (i := 12) (oi := { dst := some 26, op := Op.binOp BinOp.lss 3 (Operand.tmp 25) (Operand.const (Value.int IntKind.i64 0)) 3, type := 4, pos := "victim.go:67", after := #[{ on := 11, ground := Ground.data }, { on := 5, ground := Ground.guard }], guard := some (5, false) }) (v := ?_) rfl (by kernel_rfl) (by kernel_rfl) (by kernel_rfl) (fun _ _ _ h => h) (Or.inl ⟨by rfl, ?_⟩) (by assumption) ?_
            rotate_left
            · (intro w hSw; (try dsimp only at hSw); (try obtain ⟨hSa, hSb⟩ := hSw); go_simp; try with_reducible rfl)
            try simp only [Act.put, List.setIfInBounds_toArray, List.set_cons_zero, List.set_cons_succ]
            refine wpAnyH_take (i := 13) (oi := { dst := some 27, op := Op.pick (Operand.tmp 19) (Operand.const (Value.bool true)) (Operand.tmp 26), type := 4, pos := "victim.go:67", after := #[{ on := 5, ground := Ground.data }, { on := 12, ground := Ground.data }, { on := 2, ground := Ground.guard }], guard := some (2, true) }) (v := ?_) rfl (by kernel_rfl) (by kernel_rfl) (by kernel_rfl) (fun _ _ _ h => h) (Or.inl ⟨by rfl, ?_⟩) (by assumption) ?_
            rotate_left
            · (intro w hSw; (try dsimp only at hSw); (try obtain ⟨hSa, hSb⟩ := hSw); go_simp; try with_reducible rfl)
            try simp only [Act.put, List.setIfInBounds_toArray, List.set_cons_zero, List.set_cons_succ]
            refine wpAnyH_take (i := 14) (oi := { dst := some 28, op := Op.pick (Operand.tmp 16) (Operand.tmp 27) (Operand.const (Value.bool false)), type := 4, pos := "victim.go:67", after := #[{ on := 2, ground := Ground.data }, { on := 13, ground := Ground.data }], guard := none }) (v := ?_) rfl (by kernel_rfl) (by kernel_rfl) (by kernel_rfl) (fun _ _ _ h => h) (Or.inl ⟨by rfl, ?_⟩) (by assumption) ?_
            rotate_left
            · (intro w hSw; (try dsimp only at hSw); (try obtain ⟨hSa, hSb⟩ := hSw); go_simp; try with_reducible rfl)
            try simp only [Act.put, List.setIfInBounds_toArray, List.set_cons_zero, List.set_cons_succ]
            refine wpAnyH_done (by kernel_rfl) ?_ _
            go_wp2
            go_roundw
            case rel => exact ⟨i + 1, by omega, by go_num, by rw [Hnew.out], HO0.out.trans HO2.out⟩
            case measure => simp [intOf]; omega
      · have hm' : x.may = false := by simpa using hm
        have Hnew : Hid (pk l (i + 1) = b) := by
          show pk l (i + 1) = b
          simp only [pk]
          rw [List.getElem?_eq_getElem h1, hne, HP.out]
          simp only
          rw [if_neg (by rintro ⟨h, _⟩; exact hm h)]
        have hc := fun w => may_any x w
        rw [hm'] at hc
        have Hc := Lib.hid hc
        clear hc hm hm' hne
        refine wp_region_held_drew (S := (fun W => W.cell? ⟨B, 0, none⟩ = some (.int .i64 x.st) ∧ W.cell? ⟨B, 1, none⟩ = some (.int .i64 x.we) ∧ W.cell? ⟨B, 2, none⟩ = some (.int .i64 x.go) ∧ W.cell? ⟨B, 3, none⟩ = some (.int .i64 x.va) ∧ W.cell? ⟨B, 4, none⟩ = some (.int .i64 x.ro))) (by kernel_rfl) ?_ (fun hHeld => ?_)
        · exact ⟨z0, z1, z2, z3, z4⟩
        refine wpAnyH_take (i := 0) (oi := { dst := some 14, op := Op.load 33 (Operand.tmp 6), type := 33, pos := "victim.go:67", after := #[], guard := none }) (v := ?_) rfl (by kernel_rfl) (by kernel_rfl) (by kernel_rfl) (fun _ _ _ h => h) (Or.inl ⟨by rfl, ?_⟩) (by assumption) ?_
        rotate_left
        · (intro w hSw; (try dsimp only at hSw); (try obtain ⟨hSa, hSb⟩ := hSw); go_simp; try with_reducible rfl)
        try simp only [Act.put, List.setIfInBounds_toArray, List.set_cons_zero, List.set_cons_succ]
        refine wpAnyH_ready (rs := [1]) (by kernel_rfl) (by simp) ?_
        refine AllReadyH.cons (o := { dst := some 15, op := Op.call { callee := Callee.value (Operand.func 17), args := #[Operand.tmp 14], argTypes := #[33] }, type := 4, pos := "victim.go:67", after := #[{ on := 0, ground := Ground.data }], guard := none }) rfl (fun K hK => ?_) AllReadyH.nil
        go_simp
        (go_at_call 17; refine (Hc.out _).mono ?_; rintro e w1 ⟨rfl, hO⟩)
        have hO1 : Only (fun _ => False) W0 w1 := ((Only.refl (fun _ => False) W0).drew).trans hO
        obtain ⟨e0, e1, e2, e3, e4⟩ := Hbox.out.only hO1 id
        simp only [Nat.zero_add] at e1 e2 e3 e4
        have HO1 := Lib.hid hO1
        clear hO hO1
        refine hK.out _ _ ?_ (fun hHeld => ?_)
        · exact ⟨e0, e1, e2, e3, e4⟩
        clear hK K
        try simp only [Act.put, List.setIfInBounds_toArray, List.set_cons_zero, List.set_cons_succ]
        refine wpAnyH_take (i := 2) (oi := { dst := some 16, op := Op.move (Operand.tmp 15), type := 4, pos := "victim.go:67", after := #[{ on := 1, ground := Ground.data }, { on := 1, ground := Ground.chain }], guard := none }) (v := ?_) rfl (by kernel_rfl) (by kernel_rfl) (by kernel_rfl) (fun _ _ _ h => h) (Or.inl ⟨by rfl, ?_⟩) (by assumption) ?_
        rotate_left
        · (intro w hSw; (try dsimp only at hSw); (try obtain ⟨hSa, hSb⟩ := hSw); go_simp; try with_reducible rfl)
        try simp only [Act.put, List.setIfInBounds_toArray, List.set_cons_zero, List.set_cons_succ]
        refine wpAnyH_take (i := 3) (oi := { dst := some 17, op := Op.move (Operand.tmp 4), type := 3, pos := "victim.go:67", after := #[{ on := 2, ground := Ground.guard }], guard := some (2, true) }) (v := undef) rfl (by kernel_rfl) (by kernel_rfl) (by kernel_rfl) (fun _ _ _ h => h) (Or.inr ⟨by rfl, rfl⟩) (by assumption) ?_
        try simp only [Act.put, List.setIfInBounds_toArray, List.set_cons_zero, List.set_cons_succ]
        refine wpAnyH_take (i := 4) (oi := { dst := some 18, op := Op.binOp BinOp.lss 3 (Operand.tmp 17) (Operand.const (Value.int IntKind.i64 0)) 3, type := 4, pos := "victim.go:67", after := #[{ on := 3, ground := Ground.data }, { on := 2, ground := Ground.guard }], guard := some (2, true) }) (v := undef) rfl (by kernel_rfl) (by kernel_rfl) (by kernel_rfl) (fun _ _ _ h => h) (Or.inr ⟨by rfl, rfl⟩) (by assumption) ?_
        try simp only [Act.put, List.setIfInBounds_toArray, List.set_cons_zero, List.set_cons_succ]
        refine wpAnyH_take (i := 5) (oi := { dst := some 19, op := Op.move (Operand.tmp 18), type := 4, pos := "victim.go:67", after := #[{ on := 4, ground := Ground.data }, { on := 2, ground := Ground.chain }, { on := 2, ground := Ground.guard }], guard := some (2, true) }) (v := undef) rfl (by kernel_rfl) (by kernel_rfl) (by kernel_rfl) (fun _ _ _ h => h) (Or.inr ⟨by rfl, rfl⟩) (by assumption) ?_
        try simp only [Act.put, List.setIfInBounds_toArray, List.set_cons_zero, List.set_cons_succ]
        refine wpAnyH_take (i := 6) (oi := { dst := some 20, op := Op.load 33 (Operand.tmp 6), type := 33, pos := "victim.go:67", after := #[{ on := 5, ground := Ground.guard }], guard := some (5, false) }) (v := undef) rfl (by kernel_rfl) (by kernel_rfl) (by kernel_rfl) (fun _ _ _ h => h) (Or.inr ⟨by rfl, rfl⟩) (by assumption) ?_
        try simp only [Act.put, List.setIfInBounds_toArray, List.set_cons_zero, List.set_cons_succ]
        refine wpAnyH_take (i := 7) (oi := { dst := some 21, op := Op.move (Operand.tmp 0), type := 22, pos := "victim.go:67", after := #[{ on := 5, ground := Ground.guard }], guard := some (5, false) }) (v := undef) rfl (by kernel_rfl) (by kernel_rfl) (by kernel_rfl) (fun _ _ _ h => h) (Or.inr ⟨by rfl, rfl⟩) (by assumption) ?_
        try simp only [Act.put, List.setIfInBounds_toArray, List.set_cons_zero, List.set_cons_succ]
        refine wpAnyH_take (i := 8) (oi := { dst := some 22, op := Op.move (Operand.tmp 4), type := 3, pos := "victim.go:67", after := #[{ on := 5, ground := Ground.guard }], guard := some (5, false) }) (v := undef) rfl (by kernel_rfl) (by kernel_rfl) (by kernel_rfl) (fun _ _ _ h => h) (Or.inr ⟨by rfl, rfl⟩) (by assumption) ?_
        try simp only [Act.put, List.setIfInBounds_toArray, List.set_cons_zero, List.set_cons_succ]
        refine wpAnyH_take (i := 9) (oi := { dst := some 23, op := Op.indexAddr 22 (Operand.tmp 21) (Operand.tmp 22), type := 0, pos := "victim.go:67", after := #[{ on := 7, ground := Ground.data }, { on := 8, ground := Ground.data }, { on := 5, ground := Ground.guard }], guard := some (5, false) }) (v := undef) rfl (by kernel_rfl) (by kernel_rfl) (by kernel_rfl) (fun _ _ _ h => h) (Or.inr ⟨by rfl, rfl⟩) (by assumption) ?_
        try simp only [Act.put, List.setIfInBounds_toArray, List.set_cons_zero, List.set_cons_succ]
        refine wpAnyH_take (i := 10) (oi := { dst := some 24, op := Op.load 33 (Operand.tmp 23), type := 33, pos := "victim.go:67", after := #[{ on := 9, ground := Ground.data }, { on := 5, ground := Ground.guard }], guard := some (5, false) }) (v := undef) rfl (by kernel_rfl) (by kernel_rfl) (by kernel_rfl) (fun _ _ _ h => h) (Or.inr ⟨by rfl, rfl⟩) (by assumption) ?_
        try simp only [Act.put, List.setIfInBounds_toArray, List.set_cons_zero, List.set_cons_succ]
        refine wpAnyH_take (i := 11) (oi := { dst := some 25, op := Op.call { callee := Callee.value (Operand.func 18), args := #[Operand.tmp 20, Operand.tmp 24], argTypes := #[33, 33] }, type := 3, pos := "victim.go:67", after := #[{ on := 6, ground := Ground.data }, { on := 10, ground := Ground.data }, { on := 5, ground := Ground.chain }, { on := 5, ground := Ground.guard }], guard := some (5, false) }) (v := undef) rfl (by kernel_rfl) (by kernel_rfl) (by kernel_rfl) (fun _ _ _ h => h) (Or.inr ⟨by rfl, rfl⟩) (by assumption) ?_
        try simp only [Act.put, List.setIfInBounds_toArray, List.set_cons_zero, List.set_cons_succ]
        refine wpAnyH_take (i := 12) (oi := { dst := some 26, op := Op.binOp BinOp.lss 3 (Operand.tmp 25) (Operand.const (Value.int IntKind.i64 0)) 3, type := 4, pos := "victim.go:67", after := #[{ on := 11, ground := Ground.data }, { on := 5, ground := Ground.guard }], guard := some (5, false) }) (v := undef) rfl (by kernel_rfl) (by kernel_rfl) (by kernel_rfl) (fun _ _ _ h => h) (Or.inr ⟨by rfl, rfl⟩) (by assumption) ?_
        try simp only [Act.put, List.setIfInBounds_toArray, List.set_cons_zero, List.set_cons_succ]
        refine wpAnyH_take (i := 13) (oi := { dst := some 27, op := Op.pick (Operand.tmp 19) (Operand.const (Value.bool true)) (Operand.tmp 26), type := 4, pos := "victim.go:67", after := #[{ on := 5, ground := Ground.data }, { on := 12, ground := Ground.data }, { on := 2, ground := Ground.guard }], guard := some (2, true) }) (v := undef) rfl (by kernel_rfl) (by kernel_rfl) (by kernel_rfl) (fun _ _ _ h => h) (Or.inr ⟨by rfl, rfl⟩) (by assumption) ?_
        try simp only [Act.put, List.setIfInBounds_toArray, List.set_cons_zero, List.set_cons_succ]
        refine wpAnyH_take (i := 14) (oi := { dst := some 28, op := Op.pick (Operand.tmp 16) (Operand.tmp 27) (Operand.const (Value.bool false)), type := 4, pos := "victim.go:67", after := #[{ on := 2, ground := Ground.data }, { on := 13, ground := Ground.data }], guard := none }) (v := ?_) rfl (by kernel_rfl) (by kernel_rfl) (by kernel_rfl) (fun _ _ _ h => h) (Or.inl ⟨by rfl, ?_⟩) (by assumption) ?_
        rotate_left
        · (intro w hSw; (try dsimp only at hSw); (try obtain ⟨hSa, hSb⟩ := hSw); go_simp; try with_reducible rfl)
        try simp only [Act.put, List.setIfInBounds_toArray, List.set_cons_zero, List.set_cons_succ]
        refine wpAnyH_done (by kernel_rfl) ?_ _
        go_wp2
        go_roundw
        case rel => exact ⟨i + 1, by omega, by go_num, by rw [Hnew.out], HO0.out.trans HO1.out⟩
        case measure => simp [intOf]; omega
    · obtain rfl : i = l.length := by omega
      have HO := Lib.hid hO
      clear hO
      obtain ⟨b, hpk⟩ : ∃ b, b = pk l l.length := ⟨_, rfl⟩
      rw [← hpk]
      have HP := Lib.hid hpk
      clear hpk
      by_cases hb : b < 0
      all_goals
        go_wp2
        all_goals
          go_ret2
          have hp := HP.out
          exact ⟨ret_ib (by omega) (by simp; omega), HO.out⟩

theorem pick_nil (c : Nat) (A : Option Addr) (w : World) :
    Calls Try.prog 10 #[.slice A 0 c] w fun e w' => e = .returned (.tuple #[.int .i64 0, .bool false]) ∧ Only (fun _ => False) w w' := by
  go_enter Try.func10, Try.ntmps10
  go_wp2
  go_loopw [4, 9] (fun b v wr => v = .int .i64 0 ∧ b = .int .i64 (-1) ∧ wr = w) (fun _ _ _ => 0)
  case atStart => exact ⟨rfl, rfl, rfl⟩
  case round =>
    obtain ⟨rfl, rfl, rfl⟩ := hrel
    go_wp2
    go_ret2
    exact ⟨rfl, Only.refl _ _⟩

theorem pick_any (g c : Nat) (A : Option Addr) (l : List Ln) (w : World) (hlen : l.length ≤ 1000000) (hr : Rd w g A (lv l)) :
    Calls Try.prog 10 #[.slice A l.length c] w fun e w' => e = .returned (.tuple #[.int .i64 (max (pk l l.length) 0), .bool (decide (0 ≤ pk l l.length))]) ∧ Only (fun _ => False) w w' := by
  rcases hr with h | ⟨off, rfl, hg, hc⟩
  · have : l = [] := by
      have h2 := lv_length l
      rw [h] at h2
      exact List.eq_nil_of_length_eq_zero (by simp at h2; omega)
    subst this
    exact pick_nil c A w
  · exact pick_walk g off c l w hlen hg hc

end Go.Proofs.Ytbcjpchjidgpeaa
