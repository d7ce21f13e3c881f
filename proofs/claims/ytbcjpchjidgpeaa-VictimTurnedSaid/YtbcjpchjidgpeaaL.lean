/- Victim: symMerge: one ahead, one behind. -/
import Derived.Test.YtbcjpchjidgpeaaK
namespace Go.Proofs.Ytbcjpchjidgpeaa
open Go.RowKit

theorem rot_up {d e : List Nat} {a k : Nat} (ha : a ≤ k) (hk : k + 1 < e.length) (he : ∀ p, ix e p = rotF d a (a + 1) (k + 1) p) (p : Nat) : ix (sw e k (k + 1)) p = rotF d a (a + 1) (k + 1 + 1) p := by
  rw [sw_ix _ _ _ _ (by omega) hk, he, he, he]
  unfold rotF
  repeat' split
  all_goals first | omega | rfl | (congr 1; omega)
theorem rot_down {d e : List Nat} {k m : Nat} (hm : k + 1 ≤ m) (hk : m < e.length) (he : ∀ p, ix e p = rotF d (k + 1) m (m + 1) p) (p : Nat) : ix (sw e (k + 1) k) p = rotF d k m (m + 1) p := by
  rw [sw_ix _ _ _ _ (by omega) (by omega), he, he, he]
  unfold rotF
  repeat' split
  all_goals first | omega | rfl | (congr 1; omega)

set_option maxRecDepth 100000 in
set_option maxHeartbeats 8000000 in
theorem sym_left (l : List Ln) (x : Nat) (A : Option Addr) (c g : Nat) (d : List Nat) (a b : Nat) (n : Nat) (hn : d.length = n) (w : World) (h : RowAt w A n c g 3 1 (nv d)) (hC : Cmp l x g w) (hBd : Bd l d)
    (hs : So l d (a + 1) b) (hx : Xo d a (a + 1) b) (h1 : a + 1 < b) (h3 : b ≤ n) (h4 : n ≤ 100000) :
    Calls Try.prog 26 #[.slice A n c, .int .i64 a, .int .i64 ((a : Int) + 1), .int .i64 b, .func (.func 21) #[] #[.pointer (some ⟨x, 0, none⟩)]] w (SortP l A c g n d a b w) := by
  have HR := Lib.hid h
  have HN := Lib.hid hn
  have HC := Lib.hid hC
  have HBD := Lib.hid hBd
  have HS := Lib.hid hs
  have HXO := Lib.hid hx
  have e1 : (((a : Int) + 1 - a) == 1) = true := by have : (a : Int) + 1 - a = 1 := by omega
                                                    rw [this]; rfl
  obtain ⟨off, rfl, _⟩ := nrow_at h (by omega)
  clear hn h hC hBd hs hx
  unfold SortP
  go_enter Try.func26, Try.ntmps26
  go_wp2_with (fail)
  go_loopw [10, 11, 12] (fun v10 v11 v12 wr => ∃ s r : Nat, v10 = .int .i64 s ∧ v11 = .int .i64 r ∧ BS (fun h => lt l (ix d h) (ix d a)) (a + 1) b s r ∧ Only (fun _ => False) w wr) (fun v10 v11 _ _ => (intOf v11 - intOf v10).toNat)
  case atStart => exact ⟨a + 1, b, by simp, rfl, BS.start (by omega), Only.refl _ _⟩
  case round =>
    obtain ⟨s, r, rfl, rfl, hbs, hO⟩ := hrel
    have HO := Lib.hid hO
    have HBS := Lib.hid hbs
    have hrg := hbs.rg
    have HROW := Lib.hid (HR.out.only hO (fun _ => id))
    clear hO hbs
    by_cases hsr : s < r
    · have i1 : (s : Int) < r := by omega
      obtain ⟨h, hh⟩ : ∃ h, (s + r) / 2 = h := ⟨_, rfl⟩
      have hh' : ((s : Int) + r) / 2 = (h : Int) := by omega
      have hr1 : s ≤ h ∧ h < r := by omega
      obtain ⟨x1, f1⟩ := nrow_cells HROW.out h (by rw [HN.out]; omega)
      obtain ⟨x2, f2⟩ := nrow_cells HROW.out a (by rw [HN.out]; omega)
      have HCL := Lib.hid ((HC.out.next (HO.out.mono (fun i _ e => e.elim))).call (HBD.out.ix h (by rw [HN.out]; omega)) (HBD.out.ix a (by rw [HN.out]; omega)))
      have hcl : decide (cmI l (ix d h) (ix d a) < 0) = true ↔ lt l (ix d h) (ix d a) := cm_lt (HXO.out a h (by omega) (by omega) (by omega) (by omega))
      have HUP : Hid (lt l (ix d h) (ix d a) → BS (fun h => lt l (ix d h) (ix d a)) (a + 1) b (h + 1) r) := Lib.hid (fun hP => HBS.out.up hr1 hP)
      have HDN : Hid (¬ lt l (ix d h) (ix d a) → BS (fun h => lt l (ix d h) (ix d a)) (a + 1) b s h) := Lib.hid (fun hP => HBS.out.down hr1 hP)
      clear hh
      obtain ⟨z, hz0⟩ : ∃ z, cmI l (ix d h) (ix d a) = z := ⟨_, rfl⟩
      obtain ⟨y1, hy1⟩ : ∃ y, ix d h = y := ⟨_, rfl⟩
      obtain ⟨y2, hy2⟩ : ∃ y, ix d a = y := ⟨_, rfl⟩
      rw [hz0] at HCL hcl
      rw [hy1, hy2] at HCL
      rw [hy1] at x1
      rw [hy2] at x2
      clear hz0 hy1 hy2
      have j0 : (0 : Int) ≤ h := by omega
      have j1 : (h : Int) < n := by omega
      have j2 : (0 : Int) ≤ a := by omega
      have j3 : (a : Int) < n := by omega
      by_cases hz : decide (z < 0) = true
      · have HIN := Lib.hid (HUP.out (hcl.1 hz))
        clear hcl HUP HDN HBS
        go_wp2_with (fail)
        refine wp_region_held_drew (S := (fun W => W.cell? ⟨g, off + h, none⟩ = some (.int .i64 (y1 : Int)) ∧ W.cell? ⟨g, off + a, none⟩ = some (.int .i64 (y2 : Int)))) (by kernel_rfl) ?_ (fun hHeld => ?_)
        · exact ⟨x1, x2⟩
        refine wpAnyH_take (i := 0) (oi := { dst := some 40, op := Op.move (Operand.tmp 4), type := 38, pos := "zsortanyfunc.go:390", after := #[], guard := none }) (v := ?_) rfl (by kernel_rfl) (by kernel_rfl) (by kernel_rfl) (fun _ _ _ h => h) (Or.inl ⟨by rfl, ?_⟩) (by assumption) ?_
        rotate_left
        · (intro w hSw; (try dsimp only at hSw); (try obtain ⟨hSa, hSb⟩ := hSw); go_simp; try with_reducible rfl)
        try simp only [Act.put, List.setIfInBounds_toArray, List.set_cons_zero, List.set_cons_succ]
        refine wpAnyH_take (i := 1) (oi := { dst := some 41, op := Op.move (Operand.tmp 0), type := 30, pos := "zsortanyfunc.go:390", after := #[], guard := none }) (v := ?_) rfl (by kernel_rfl) (by kernel_rfl) (by kernel_rfl) (fun _ _ _ h => h) (Or.inl ⟨by rfl, ?_⟩) (by assumption) ?_
        rotate_left
        · (intro w hSw; (try dsimp only at hSw); (try obtain ⟨hSa, hSb⟩ := hSw); go_simp; try with_reducible rfl)
        try simp only [Act.put, List.setIfInBounds_toArray, List.set_cons_zero, List.set_cons_succ]
        refine wpAnyH_take (i := 2) (oi := { dst := some 42, op := Op.move (Operand.tmp 12), type := 3, pos := "zsortanyfunc.go:390", after := #[], guard := none }) (v := ?_) rfl (by kernel_rfl) (by kernel_rfl) (by kernel_rfl) (fun _ _ _ h => h) (Or.inl ⟨by rfl, ?_⟩) (by assumption) ?_
        rotate_left
        · (intro w hSw; (try dsimp only at hSw); (try obtain ⟨hSa, hSb⟩ := hSw); go_simp; try with_reducible rfl)
        try simp only [Act.put, List.setIfInBounds_toArray, List.set_cons_zero, List.set_cons_succ]
        refine wpAnyH_take (i := 3) (oi := { dst := some 43, op := Op.indexAddr 30 (Operand.tmp 41) (Operand.tmp 42), type := 0, pos := "zsortanyfunc.go:390", after := #[{ on := 1, ground := Ground.data }, { on := 2, ground := Ground.data }], guard := none }) (v := ?_) rfl (by kernel_rfl) (by kernel_rfl) (by kernel_rfl) (fun _ _ _ h => h) (Or.inl ⟨by rfl, ?_⟩) (by assumption) ?_
        rotate_left
        · (intro w hSw; (try dsimp only at hSw); (try obtain ⟨hSa, hSb⟩ := hSw); go_simp; try with_reducible rfl)
        try simp only [Act.put, List.setIfInBounds_toArray, List.set_cons_zero, List.set_cons_succ]
        refine wpAnyH_take (i := 4) (oi := { dst := some 44, op := Op.load 3 (Operand.tmp 43), type := 3, pos := "zsortanyfunc.go:390", after := #[{ on := 3, ground := Ground.data }], guard := none }) (v := ?_) rfl (by kernel_rfl) (by kernel_rfl) (by kernel_rfl) (fun _ _ _ h => h) (Or.inl ⟨by rfl, ?_⟩) (by assumption) ?_
        rotate_left
        · (intro w hSw; (try dsimp only at hSw); (try obtain ⟨hSa, hSb⟩ := hSw); go_simp; try with_reducible rfl)
        try simp only [Act.put, List.setIfInBounds_toArray, List.set_cons_zero, List.set_cons_succ]
        refine wpAnyH_take (i := 5) (oi := { dst := some 45, op := Op.move (Operand.tmp 0), type := 30, pos := "zsortanyfunc.go:390", after := #[], guard := none }) (v := ?_) rfl (by kernel_rfl) (by kernel_rfl) (by kernel_rfl) (fun _ _ _ h => h) (Or.inl ⟨by rfl, ?_⟩) (by assumption) ?_
        rotate_left
        · (intro w hSw; (try dsimp only at hSw); (try obtain ⟨hSa, hSb⟩ := hSw); go_simp; try with_reducible rfl)
        try simp only [Act.put, List.setIfInBounds_toArray, List.set_cons_zero, List.set_cons_succ]
        refine wpAnyH_take (i := 6) (oi := { dst := some 46, op := Op.move (Operand.tmp 1), type := 3, pos := "zsortanyfunc.go:390", after := #[], guard := none }) (v := ?_) rfl (by kernel_rfl) (by kernel_rfl) (by kernel_rfl) (fun _ _ _ h => h) (Or.inl ⟨by rfl, ?_⟩) (by assumption) ?_
        rotate_left
        · (intro w hSw; (try dsimp only at hSw); (try obtain ⟨hSa, hSb⟩ := hSw); go_simp; try with_reducible rfl)
        try simp only [Act.put, List.setIfInBounds_toArray, List.set_cons_zero, List.set_cons_succ]
        refine wpAnyH_take (i := 7) (oi := { dst := some 47, op := Op.indexAddr 30 (Operand.tmp 45) (Operand.tmp 46), type := 0, pos := "zsortanyfunc.go:390", after := #[{ on := 5, ground := Ground.data }, { on := 6, ground := Ground.data }], guard := none }) (v := ?_) rfl (by kernel_rfl) (by kernel_rfl) (by kernel_rfl) (fun _ _ _ h => h) (Or.inl ⟨by rfl, ?_⟩) (by assumption) ?_
        rotate_left
        · (intro w hSw; (try dsimp only at hSw); (try obtain ⟨hSa, hSb⟩ := hSw); go_simp; try with_reducible rfl)
        try simp only [Act.put, List.setIfInBounds_toArray, List.set_cons_zero, List.set_cons_succ]
        refine wpAnyH_take (i := 8) (oi := { dst := some 48, op := Op.load 3 (Operand.tmp 47), type := 3, pos := "zsortanyfunc.go:390", after := #[{ on := 7, ground := Ground.data }], guard := none }) (v := ?_) rfl (by kernel_rfl) (by kernel_rfl) (by kernel_rfl) (fun _ _ _ h => h) (Or.inl ⟨by rfl, ?_⟩) (by assumption) ?_
        rotate_left
        · (intro w hSw; (try dsimp only at hSw); (try obtain ⟨hSa, hSb⟩ := hSw); go_simp; try with_reducible rfl)
        try simp only [Act.put, List.setIfInBounds_toArray, List.set_cons_zero, List.set_cons_succ]
        refine wpAnyH_ready (rs := [9]) (by kernel_rfl) (by simp) ?_
        refine AllReadyH.cons (o := { dst := some 49, op := Op.call { callee := Callee.value (Operand.tmp 40), args := #[Operand.tmp 44, Operand.tmp 48], argTypes := #[3, 3] }, type := 3, pos := "zsortanyfunc.go:390", after := #[{ on := 0, ground := Ground.data }, { on := 4, ground := Ground.data }, { on := 8, ground := Ground.data }], guard := none }) rfl (fun K hK => ?_) AllReadyH.nil
        go_simp
        refine (HCL.out _ ((Only.refl (fun _ => False) wr).drew)).mono ?_
        rintro e2 w1 ⟨rfl, hO1⟩
        have HO3 := Lib.hid (((Only.refl (fun _ => False) wr).drew).trans hO1)
        have x1' := (HO3.out.cell (World.block_lt_of_cell? _ _ x1) id).trans x1
        have x2' := (HO3.out.cell (World.block_lt_of_cell? _ _ x2) id).trans x2
        clear hO1
        try simp only []
        refine hK.out _ _ ?_ (fun hHeld => ?_)
        · exact ⟨x1', x2'⟩
        clear hK K
        try simp only [Act.put, List.setIfInBounds_toArray, List.set_cons_zero, List.set_cons_succ]
        refine wpAnyH_take (i := 10) (oi := { dst := some 50, op := Op.binOp BinOp.lss 3 (Operand.tmp 49) (Operand.const (Value.int IntKind.i64 0)) 3, type := 4, pos := "zsortanyfunc.go:390", after := #[{ on := 9, ground := Ground.data }], guard := none }) (v := ?_) rfl (by kernel_rfl) (by kernel_rfl) (by kernel_rfl) (fun _ _ _ h => h) (Or.inl ⟨by rfl, ?_⟩) (by assumption) ?_
        rotate_left
        · (intro w hSw; (try dsimp only at hSw); (try obtain ⟨hSa, hSb⟩ := hSw); go_simp; try with_reducible rfl)
        try simp only [Act.put, List.setIfInBounds_toArray, List.set_cons_zero, List.set_cons_succ]
        refine wpAnyH_done (by kernel_rfl) ?_ _
        go_wp2
        go_roundw
        case rel => exact ⟨h + 1, r, by simp, rfl, HIN.out, HO.out.trans HO3.out⟩
        case measure => simp [intOf]; try omega
      · have hz' : decide (z < 0) = false := by simpa using hz
        have HIN := Lib.hid (HDN.out (fun h => hz (hcl.2 h)))
        clear hcl HUP HDN hz HBS
        go_wp2_with (fail)
        refine wp_region_held_drew (S := (fun W => W.cell? ⟨g, off + h, none⟩ = some (.int .i64 (y1 : Int)) ∧ W.cell? ⟨g, off + a, none⟩ = some (.int .i64 (y2 : Int)))) (by kernel_rfl) ?_ (fun hHeld => ?_)
        · exact ⟨x1, x2⟩
        refine wpAnyH_take (i := 0) (oi := { dst := some 40, op := Op.move (Operand.tmp 4), type := 38, pos := "zsortanyfunc.go:390", after := #[], guard := none }) (v := ?_) rfl (by kernel_rfl) (by kernel_rfl) (by kernel_rfl) (fun _ _ _ h => h) (Or.inl ⟨by rfl, ?_⟩) (by assumption) ?_
        rotate_left
        · (intro w hSw; (try dsimp only at hSw); (try obtain ⟨hSa, hSb⟩ := hSw); go_simp; try with_reducible rfl)
        try simp only [Act.put, List.setIfInBounds_toArray, List.set_cons_zero, List.set_cons_succ]
        refine wpAnyH_take (i := 1) (oi := { dst := some 41, op := Op.move (Operand.tmp 0), type := 30, pos := "zsortanyfunc.go:390", after := #[], guard := none }) (v := ?_) rfl (by kernel_rfl) (by kernel_rfl) (by kernel_rfl) (fun _ _ _ h => h) (Or.inl ⟨by rfl, ?_⟩) (by assumption) ?_
        rotate_left
        · (intro w hSw; (try dsimp only at hSw); (try obtain ⟨hSa, hSb⟩ := hSw); go_simp; try with_reducible rfl)
        try simp only [Act.put, List.setIfInBounds_toArray, List.set_cons_zero, List.set_cons_succ]
        refine wpAnyH_take (i := 2) (oi := { dst := some 42, op := Op.move (Operand.tmp 12), type := 3, pos := "zsortanyfunc.go:390", after := #[], guard := none }) (v := ?_) rfl (by kernel_rfl) (by kernel_rfl) (by kernel_rfl) (fun _ _ _ h => h) (Or.inl ⟨by rfl, ?_⟩) (by assumption) ?_
        rotate_left
        · (intro w hSw; (try dsimp only at hSw); (try obtain ⟨hSa, hSb⟩ := hSw); go_simp; try with_reducible rfl)
        try simp only [Act.put, List.setIfInBounds_toArray, List.set_cons_zero, List.set_cons_succ]
        refine wpAnyH_take (i := 3) (oi := { dst := some 43, op := Op.indexAddr 30 (Operand.tmp 41) (Operand.tmp 42), type := 0, pos := "zsortanyfunc.go:390", after := #[{ on := 1, ground := Ground.data }, { on := 2, ground := Ground.data }], guard := none }) (v := ?_) rfl (by kernel_rfl) (by kernel_rfl) (by kernel_rfl) (fun _ _ _ h => h) (Or.inl ⟨by rfl, ?_⟩) (by assumption) ?_
        rotate_left
        · (intro w hSw; (try dsimp only at hSw); (try obtain ⟨hSa, hSb⟩ := hSw); go_simp; try with_reducible rfl)
        try simp only [Act.put, List.setIfInBounds_toArray, List.set_cons_zero, List.set_cons_succ]
        refine wpAnyH_take (i := 4) (oi := { dst := some 44, op := Op.load 3 (Operand.tmp 43), type := 3, pos := "zsortanyfunc.go:390", after := #[{ on := 3, ground := Ground.data }], guard := none }) (v := ?_) rfl (by kernel_rfl) (by kernel_rfl) (by kernel_rfl) (fun _ _ _ h => h) (Or.inl ⟨by rfl, ?_⟩) (by assumption) ?_
        rotate_left
        · (intro w hSw; (try dsimp only at hSw); (try obtain ⟨hSa, hSb⟩ := hSw); go_simp; try with_reducible rfl)
        try simp only [Act.put, List.setIfInBounds_toArray, List.set_cons_zero, List.set_cons_succ]
        refine wpAnyH_take (i := 5) (oi := { dst := some 45, op := Op.move (Operand.tmp 0), type := 30, pos := "zsortanyfunc.go:390", after := #[], guard := none }) (v := ?_) rfl (by kernel_rfl) (by kernel_rfl) (by kernel_rfl) (fun _ _ _ h => h) (Or.inl ⟨by rfl, ?_⟩) (by assumption) ?_
        rotate_left
        · (intro w hSw; (try dsimp only at hSw); (try obtain ⟨hSa, hSb⟩ := hSw); go_simp; try with_reducible rfl)
        try simp only [Act.put, List.setIfInBounds_toArray, List.set_cons_zero, List.set_cons_succ]
        refine wpAnyH_take (i := 6) (oi := { dst := some 46, op := Op.move (Operand.tmp 1), type := 3, pos := "zsortanyfunc.go:390", after := #[], guard := none }) (v := ?_) rfl (by kernel_rfl) (by kernel_rfl) (by kernel_rfl) (fun _ _ _ h => h) (Or.inl ⟨by rfl, ?_⟩) (by assumption) ?_
        rotate_left
        · (intro w hSw; (try dsimp only at hSw); (try obtain ⟨hSa, hSb⟩ := hSw); go_simp; try with_reducible rfl)
        try simp only [Act.put, List.setIfInBounds_toArray, List.set_cons_zero, List.set_cons_succ]
        refine wpAnyH_take (i := 7) (oi := { dst := some 47, op := Op.indexAddr 30 (Operand.tmp 45) (Operand.tmp 46), type := 0, pos := "zsortanyfunc.go:390", after := #[{ on := 5, ground := Ground.data }, { on := 6, ground := Ground.data }], guard := none }) (v := ?_) rfl (by kernel_rfl) (by kernel_rfl) (by kernel_rfl) (fun _ _ _ h => h) (Or.inl ⟨by rfl, ?_⟩) (by assumption) ?_
        rotate_left
        · (intro w hSw; (try dsimp only at hSw); (try obtain ⟨hSa, hSb⟩ := hSw); go_simp; try with_reducible rfl)
        try simp only [Act.put, List.setIfInBounds_toArray, List.set_cons_zero, List.set_cons_succ]
        refine wpAnyH_take (i := 8) (oi := { dst := some 48, op := Op.load 3 (Operand.tmp 47), type := 3, pos := "zsortanyfunc.go:390", after := #[{ on := 7, ground := Ground.data }], guard := none }) (v := ?_) rfl (by kernel_rfl) (by kernel_rfl) (by kernel_rfl) (fun _ _ _ h => h) (Or.inl ⟨by rfl, ?_⟩) (by assumption) ?_
        rotate_left
        · (intro w hSw; (try dsimp only at hSw); (try obtain ⟨hSa, hSb⟩ := hSw); go_simp; try with_reducible rfl)
        try simp only [Act.put, List.setIfInBounds_toArray, List.set_cons_zero, List.set_cons_succ]
        refine wpAnyH_ready (rs := [9]) (by kernel_rfl) (by simp) ?_
        refine AllReadyH.cons (o := { dst := some 49, op := Op.call { callee := Callee.value (Operand.tmp 40), args := #[Operand.tmp 44, Operand.tmp 48], argTypes := #[3, 3] }, type := 3, pos := "zsortanyfunc.go:390", after := #[{ on := 0, ground := Ground.data }, { on := 4, ground := Ground.data }, { on := 8, ground := Ground.data }], guard := none }) rfl (fun K hK => ?_) AllReadyH.nil
        go_simp
        refine (HCL.out _ ((Only.refl (fun _ => False) wr).drew)).mono ?_
        rintro e2 w1 ⟨rfl, hO1⟩
        have HO3 := Lib.hid (((Only.refl (fun _ => False) wr).drew).trans hO1)
        have x1' := (HO3.out.cell (World.block_lt_of_cell? _ _ x1) id).trans x1
        have x2' := (HO3.out.cell (World.block_lt_of_cell? _ _ x2) id).trans x2
        clear hO1
        try simp only []
        refine hK.out _ _ ?_ (fun hHeld => ?_)
        · exact ⟨x1', x2'⟩
        clear hK K
        try simp only [Act.put, List.setIfInBounds_toArray, List.set_cons_zero, List.set_cons_succ]
        refine wpAnyH_take (i := 10) (oi := { dst := some 50, op := Op.binOp BinOp.lss 3 (Operand.tmp 49) (Operand.const (Value.int IntKind.i64 0)) 3, type := 4, pos := "zsortanyfunc.go:390", after := #[{ on := 9, ground := Ground.data }], guard := none }) (v := ?_) rfl (by kernel_rfl) (by kernel_rfl) (by kernel_rfl) (fun _ _ _ h => h) (Or.inl ⟨by rfl, ?_⟩) (by assumption) ?_
        rotate_left
        · (intro w hSw; (try dsimp only at hSw); (try obtain ⟨hSa, hSb⟩ := hSw); go_simp; try with_reducible rfl)
        try simp only [Act.put, List.setIfInBounds_toArray, List.set_cons_zero, List.set_cons_succ]
        refine wpAnyH_done (by kernel_rfl) ?_ _
        go_wp2
        go_roundw
        case rel => exact ⟨s, h, rfl, rfl, HIN.out, HO.out.trans HO3.out⟩
        case measure => simp [intOf]; try omega
    · obtain rfl : s = r := by omega
      have i1 : decide ((s : Int) < s) = false := by simp
      have hMG : ∀ e : List Nat, (∀ p, ix e p = rotF d a (a + 1) s p) → So l e a b := fun e he => merge_left HS.out HXO.out (by omega) HBS.out.lo HBS.out.hi he
      have HMG := Lib.hid hMG
      clear hMG HBS
      go_wp2_with (fail)
      go_loopw [13] (fun v13 wq => ∃ (k : Nat) (e : List Nat), a ≤ k ∧ k + 1 ≤ s ∧ v13 = .int .i64 k ∧ e.Perm d ∧ (∀ p, ix e p = rotF d a (a + 1) (k + 1) p) ∧ RowAt wq (some ⟨g, off, none⟩) n c g 3 1 (nv e) ∧ Only (fun i => i = g) w wq) (fun v13 _ => (s - intOf v13).toNat)
      case atStart => exact ⟨a, d, by omega, by omega, rfl, List.Perm.refl _, fun p => by
        unfold rotF
        repeat' split
        all_goals first | omega | rfl | (congr 1; omega), HROW.out, HO.out.mono (fun i _ e => e.elim)⟩
      case round =>
        obtain ⟨k, e, hk1, hk2, rfl, hp, he, hrow, hO⟩ := hrel
        have hel : e.length = n := by rw [hp.length_eq, HN.out]
        have HP := Lib.hid hp
        have HE := Lib.hid he
        have HRW := Lib.hid hrow
        have HOq := Lib.hid hO
        clear hp he hrow hO HROW HO
        by_cases hks : k + 1 < s
        · have i2 : (k : Int) < (s : Int) - 1 := by omega
          have hkl : k + 1 < e.length := by omega
          obtain ⟨x1, f1⟩ := nrow_cells HRW.out k (by omega)
          obtain ⟨x2, f2⟩ := nrow_cells HRW.out (k + 1) (by omega)
          have HSW : Hid (∀ W, RowAt W (some ⟨g, off, none⟩) n c g 3 1 (nv e) → RowAt ((W.setCell ⟨g, off + k, none⟩ (.int .i64 (ix e (k + 1) : Int))).setCell ⟨g, off + (k + 1), none⟩ (.int .i64 (ix e k : Int))) (some ⟨g, off, none⟩) n c g 3 1 (nv (sw e k (k + 1)))) :=
            Lib.hid (fun W hW => nrow_sw hW rfl (by omega) hkl)
          generalize ix e (k + 1) = y2 at *
          generalize ix e k = y1 at *
          have j0 : (0 : Int) ≤ (k : Int) + 1 := by omega
          have j1 : (k : Int) + 1 < n := by omega
          have j2 : (0 : Int) ≤ k := by omega
          have j3 : (k : Int) < n := by omega
          go_wp2_with (fail)
          go_region
          go_wp2
          go_roundw
          case rel => exact ⟨k + 1, _, by omega, by omega, by simp, (sw_perm e k (k + 1) (by omega) hkl).trans HP.out, fun p => rot_up hk1 hkl HE.out p, (HSW.out _ HRW.out).only ((Only.refl (fun _ => False) _).drew) (fun _ => id), HOq.out.trans (only_sw _ _ _ _ _ _).drew⟩
          case measure => simp [intOf]; try omega
        · have i2 : ¬ (k : Int) < (s : Int) - 1 := by omega
          obtain rfl : s = k + 1 := by omega
          have HFIN := Lib.hid (And.intro (rot_fr (by omega) (by omega) HP.out HE.out) (HMG.out e HE.out))
          have hbb : k + 1 ≤ b := hrg.2.2
          go_wp2
          refine bodyPost_ret (results_none rfl _ _ _) rfl ?_
          first
            | exact ⟨rfl, e, HFIN.out.1.widen (Nat.le_refl _) hbb, HFIN.out.2, HRW.out, HOq.out⟩
            | exact ⟨e, rfl, HFIN.out.1.widen (Nat.le_refl _) hbb, HFIN.out.2, HRW.out, HOq.out⟩

set_option maxRecDepth 100000 in
set_option maxHeartbeats 8000000 in
theorem sym_right (l : List Ln) (x : Nat) (A : Option Addr) (c g : Nat) (d : List Nat) (a m : Nat) (n : Nat) (hn : d.length = n) (w : World) (h : RowAt w A n c g 3 1 (nv d)) (hC : Cmp l x g w) (hBd : Bd l d)
    (hs : So l d a m) (hx : Xo d a m (m + 1)) (h1 : a < m) (h2 : m ≠ a + 1) (h3 : m + 1 ≤ n) (h4 : n ≤ 100000) :
    Calls Try.prog 26 #[.slice A n c, .int .i64 a, .int .i64 m, .int .i64 ((m : Int) + 1), .func (.func 21) #[] #[.pointer (some ⟨x, 0, none⟩)]] w (SortP l A c g n d a (m + 1) w) := by
  have HR := Lib.hid h
  have HN := Lib.hid hn
  have HC := Lib.hid hC
  have HBD := Lib.hid hBd
  have HS := Lib.hid hs
  have HXO := Lib.hid hx
  have e0 : (((m : Int) - a) == 1) = false := by simp; omega
  have e1 : (((m : Int) + 1 - m) == 1) = true := by have : (m : Int) + 1 - m = 1 := by omega
                                                    rw [this]; rfl
  obtain ⟨off, rfl, _⟩ := nrow_at h (by omega)
  clear hn h hC hBd hs hx
  unfold SortP
  go_enter Try.func26, Try.ntmps26
  go_wp2_with (fail)
  go_loopw [14, 15, 16] (fun v14 v15 v16 wr => ∃ s r : Nat, v14 = .int .i64 s ∧ v15 = .int .i64 r ∧ BS (fun h => ¬ lt l (ix d m) (ix d h)) a m s r ∧ Only (fun _ => False) w wr) (fun v14 v15 _ _ => (intOf v15 - intOf v14).toNat)
  case atStart => exact ⟨a, m, rfl, rfl, BS.start (by omega), Only.refl _ _⟩
  case round =>
    obtain ⟨s, r, rfl, rfl, hbs, hO⟩ := hrel
    have HO := Lib.hid hO
    have HBS := Lib.hid hbs
    have hrg := hbs.rg
    have HROW := Lib.hid (HR.out.only hO (fun _ => id))
    clear hO hbs
    by_cases hsr : s < r
    · have i1 : (s : Int) < r := by omega
      obtain ⟨h, hh⟩ : ∃ h, (s + r) / 2 = h := ⟨_, rfl⟩
      have hh' : ((s : Int) + r) / 2 = (h : Int) := by omega
      have hr1 : s ≤ h ∧ h < r := by omega
      obtain ⟨x1, f1⟩ := nrow_cells HROW.out m (by rw [HN.out]; omega)
      obtain ⟨x2, f2⟩ := nrow_cells HROW.out h (by rw [HN.out]; omega)
      have HCL := Lib.hid ((HC.out.next (HO.out.mono (fun i _ e => e.elim))).call (HBD.out.ix m (by rw [HN.out]; omega)) (HBD.out.ix h (by rw [HN.out]; omega)))
      have hcl : decide (cmI l (ix d m) (ix d h) < 0) = true ↔ lt l (ix d m) (ix d h) := cm_lt (HXO.out h m (by omega) (by omega) (by omega) (by omega))
      have HUP : Hid (¬ lt l (ix d m) (ix d h) → BS (fun h => ¬ lt l (ix d m) (ix d h)) a m (h + 1) r) := Lib.hid (fun hP => HBS.out.up hr1 hP)
      have HDN : Hid (lt l (ix d m) (ix d h) → BS (fun h => ¬ lt l (ix d m) (ix d h)) a m s h) := Lib.hid (fun hP => HBS.out.down hr1 (fun hn => hn hP))
      clear hh
      obtain ⟨z, hz0⟩ : ∃ z, cmI l (ix d m) (ix d h) = z := ⟨_, rfl⟩
      obtain ⟨y1, hy1⟩ : ∃ y, ix d m = y := ⟨_, rfl⟩
      obtain ⟨y2, hy2⟩ : ∃ y, ix d h = y := ⟨_, rfl⟩
      rw [hz0] at HCL hcl
      rw [hy1, hy2] at HCL
      rw [hy1] at x1
      rw [hy2] at x2
      clear hz0 hy1 hy2
      have j0 : (0 : Int) ≤ h := by omega
      have j1 : (h : Int) < n := by omega
      have j2 : (0 : Int) ≤ m := by omega
      have j3 : (m : Int) < n := by omega
      by_cases hz : decide (z < 0) = true
      · have HIN := Lib.hid (HDN.out (hcl.1 hz))
        clear hcl HUP HDN HBS
        go_wp2_with (fail)
        refine wp_region_held_drew (S := (fun W => W.cell? ⟨g, off + m, none⟩ = some (.int .i64 (y1 : Int)) ∧ W.cell? ⟨g, off + h, none⟩ = some (.int .i64 (y2 : Int)))) (by kernel_rfl) ?_ (fun hHeld => ?_)
        · exact ⟨x1, x2⟩
        refine wpAnyH_take (i := 0) (oi := { dst := some 92, op := Op.move (Operand.tmp 4), type := 38, pos := "zsortanyfunc.go:414", after := #[], guard := none }) (v := ?_) rfl (by kernel_rfl) (by kernel_rfl) (by kernel_rfl) (fun _ _ _ h => h) (Or.inl ⟨by rfl, ?_⟩) (by assumption) ?_
        rotate_left
        · (intro w hSw; (try dsimp only at hSw); (try obtain ⟨hSa, hSb⟩ := hSw); go_simp; try with_reducible rfl)
        try simp only [Act.put, List.setIfInBounds_toArray, List.set_cons_zero, List.set_cons_succ]
        refine wpAnyH_take (i := 1) (oi := { dst := some 93, op := Op.move (Operand.tmp 0), type := 30, pos := "zsortanyfunc.go:414", after := #[], guard := none }) (v := ?_) rfl (by kernel_rfl) (by kernel_rfl) (by kernel_rfl) (fun _ _ _ h => h) (Or.inl ⟨by rfl, ?_⟩) (by assumption) ?_
        rotate_left
        · (intro w hSw; (try dsimp only at hSw); (try obtain ⟨hSa, hSb⟩ := hSw); go_simp; try with_reducible rfl)
        try simp only [Act.put, List.setIfInBounds_toArray, List.set_cons_zero, List.set_cons_succ]
        refine wpAnyH_take (i := 2) (oi := { dst := some 94, op := Op.move (Operand.tmp 2), type := 3, pos := "zsortanyfunc.go:414", after := #[], guard := none }) (v := ?_) rfl (by kernel_rfl) (by kernel_rfl) (by kernel_rfl) (fun _ _ _ h => h) (Or.inl ⟨by rfl, ?_⟩) (by assumption) ?_
        rotate_left
        · (intro w hSw; (try dsimp only at hSw); (try obtain ⟨hSa, hSb⟩ := hSw); go_simp; try with_reducible rfl)
        try simp only [Act.put, List.setIfInBounds_toArray, List.set_cons_zero, List.set_cons_succ]
        refine wpAnyH_take (i := 3) (oi := { dst := some 95, op := Op.indexAddr 30 (Operand.tmp 93) (Operand.tmp 94), type := 0, pos := "zsortanyfunc.go:414", after := #[{ on := 1, ground := Ground.data }, { on := 2, ground := Ground.data }], guard := none }) (v := ?_) rfl (by kernel_rfl) (by kernel_rfl) (by kernel_rfl) (fun _ _ _ h => h) (Or.inl ⟨by rfl, ?_⟩) (by assumption) ?_
        rotate_left
        · (intro w hSw; (try dsimp only at hSw); (try obtain ⟨hSa, hSb⟩ := hSw); go_simp; try with_reducible rfl)
        try simp only [Act.put, List.setIfInBounds_toArray, List.set_cons_zero, List.set_cons_succ]
        refine wpAnyH_take (i := 4) (oi := { dst := some 96, op := Op.load 3 (Operand.tmp 95), type := 3, pos := "zsortanyfunc.go:414", after := #[{ on := 3, ground := Ground.data }], guard := none }) (v := ?_) rfl (by kernel_rfl) (by kernel_rfl) (by kernel_rfl) (fun _ _ _ h => h) (Or.inl ⟨by rfl, ?_⟩) (by assumption) ?_
        rotate_left
        · (intro w hSw; (try dsimp only at hSw); (try obtain ⟨hSa, hSb⟩ := hSw); go_simp; try with_reducible rfl)
        try simp only [Act.put, List.setIfInBounds_toArray, List.set_cons_zero, List.set_cons_succ]
        refine wpAnyH_take (i := 5) (oi := { dst := some 97, op := Op.move (Operand.tmp 0), type := 30, pos := "zsortanyfunc.go:414", after := #[], guard := none }) (v := ?_) rfl (by kernel_rfl) (by kernel_rfl) (by kernel_rfl) (fun _ _ _ h => h) (Or.inl ⟨by rfl, ?_⟩) (by assumption) ?_
        rotate_left
        · (intro w hSw; (try dsimp only at hSw); (try obtain ⟨hSa, hSb⟩ := hSw); go_simp; try with_reducible rfl)
        try simp only [Act.put, List.setIfInBounds_toArray, List.set_cons_zero, List.set_cons_succ]
        refine wpAnyH_take (i := 6) (oi := { dst := some 98, op := Op.move (Operand.tmp 16), type := 3, pos := "zsortanyfunc.go:414", after := #[], guard := none }) (v := ?_) rfl (by kernel_rfl) (by kernel_rfl) (by kernel_rfl) (fun _ _ _ h => h) (Or.inl ⟨by rfl, ?_⟩) (by assumption) ?_
        rotate_left
        · (intro w hSw; (try dsimp only at hSw); (try obtain ⟨hSa, hSb⟩ := hSw); go_simp; try with_reducible rfl)
        try simp only [Act.put, List.setIfInBounds_toArray, List.set_cons_zero, List.set_cons_succ]
        refine wpAnyH_take (i := 7) (oi := { dst := some 99, op := Op.indexAddr 30 (Operand.tmp 97) (Operand.tmp 98), type := 0, pos := "zsortanyfunc.go:414", after := #[{ on := 5, ground := Ground.data }, { on := 6, ground := Ground.data }], guard := none }) (v := ?_) rfl (by kernel_rfl) (by kernel_rfl) (by kernel_rfl) (fun _ _ _ h => h) (Or.inl ⟨by rfl, ?_⟩) (by assumption) ?_
        rotate_left
        · (intro w hSw; (try dsimp only at hSw); (try obtain ⟨hSa, hSb⟩ := hSw); go_simp; try with_reducible rfl)
        try simp only [Act.put, List.setIfInBounds_toArray, List.set_cons_zero, List.set_cons_succ]
        refine wpAnyH_take (i := 8) (oi := { dst := some 100, op := Op.load 3 (Operand.tmp 99), type := 3, pos := "zsortanyfunc.go:414", after := #[{ on := 7, ground := Ground.data }], guard := none }) (v := ?_) rfl (by kernel_rfl) (by kernel_rfl) (by kernel_rfl) (fun _ _ _ h => h) (Or.inl ⟨by rfl, ?_⟩) (by assumption) ?_
        rotate_left
        · (intro w hSw; (try dsimp only at hSw); (try obtain ⟨hSa, hSb⟩ := hSw); go_simp; try with_reducible rfl)
        try simp only [Act.put, List.setIfInBounds_toArray, List.set_cons_zero, List.set_cons_succ]
        refine wpAnyH_ready (rs := [9]) (by kernel_rfl) (by simp) ?_
        refine AllReadyH.cons (o := { dst := some 101, op := Op.call { callee := Callee.value (Operand.tmp 92), args := #[Operand.tmp 96, Operand.tmp 100], argTypes := #[3, 3] }, type := 3, pos := "zsortanyfunc.go:414", after := #[{ on := 0, ground := Ground.data }, { on := 4, ground := Ground.data }, { on := 8, ground := Ground.data }], guard := none }) rfl (fun K hK => ?_) AllReadyH.nil
        go_simp
        refine (HCL.out _ ((Only.refl (fun _ => False) wr).drew)).mono ?_
        rintro e2 w1 ⟨rfl, hO1⟩
        have HO3 := Lib.hid (((Only.refl (fun _ => False) wr).drew).trans hO1)
        have x1' := (HO3.out.cell (World.block_lt_of_cell? _ _ x1) id).trans x1
        have x2' := (HO3.out.cell (World.block_lt_of_cell? _ _ x2) id).trans x2
        clear hO1
        try simp only []
        refine hK.out _ _ ?_ (fun hHeld => ?_)
        · exact ⟨x1', x2'⟩
        clear hK K
        try simp only [Act.put, List.setIfInBounds_toArray, List.set_cons_zero, List.set_cons_succ]
        refine wpAnyH_take (i := 10) (oi := { dst := some 102, op := Op.binOp BinOp.lss 3 (Operand.tmp 101) (Operand.const (Value.int IntKind.i64 0)) 3, type := 4, pos := "zsortanyfunc.go:414", after := #[{ on := 9, ground := Ground.data }], guard := none }) (v := ?_) rfl (by kernel_rfl) (by kernel_rfl) (by kernel_rfl) (fun _ _ _ h => h) (Or.inl ⟨by rfl, ?_⟩) (by assumption) ?_
        rotate_left
        · (intro w hSw; (try dsimp only at hSw); (try obtain ⟨hSa, hSb⟩ := hSw); go_simp; try with_reducible rfl)
        try simp only [Act.put, List.setIfInBounds_toArray, List.set_cons_zero, List.set_cons_succ]
        refine wpAnyH_take (i := 11) (oi := { dst := some 103, op := Op.unOp UnOp.not 4 (Operand.tmp 102), type := 4, pos := "zsortanyfunc.go:414", after := #[{ on := 10, ground := Ground.data }], guard := none }) (v := ?_) rfl (by kernel_rfl) (by kernel_rfl) (by kernel_rfl) (fun _ _ _ h => h) (Or.inl ⟨by rfl, ?_⟩) (by assumption) ?_
        rotate_left
        · (intro w hSw; (try dsimp only at hSw); (try obtain ⟨hSa, hSb⟩ := hSw); go_simp; try with_reducible rfl)
        try simp only [Act.put, List.setIfInBounds_toArray, List.set_cons_zero, List.set_cons_succ]
        refine wpAnyH_done (by kernel_rfl) ?_ _
        go_wp2
        go_roundw
        case rel => exact ⟨s, h, rfl, rfl, HIN.out, HO.out.trans HO3.out⟩
        case measure => simp [intOf]; try omega
      · have hz' : decide (z < 0) = false := by simpa using hz
        have HIN := Lib.hid (HUP.out (fun h => hz (hcl.2 h)))
        clear hcl HUP HDN hz HBS
        go_wp2_with (fail)
        refine wp_region_held_drew (S := (fun W => W.cell? ⟨g, off + m, none⟩ = some (.int .i64 (y1 : Int)) ∧ W.cell? ⟨g, off + h, none⟩ = some (.int .i64 (y2 : Int)))) (by kernel_rfl) ?_ (fun hHeld => ?_)
        · exact ⟨x1, x2⟩
        refine wpAnyH_take (i := 0) (oi := { dst := some 92, op := Op.move (Operand.tmp 4), type := 38, pos := "zsortanyfunc.go:414", after := #[], guard := none }) (v := ?_) rfl (by kernel_rfl) (by kernel_rfl) (by kernel_rfl) (fun _ _ _ h => h) (Or.inl ⟨by rfl, ?_⟩) (by assumption) ?_
        rotate_left
        · (intro w hSw; (try dsimp only at hSw); (try obtain ⟨hSa, hSb⟩ := hSw); go_simp; try with_reducible rfl)
        try simp only [Act.put, List.setIfInBounds_toArray, List.set_cons_zero, List.set_cons_succ]
        refine wpAnyH_take (i := 1) (oi := { dst := some 93, op := Op.move (Operand.tmp 0), type := 30, pos := "zsortanyfunc.go:414", after := #[], guard := none }) (v := ?_) rfl (by kernel_rfl) (by kernel_rfl) (by kernel_rfl) (fun _ _ _ h => h) (Or.inl ⟨by rfl, ?_⟩) (by assumption) ?_
        rotate_left
        · (intro w hSw; (try dsimp only at hSw); (try obtain ⟨hSa, hSb⟩ := hSw); go_simp; try with_reducible rfl)
        try simp only [Act.put, List.setIfInBounds_toArray, List.set_cons_zero, List.set_cons_succ]
        refine wpAnyH_take (i := 2) (oi := { dst := some 94, op := Op.move (Operand.tmp 2), type := 3, pos := "zsortanyfunc.go:414", after := #[], guard := none }) (v := ?_) rfl (by kernel_rfl) (by kernel_rfl) (by kernel_rfl) (fun _ _ _ h => h) (Or.inl ⟨by rfl, ?_⟩) (by assumption) ?_
        rotate_left
        · (intro w hSw; (try dsimp only at hSw); (try obtain ⟨hSa, hSb⟩ := hSw); go_simp; try with_reducible rfl)
        try simp only [Act.put, List.setIfInBounds_toArray, List.set_cons_zero, List.set_cons_succ]
        refine wpAnyH_take (i := 3) (oi := { dst := some 95, op := Op.indexAddr 30 (Operand.tmp 93) (Operand.tmp 94), type := 0, pos := "zsortanyfunc.go:414", after := #[{ on := 1, ground := Ground.data }, { on := 2, ground := Ground.data }], guard := none }) (v := ?_) rfl (by kernel_rfl) (by kernel_rfl) (by kernel_rfl) (fun _ _ _ h => h) (Or.inl ⟨by rfl, ?_⟩) (by assumption) ?_
        rotate_left
        · (intro w hSw; (try dsimp only at hSw); (try obtain ⟨hSa, hSb⟩ := hSw); go_simp; try with_reducible rfl)
        try simp only [Act.put, List.setIfInBounds_toArray, List.set_cons_zero, List.set_cons_succ]
        refine wpAnyH_take (i := 4) (oi := { dst := some 96, op := Op.load 3 (Operand.tmp 95), type := 3, pos := "zsortanyfunc.go:414", after := #[{ on := 3, ground := Ground.data }], guard := none }) (v := ?_) rfl (by kernel_rfl) (by kernel_rfl) (by kernel_rfl) (fun _ _ _ h => h) (Or.inl ⟨by rfl, ?_⟩) (by assumption) ?_
        rotate_left
        · (intro w hSw; (try dsimp only at hSw); (try obtain ⟨hSa, hSb⟩ := hSw); go_simp; try with_reducible rfl)
        try simp only [Act.put, List.setIfInBounds_toArray, List.set_cons_zero, List.set_cons_succ]
        refine wpAnyH_take (i := 5) (oi := { dst := some 97, op := Op.move (Operand.tmp 0), type := 30, pos := "zsortanyfunc.go:414", after := #[], guard := none }) (v := ?_) rfl (by kernel_rfl) (by kernel_rfl) (by kernel_rfl) (fun _ _ _ h => h) (Or.inl ⟨by rfl, ?_⟩) (by assumption) ?_
        rotate_left
        · (intro w hSw; (try dsimp only at hSw); (try obtain ⟨hSa, hSb⟩ := hSw); go_simp; try with_reducible rfl)
        try simp only [Act.put, List.setIfInBounds_toArray, List.set_cons_zero, List.set_cons_succ]
        refine wpAnyH_take (i := 6) (oi := { dst := some 98, op := Op.move (Operand.tmp 16), type := 3, pos := "zsortanyfunc.go:414", after := #[], guard := none }) (v := ?_) rfl (by kernel_rfl) (by kernel_rfl) (by kernel_rfl) (fun _ _ _ h => h) (Or.inl ⟨by rfl, ?_⟩) (by assumption) ?_
        rotate_left
        · (intro w hSw; (try dsimp only at hSw); (try obtain ⟨hSa, hSb⟩ := hSw); go_simp; try with_reducible rfl)
        try simp only [Act.put, List.setIfInBounds_toArray, List.set_cons_zero, List.set_cons_succ]
        refine wpAnyH_take (i := 7) (oi := { dst := some 99, op := Op.indexAddr 30 (Operand.tmp 97) (Operand.tmp 98), type := 0, pos := "zsortanyfunc.go:414", after := #[{ on := 5, ground := Ground.data }, { on := 6, ground := Ground.data }], guard := none }) (v := ?_) rfl (by kernel_rfl) (by kernel_rfl) (by kernel_rfl) (fun _ _ _ h => h) (Or.inl ⟨by rfl, ?_⟩) (by assumption) ?_
        rotate_left
        · (intro w hSw; (try dsimp only at hSw); (try obtain ⟨hSa, hSb⟩ := hSw); go_simp; try with_reducible rfl)
        try simp only [Act.put, List.setIfInBounds_toArray, List.set_cons_zero, List.set_cons_succ]
        refine wpAnyH_take (i := 8) (oi := { dst := some 100, op := Op.load 3 (Operand.tmp 99), type := 3, pos := "zsortanyfunc.go:414", after := #[{ on := 7, ground := Ground.data }], guard := none }) (v := ?_) rfl (by kernel_rfl) (by kernel_rfl) (by kernel_rfl) (fun _ _ _ h => h) (Or.inl ⟨by rfl, ?_⟩) (by assumption) ?_
        rotate_left
        · (intro w hSw; (try dsimp only at hSw); (try obtain ⟨hSa, hSb⟩ := hSw); go_simp; try with_reducible rfl)
        try simp only [Act.put, List.setIfInBounds_toArray, List.set_cons_zero, List.set_cons_succ]
        refine wpAnyH_ready (rs := [9]) (by kernel_rfl) (by simp) ?_
        refine AllReadyH.cons (o := { dst := some 101, op := Op.call { callee := Callee.value (Operand.tmp 92), args := #[Operand.tmp 96, Operand.tmp 100], argTypes := #[3, 3] }, type := 3, pos := "zsortanyfunc.go:414", after := #[{ on := 0, ground := Ground.data }, { on := 4, ground := Ground.data }, { on := 8, ground := Ground.data }], guard := none }) rfl (fun K hK => ?_) AllReadyH.nil
        go_simp
        refine (HCL.out _ ((Only.refl (fun _ => False) wr).drew)).mono ?_
        rintro e2 w1 ⟨rfl, hO1⟩
        have HO3 := Lib.hid (((Only.refl (fun _ => False) wr).drew).trans hO1)
        have x1' := (HO3.out.cell (World.block_lt_of_cell? _ _ x1) id).trans x1
        have x2' := (HO3.out.cell (World.block_lt_of_cell? _ _ x2) id).trans x2
        clear hO1
        try simp only []
        refine hK.out _ _ ?_ (fun hHeld => ?_)
        · exact ⟨x1', x2'⟩
        clear hK K
        try simp only [Act.put, List.setIfInBounds_toArray, List.set_cons_zero, List.set_cons_succ]
        refine wpAnyH_take (i := 10) (oi := { dst := some 102, op := Op.binOp BinOp.lss 3 (Operand.tmp 101) (Operand.const (Value.int IntKind.i64 0)) 3, type := 4, pos := "zsortanyfunc.go:414", after := #[{ on := 9, ground := Ground.data }], guard := none }) (v := ?_) rfl (by kernel_rfl) (by kernel_rfl) (by kernel_rfl) (fun _ _ _ h => h) (Or.inl ⟨by rfl, ?_⟩) (by assumption) ?_
        rotate_left
        · (intro w hSw; (try dsimp only at hSw); (try obtain ⟨hSa, hSb⟩ := hSw); go_simp; try with_reducible rfl)
        try simp only [Act.put, List.setIfInBounds_toArray, List.set_cons_zero, List.set_cons_succ]
        refine wpAnyH_take (i := 11) (oi := { dst := some 103, op := Op.unOp UnOp.not 4 (Operand.tmp 102), type := 4, pos := "zsortanyfunc.go:414", after := #[{ on := 10, ground := Ground.data }], guard := none }) (v := ?_) rfl (by kernel_rfl) (by kernel_rfl) (by kernel_rfl) (fun _ _ _ h => h) (Or.inl ⟨by rfl, ?_⟩) (by assumption) ?_
        rotate_left
        · (intro w hSw; (try dsimp only at hSw); (try obtain ⟨hSa, hSb⟩ := hSw); go_simp; try with_reducible rfl)
        try simp only [Act.put, List.setIfInBounds_toArray, List.set_cons_zero, List.set_cons_succ]
        refine wpAnyH_done (by kernel_rfl) ?_ _
        go_wp2
        go_roundw
        case rel => exact ⟨h + 1, r, by simp, rfl, HIN.out, HO.out.trans HO3.out⟩
        case measure => simp [intOf]; try omega
    · obtain rfl : s = r := by omega
      have i1 : decide ((s : Int) < s) = false := by simp
      have hMG : ∀ e : List Nat, (∀ p, ix e p = rotF d s m (m + 1) p) → So l e a (m + 1) := fun e he => merge_right HS.out HXO.out (by omega) HBS.out.lo (by
        rcases HBS.out.hi with h | h
        · exact .inl h
        · refine .inr ?_
          by_cases hc : lt l (ix d m) (ix d s)
          · exact hc
          · exact absurd hc h) he
      have HMG := Lib.hid hMG
      clear hMG HBS
      go_wp2_with (fail)
      go_loopw [17] (fun v17 wq => ∃ (k : Nat) (e : List Nat), s ≤ k ∧ k ≤ m ∧ v17 = .int .i64 k ∧ e.Perm d ∧ (∀ p, ix e p = rotF d k m (m + 1) p) ∧ RowAt wq (some ⟨g, off, none⟩) n c g 3 1 (nv e) ∧ Only (fun i => i = g) w wq) (fun v17 _ => (intOf v17).toNat)
      case atStart => exact ⟨m, d, by omega, by omega, rfl, List.Perm.refl _, fun p => by
        unfold rotF
        repeat' split
        all_goals first | omega | rfl | (congr 1; omega), HROW.out, HO.out.mono (fun i _ e => e.elim)⟩
      case round =>
        obtain ⟨k, e, hk1, hk2, rfl, hp, he, hrow, hO⟩ := hrel
        have hel : e.length = n := by rw [hp.length_eq, HN.out]
        have HP := Lib.hid hp
        have HE := Lib.hid he
        have HRW := Lib.hid hrow
        have HOq := Lib.hid hO
        clear hp he hrow hO HROW HO
        by_cases hks : s < k
        · obtain ⟨k, rfl⟩ : ∃ k', k = k' + 1 := ⟨k - 1, by omega⟩
          have i2 : (s : Int) < (k : Int) + 1 := by omega
          have hml : m < e.length := by omega
          obtain ⟨x1, f1⟩ := nrow_cells HRW.out (k + 1) (by omega)
          obtain ⟨x2, f2⟩ := nrow_cells HRW.out k (by omega)
          have HSW : Hid (∀ W, RowAt W (some ⟨g, off, none⟩) n c g 3 1 (nv e) → RowAt ((W.setCell ⟨g, off + (k + 1), none⟩ (.int .i64 (ix e k : Int))).setCell ⟨g, off + k, none⟩ (.int .i64 (ix e (k + 1) : Int))) (some ⟨g, off, none⟩) n c g 3 1 (nv (sw e (k + 1) k))) :=
            Lib.hid (fun W hW => nrow_sw hW rfl (by omega) (by omega))
          generalize ix e (k + 1) = y1 at *
          generalize ix e k = y2 at *
          have j0 : (0 : Int) ≤ (k : Int) + 1 := by omega
          have j1 : (k : Int) + 1 < n := by omega
          have j2 : (0 : Int) ≤ k := by omega
          have j3 : (k : Int) < n := by omega
          go_wp2_with (fail)
          go_region
          go_wp2
          go_roundw
          case rel => exact ⟨k, _, by omega, by omega, by simp, (sw_perm e (k + 1) k (by omega) (by omega)).trans HP.out, fun p => rot_down hk2 hml HE.out p, (HSW.out _ HRW.out).only ((Only.refl (fun _ => False) _).drew) (fun _ => id), HOq.out.trans (only_sw _ _ _ _ _ _).drew⟩
          case measure => simp [intOf]; try omega
        · obtain rfl : s = k := by omega
          have i2 : decide ((s : Int) < s) = false := by simp
          have HFIN := Lib.hid (And.intro (rot_fr (by omega) (by omega) HP.out HE.out) (HMG.out e HE.out))
          have hbb : a ≤ s := hrg.1
          go_wp2
          refine bodyPost_ret (results_none rfl _ _ _) rfl ?_
          first
            | exact ⟨rfl, e, HFIN.out.1.widen hbb (Nat.le_refl _), HFIN.out.2, HRW.out, HOq.out⟩
            | exact ⟨e, rfl, HFIN.out.1.widen hbb (Nat.le_refl _), HFIN.out.2, HRW.out, HOq.out⟩
end Go.Proofs.Ytbcjpchjidgpeaa
