/- Victim: symMerge whole. -/
import Derived.Test.YtbcjpchjidgpeaaL
import Derived.Deep.DeepCutAuto
import Derived.Deep.CutBlock
import Derived.Outline
namespace Go.Proofs.Ytbcjpchjidgpeaa
open Go.RowKit

theorem rot_none {d : List Nat} {s m t : Nat} (h : s = m ∨ m = t) (p : Nat) : ix d p = rotF d s m t p := by
  unfold rotF
  repeat' split
  all_goals first | omega | rfl | (congr 1; omega)

set_option maxRecDepth 100000 in
set_option maxHeartbeats 16000000 in
theorem sym_main (l : List Ln) (x : Nat) (A : Option Addr) (c g : Nat) (n : Nat) (h4 : n ≤ 100000) (d : List Nat) (a m b : Nat)
    (IH : ∀ (d : List Nat) (a' m' b' : Nat) (w : World), b' - a' < b - a → d.length = n → RowAt w A n c g 3 1 (nv d) → Cmp l x g w → Bd l d → So l d a' m' → So l d m' b' → Xo d a' m' b' → a' < m' → m' < b' → b' ≤ n →
      Calls Try.prog 26 #[.slice A n c, .int .i64 a', .int .i64 m', .int .i64 b', .func (.func 21) #[] #[.pointer (some ⟨x, 0, none⟩)]] w (SortP l A c g n d a' b' w))
    (hn : d.length = n) (w : World) (h : RowAt w A n c g 3 1 (nv d)) (hC : Cmp l x g w) (hBd : Bd l d)
    (hs1 : So l d a m) (hs2 : So l d m b) (hx : Xo d a m b) (h1 : a + 1 < m) (h2 : m + 1 < b) (h3 : b ≤ n) :
    Calls Try.prog 26 #[.slice A n c, .int .i64 a, .int .i64 m, .int .i64 b, .func (.func 21) #[] #[.pointer (some ⟨x, 0, none⟩)]] w (SortP l A c g n d a b w) := by
  have HR := Lib.hid h
  have HN := Lib.hid hn
  have HC := Lib.hid hC
  have HBD := Lib.hid hBd
  have HS1 := Lib.hid hs1
  have HS2 := Lib.hid hs2
  have HXO := Lib.hid hx
  have HIH := Lib.hid IH
  have e0 : (((m : Int) - a) == 1) = false := by simp; omega
  have e1 : (((b : Int) - m) == 1) = false := by simp; omega
  obtain ⟨off, hAo, _⟩ := nrow_at h (by omega)
  obtain ⟨mid, hmd⟩ : ∃ mid, (a + b) / 2 = mid := ⟨_, rfl⟩
  have hmd' : ((a : Int) + b) / 2 = (mid : Int) := by omega
  have HMD := Lib.hid hmd
  have hmr : a < mid ∧ mid < b := by omega
  have HAO := Lib.hid hAo
  clear hn h hC hBd hs1 hs2 hx IH hmd hAo
  unfold SortP
  go_enter Try.func26, Try.ntmps26
  go_upto_if 140 with (fail)
  go_cut [20, 21] (fun v20 v21 wy => (∃ s0 r0 : Nat, v20 = .int .i64 s0 ∧ v21 = .int .i64 r0 ∧ s0 ≤ r0 ∧ ((mid < m ∧ s0 = mid + m - b ∧ r0 = mid) ∨ (m ≤ mid ∧ s0 = a ∧ r0 = m))) ∧ wy = w)
  case first => as_aux_lemma =>
    by_cases hm : mid < m
    · have i1 : (mid : Int) < m := by omega
      go_wp2_with (fail)
      go_meet
      exact ⟨⟨mid + m - b, mid, by congr 1; omega, rfl, by omega, .inl ⟨hm, rfl, rfl⟩⟩, rfl⟩
    · have i1 : decide ((mid : Int) < m) = false := by simp; omega
      go_wp2_with (fail)
      go_meet
      exact ⟨⟨a, m, rfl, rfl, by omega, .inr ⟨by omega, rfl, rfl⟩⟩, rfl⟩
  case rest =>
  obtain ⟨⟨s0, r0, rfl, rfl, hsr0, h0⟩, hwc⟩ := hcut
  obtain ⟨wS, hwS⟩ : ∃ wS, wS = wc := ⟨_, rfl⟩
  subst hwS
  subst hwc
  go_wp2_with (fail)
  go_loopw [20, 21, 23] (fun v20 v21 v23 wr => ∃ s r : Nat, v20 = .int .i64 s ∧ v21 = .int .i64 r ∧ BS (fun c => ¬ lt l (ix d (mid + m - 1 - c)) (ix d c)) s0 r0 s r ∧ Only (fun _ => False) wS wr) (fun v20 v21 _ _ => (intOf v21 - intOf v20).toNat)
  case atStart => exact ⟨s0, r0, rfl, rfl, BS.start hsr0, Only.refl _ _⟩
  case round =>
    obtain ⟨s, r, rfl, rfl, hbs, hO⟩ := hrel
    have HO := Lib.hid hO
    have HBS := Lib.hid hbs
    have hrg := hbs.rg
    have HROW := Lib.hid (HR.out.only hO (fun _ => id))
    clear hO hbs
    by_cases hsr : s < r
    case pos => as_aux_lemma =>
      have i1 : (s : Int) < r := by omega
      obtain ⟨h, hh⟩ : ∃ h, (s + r) / 2 = h := ⟨_, rfl⟩
      have hh' : ((s : Int) + r) / 2 = (h : Int) := by omega
      have hr1 : s ≤ h ∧ h < r := by omega
      obtain ⟨q, hq⟩ : ∃ q, mid + m - 1 - h = q := ⟨_, rfl⟩
      have hq' : (mid : Int) + m - 1 - h = (q : Int) := by omega
      have hqb : m ≤ q ∧ q < b := by omega
      have hha : a ≤ h ∧ h < m := by omega
      have hrow := HROW.out
      rw [HAO.out] at hrow ⊢
      obtain ⟨x1, f1⟩ := nrow_cells hrow q (by rw [HN.out]; omega)
      obtain ⟨x2, f2⟩ := nrow_cells hrow h (by rw [HN.out]; omega)
      have HCL := Lib.hid ((HC.out.next (HO.out.mono (fun i _ e => e.elim))).call (HBD.out.ix q (by rw [HN.out]; omega)) (HBD.out.ix h (by rw [HN.out]; omega)))
      have hcl : decide (cmI l (ix d q) (ix d h) < 0) = true ↔ lt l (ix d q) (ix d h) := cm_lt (HXO.out h q (by omega) (by omega) (by omega) (by omega))
      have HUP : Hid (¬ lt l (ix d q) (ix d h) → BS (fun c => ¬ lt l (ix d (mid + m - 1 - c)) (ix d c)) s0 r0 (h + 1) r) := Lib.hid (fun hP => HBS.out.up hr1 (by rw [hq]; exact hP))
      have HDN : Hid (lt l (ix d q) (ix d h) → BS (fun c => ¬ lt l (ix d (mid + m - 1 - c)) (ix d c)) s0 r0 s h) := Lib.hid (fun hP => HBS.out.down hr1 (by rw [hq]; exact fun hn => hn hP))
      clear hh hq hrow
      obtain ⟨z, hz0⟩ : ∃ z, cmI l (ix d q) (ix d h) = z := ⟨_, rfl⟩
      obtain ⟨y1, hy1⟩ : ∃ y, ix d q = y := ⟨_, rfl⟩
      obtain ⟨y2, hy2⟩ : ∃ y, ix d h = y := ⟨_, rfl⟩
      rw [hz0] at HCL hcl
      rw [hy1, hy2] at HCL
      rw [hy1] at x1
      rw [hy2] at x2
      clear hz0 hy1 hy2
      have j0 : (0 : Int) ≤ h := by omega
      have j1 : (h : Int) < n := by omega
      have j2 : (0 : Int) ≤ q := by omega
      have j3 : (q : Int) < n := by omega
      have j5 : IntKind.i64.wrap ((mid : Int) + m - 1 - h) = q := by rw [IntWalk.i64_in _ (by omega)]; exact hq'
      have j6 : wrap64 ((mid : Int) + m - 1 - h) = q := by rw [← IntWalk.i64_left]; exact j5
      have j7 : IntKind.i64.wrap (q : Int) = q := IntWalk.i64_in _ (by omega)
      have j8 : wrap64 (q : Int) = q := by rw [← IntWalk.i64_left]; exact j7
      by_cases hz : decide (z < 0) = true
      · have HIN := Lib.hid (HDN.out (hcl.1 hz))
        clear hcl HUP HDN HBS
        go_wp2_with (fail)
        refine wp_region_held_drew (S := (fun W => W.cell? ⟨g, off + q, none⟩ = some (.int .i64 (y1 : Int)) ∧ W.cell? ⟨g, off + h, none⟩ = some (.int .i64 (y2 : Int)))) (by kernel_rfl) ?_ (fun hHeld => ?_)
        · exact ⟨x1, x2⟩
        refine wpAnyH_take (i := 0) (oi := { dst := some 158, op := Op.move (Operand.tmp 4), type := 38, pos := "zsortanyfunc.go:441", after := #[], guard := none }) (v := ?_) rfl (by kernel_rfl) (by kernel_rfl) (by kernel_rfl) (fun _ _ _ h => h) (Or.inl ⟨by rfl, ?_⟩) (by assumption) ?_
        rotate_left
        · (intro w hSw; (try dsimp only at hSw); (try obtain ⟨hSa, hSb⟩ := hSw); go_simp; try with_reducible rfl)
        try simp only [Act.put, List.setIfInBounds_toArray, List.set_cons_zero, List.set_cons_succ]
        refine wpAnyH_take (i := 1) (oi := { dst := some 159, op := Op.move (Operand.tmp 0), type := 30, pos := "zsortanyfunc.go:441", after := #[], guard := none }) (v := ?_) rfl (by kernel_rfl) (by kernel_rfl) (by kernel_rfl) (fun _ _ _ h => h) (Or.inl ⟨by rfl, ?_⟩) (by assumption) ?_
        rotate_left
        · (intro w hSw; (try dsimp only at hSw); (try obtain ⟨hSa, hSb⟩ := hSw); go_simp; try with_reducible rfl)
        try simp only [Act.put, List.setIfInBounds_toArray, List.set_cons_zero, List.set_cons_succ]
        refine wpAnyH_take (i := 2) (oi := { dst := some 160, op := Op.move (Operand.tmp 22), type := 3, pos := "zsortanyfunc.go:441", after := #[], guard := none }) (v := ?_) rfl (by kernel_rfl) (by kernel_rfl) (by kernel_rfl) (fun _ _ _ h => h) (Or.inl ⟨by rfl, ?_⟩) (by assumption) ?_
        rotate_left
        · (intro w hSw; (try dsimp only at hSw); (try obtain ⟨hSa, hSb⟩ := hSw); go_simp; try with_reducible rfl)
        try simp only [Act.put, List.setIfInBounds_toArray, List.set_cons_zero, List.set_cons_succ]
        refine wpAnyH_take (i := 3) (oi := { dst := some 161, op := Op.move (Operand.tmp 23), type := 3, pos := "zsortanyfunc.go:441", after := #[], guard := none }) (v := ?_) rfl (by kernel_rfl) (by kernel_rfl) (by kernel_rfl) (fun _ _ _ h => h) (Or.inl ⟨by rfl, ?_⟩) (by assumption) ?_
        rotate_left
        · (intro w hSw; (try dsimp only at hSw); (try obtain ⟨hSa, hSb⟩ := hSw); go_simp; try with_reducible rfl)
        try simp only [Act.put, List.setIfInBounds_toArray, List.set_cons_zero, List.set_cons_succ]
        refine wpAnyH_take (i := 4) (oi := { dst := some 162, op := Op.binOp BinOp.sub 3 (Operand.tmp 160) (Operand.tmp 161) 3, type := 3, pos := "zsortanyfunc.go:441", after := #[{ on := 2, ground := Ground.data }, { on := 3, ground := Ground.data }], guard := none }) (v := ?_) rfl (by kernel_rfl) (by kernel_rfl) (by kernel_rfl) (fun _ _ _ h => h) (Or.inl ⟨by rfl, ?_⟩) (by assumption) ?_
        rotate_left
        · (intro w hSw; (try dsimp only at hSw); (try obtain ⟨hSa, hSb⟩ := hSw); go_simp; try with_reducible rfl)
        try simp only [Act.put, List.setIfInBounds_toArray, List.set_cons_zero, List.set_cons_succ]
        refine wpAnyH_take (i := 5) (oi := { dst := some 163, op := Op.indexAddr 30 (Operand.tmp 159) (Operand.tmp 162), type := 0, pos := "zsortanyfunc.go:441", after := #[{ on := 1, ground := Ground.data }, { on := 4, ground := Ground.data }], guard := none }) (v := ?_) rfl (by kernel_rfl) (by kernel_rfl) (by kernel_rfl) (fun _ _ _ h => h) (Or.inl ⟨by rfl, ?_⟩) (by assumption) ?_
        rotate_left
        · (intro w hSw; (try dsimp only at hSw); (try obtain ⟨hSa, hSb⟩ := hSw); go_simp; try with_reducible rfl)
        try simp only [Act.put, List.setIfInBounds_toArray, List.set_cons_zero, List.set_cons_succ]
        refine wpAnyH_take (i := 6) (oi := { dst := some 164, op := Op.load 3 (Operand.tmp 163), type := 3, pos := "zsortanyfunc.go:441", after := #[{ on := 5, ground := Ground.data }], guard := none }) (v := ?_) rfl (by kernel_rfl) (by kernel_rfl) (by kernel_rfl) (fun _ _ _ h => h) (Or.inl ⟨by rfl, ?_⟩) (by assumption) ?_
        rotate_left
        · (intro w hSw; (try dsimp only at hSw); (try obtain ⟨hSa, hSb⟩ := hSw); go_simp; try with_reducible rfl)
        try simp only [Act.put, List.setIfInBounds_toArray, List.set_cons_zero, List.set_cons_succ]
        refine wpAnyH_take (i := 7) (oi := { dst := some 165, op := Op.move (Operand.tmp 0), type := 30, pos := "zsortanyfunc.go:441", after := #[], guard := none }) (v := ?_) rfl (by kernel_rfl) (by kernel_rfl) (by kernel_rfl) (fun _ _ _ h => h) (Or.inl ⟨by rfl, ?_⟩) (by assumption) ?_
        rotate_left
        · (intro w hSw; (try dsimp only at hSw); (try obtain ⟨hSa, hSb⟩ := hSw); go_simp; try with_reducible rfl)
        try simp only [Act.put, List.setIfInBounds_toArray, List.set_cons_zero, List.set_cons_succ]
        refine wpAnyH_take (i := 8) (oi := { dst := some 166, op := Op.move (Operand.tmp 23), type := 3, pos := "zsortanyfunc.go:441", after := #[], guard := none }) (v := ?_) rfl (by kernel_rfl) (by kernel_rfl) (by kernel_rfl) (fun _ _ _ h => h) (Or.inl ⟨by rfl, ?_⟩) (by assumption) ?_
        rotate_left
        · (intro w hSw; (try dsimp only at hSw); (try obtain ⟨hSa, hSb⟩ := hSw); go_simp; try with_reducible rfl)
        try simp only [Act.put, List.setIfInBounds_toArray, List.set_cons_zero, List.set_cons_succ]
        refine wpAnyH_take (i := 9) (oi := { dst := some 167, op := Op.indexAddr 30 (Operand.tmp 165) (Operand.tmp 166), type := 0, pos := "zsortanyfunc.go:441", after := #[{ on := 7, ground := Ground.data }, { on := 8, ground := Ground.data }], guard := none }) (v := ?_) rfl (by kernel_rfl) (by kernel_rfl) (by kernel_rfl) (fun _ _ _ h => h) (Or.inl ⟨by rfl, ?_⟩) (by assumption) ?_
        rotate_left
        · (intro w hSw; (try dsimp only at hSw); (try obtain ⟨hSa, hSb⟩ := hSw); go_simp; try with_reducible rfl)
        try simp only [Act.put, List.setIfInBounds_toArray, List.set_cons_zero, List.set_cons_succ]
        refine wpAnyH_take (i := 10) (oi := { dst := some 168, op := Op.load 3 (Operand.tmp 167), type := 3, pos := "zsortanyfunc.go:441", after := #[{ on := 9, ground := Ground.data }], guard := none }) (v := ?_) rfl (by kernel_rfl) (by kernel_rfl) (by kernel_rfl) (fun _ _ _ h => h) (Or.inl ⟨by rfl, ?_⟩) (by assumption) ?_
        rotate_left
        · (intro w hSw; (try dsimp only at hSw); (try obtain ⟨hSa, hSb⟩ := hSw); go_simp; try with_reducible rfl)
        try simp only [Act.put, List.setIfInBounds_toArray, List.set_cons_zero, List.set_cons_succ]
        refine wpAnyH_ready (rs := [11]) (by kernel_rfl) (by simp) ?_
        refine AllReadyH.cons (o := { dst := some 169, op := Op.call { callee := Callee.value (Operand.tmp 158), args := #[Operand.tmp 164, Operand.tmp 168], argTypes := #[3, 3] }, type := 3, pos := "zsortanyfunc.go:441", after := #[{ on := 0, ground := Ground.data }, { on := 6, ground := Ground.data }, { on := 10, ground := Ground.data }], guard := none }) rfl (fun K hK => ?_) AllReadyH.nil
        go_simp
        refine (HCL.out _ ((Only.refl (fun _ => False) wr).drew)).mono ?_
        rintro e2 w1 ⟨rfl, hO1⟩
        have HO3 := Lib.hid (((Only.refl (fun _ => False) wr).drew).trans hO1)
        have x1' := (HO3.out.cell (World.block_lt_of_cell? _ _ x1) id).trans x1
        have x2' := (HO3.out.cell (World.block_lt_of_cell? _ _ x2) id).trans x2
        clear hO1
        try simp only []
        refine hK.out _ _ ?_ (fun hHeld => ?_)
        · exact ⟨x1', x2'⟩
        clear hK K
        try simp only [Act.put, List.setIfInBounds_toArray, List.set_cons_zero, List.set_cons_succ]
        refine wpAnyH_take (i := 12) (oi := { dst := some 170, op := Op.binOp BinOp.lss 3 (Operand.tmp 169) (Operand.const (Value.int IntKind.i64 0)) 3, type := 4, pos := "zsortanyfunc.go:441", after := #[{ on := 11, ground := Ground.data }], guard := none }) (v := ?_) rfl (by kernel_rfl) (by kernel_rfl) (by kernel_rfl) (fun _ _ _ h => h) (Or.inl ⟨by rfl, ?_⟩) (by assumption) ?_
        rotate_left
        · (intro w hSw; (try dsimp only at hSw); (try obtain ⟨hSa, hSb⟩ := hSw); go_simp; try with_reducible rfl)
        try simp only [Act.put, List.setIfInBounds_toArray, List.set_cons_zero, List.set_cons_succ]
        refine wpAnyH_take (i := 13) (oi := { dst := some 171, op := Op.unOp UnOp.not 4 (Operand.tmp 170), type := 4, pos := "zsortanyfunc.go:441", after := #[{ on := 12, ground := Ground.data }], guard := none }) (v := ?_) rfl (by kernel_rfl) (by kernel_rfl) (by kernel_rfl) (fun _ _ _ h => h) (Or.inl ⟨by rfl, ?_⟩) (by assumption) ?_
        rotate_left
        · (intro w hSw; (try dsimp only at hSw); (try obtain ⟨hSa, hSb⟩ := hSw); go_simp; try with_reducible rfl)
        try simp only [Act.put, List.setIfInBounds_toArray, List.set_cons_zero, List.set_cons_succ]
        refine wpAnyH_done (by kernel_rfl) ?_ _
        go_wp2
        go_roundw
        case rel => exact ⟨s, h, rfl, rfl, HIN.out, HO.out.trans HO3.out⟩
        case measure => simp [intOf]; try omega
      · have hz' : decide (z < 0) = false := by simpa using hz
        have HIN := Lib.hid (HUP.out (fun h => hz (hcl.2 h)))
        clear hcl HUP HDN hz HBS
        go_wp2_with (fail)
        refine wp_region_held_drew (S := (fun W => W.cell? ⟨g, off + q, none⟩ = some (.int .i64 (y1 : Int)) ∧ W.cell? ⟨g, off + h, none⟩ = some (.int .i64 (y2 : Int)))) (by kernel_rfl) ?_ (fun hHeld => ?_)
        · exact ⟨x1, x2⟩
        refine wpAnyH_take (i := 0) (oi := { dst := some 158, op := Op.move (Operand.tmp 4), type := 38, pos := "zsortanyfunc.go:441", after := #[], guard := none }) (v := ?_) rfl (by kernel_rfl) (by kernel_rfl) (by kernel_rfl) (fun _ _ _ h => h) (Or.inl ⟨by rfl, ?_⟩) (by assumption) ?_
        rotate_left
        · (intro w hSw; (try dsimp only at hSw); (try obtain ⟨hSa, hSb⟩ := hSw); go_simp; try with_reducible rfl)
        try simp only [Act.put, List.setIfInBounds_toArray, List.set_cons_zero, List.set_cons_succ]
        refine wpAnyH_take (i := 1) (oi := { dst := some 159, op := Op.move (Operand.tmp 0), type := 30, pos := "zsortanyfunc.go:441", after := #[], guard := none }) (v := ?_) rfl (by kernel_rfl) (by kernel_rfl) (by kernel_rfl) (fun _ _ _ h => h) (Or.inl ⟨by rfl, ?_⟩) (by assumption) ?_
        rotate_left
        · (intro w hSw; (try dsimp only at hSw); (try obtain ⟨hSa, hSb⟩ := hSw); go_simp; try with_reducible rfl)
        try simp only [Act.put, List.setIfInBounds_toArray, List.set_cons_zero, List.set_cons_succ]
        refine wpAnyH_take (i := 2) (oi := { dst := some 160, op := Op.move (Operand.tmp 22), type := 3, pos := "zsortanyfunc.go:441", after := #[], guard := none }) (v := ?_) rfl (by kernel_rfl) (by kernel_rfl) (by kernel_rfl) (fun _ _ _ h => h) (Or.inl ⟨by rfl, ?_⟩) (by assumption) ?_
        rotate_left
        · (intro w hSw; (try dsimp only at hSw); (try obtain ⟨hSa, hSb⟩ := hSw); go_simp; try with_reducible rfl)
        try simp only [Act.put, List.setIfInBounds_toArray, List.set_cons_zero, List.set_cons_succ]
        refine wpAnyH_take (i := 3) (oi := { dst := some 161, op := Op.move (Operand.tmp 23), type := 3, pos := "zsortanyfunc.go:441", after := #[], guard := none }) (v := ?_) rfl (by kernel_rfl) (by kernel_rfl) (by kernel_rfl) (fun _ _ _ h => h) (Or.inl ⟨by rfl, ?_⟩) (by assumption) ?_
        rotate_left
        · (intro w hSw; (try dsimp only at hSw); (try obtain ⟨hSa, hSb⟩ := hSw); go_simp; try with_reducible rfl)
        try simp only [Act.put, List.setIfInBounds_toArray, List.set_cons_zero, List.set_cons_succ]
        refine wpAnyH_take (i := 4) (oi := { dst := some 162, op := Op.binOp BinOp.sub 3 (Operand.tmp 160) (Operand.tmp 161) 3, type := 3, pos := "zsortanyfunc.go:441", after := #[{ on := 2, ground := Ground.data }, { on := 3, ground := Ground.data }], guard := none }) (v := ?_) rfl (by kernel_rfl) (by kernel_rfl) (by kernel_rfl) (fun _ _ _ h => h) (Or.inl ⟨by rfl, ?_⟩) (by assumption) ?_
        rotate_left
        · (intro w hSw; (try dsimp only at hSw); (try obtain ⟨hSa, hSb⟩ := hSw); go_simp; try with_reducible rfl)
        try simp only [Act.put, List.setIfInBounds_toArray, List.set_cons_zero, List.set_cons_succ]
        refine wpAnyH_take (i := 5) (oi := { dst := some 163, op := Op.indexAddr 30 (Operand.tmp 159) (Operand.tmp 162), type := 0, pos := "zsortanyfunc.go:441", after := #[{ on := 1, ground := Ground.data }, { on := 4, ground := Ground.data }], guard := none }) (v := ?_) rfl (by kernel_rfl) (by kernel_rfl) (by kernel_rfl) (fun _ _ _ h => h) (Or.inl ⟨by rfl, ?_⟩) (by assumption) ?_
        rotate_left
        · (intro w hSw; (try dsimp only at hSw); (try obtain ⟨hSa, hSb⟩ := hSw); go_simp; try with_reducible rfl)
        try simp only [Act.put, List.setIfInBounds_toArray, List.set_cons_zero, List.set_cons_succ]
        refine wpAnyH_take (i := 6) (oi := { dst := some 164, op := Op.load 3 (Operand.tmp 163), type := 3, pos := "zsortanyfunc.go:441", after := #[{ on := 5, ground := Ground.data }], guard := none }) (v := ?_) rfl (by kernel_rfl) (by kernel_rfl) (by kernel_rfl) (fun _ _ _ h => h) (Or.inl ⟨by rfl, ?_⟩) (by assumption) ?_
        rotate_left
        · (intro w hSw; (try dsimp only at hSw); (try obtain ⟨hSa, hSb⟩ := hSw); go_simp; try with_reducible rfl)
        try simp only [Act.put, List.setIfInBounds_toArray, List.set_cons_zero, List.set_cons_succ]
        refine wpAnyH_take (i := 7) (oi := { dst := some 165, op := Op.move (Operand.tmp 0), type := 30, pos := "zsortanyfunc.go:441", after := #[], guard := none }) (v := ?_) rfl (by kernel_rfl) (by kernel_rfl) (by kernel_rfl) (fun _ _ _ h => h) (Or.inl ⟨by rfl, ?_⟩) (by assumption) ?_
        rotate_left
        · (intro w hSw; (try dsimp only at hSw); (try obtain ⟨hSa, hSb⟩ := hSw); go_simp; try with_reducible rfl)
        try simp only [Act.put, List.setIfInBounds_toArray, List.set_cons_zero, List.set_cons_succ]
        refine wpAnyH_take (i := 8) (oi := { dst := some 166, op := Op.move (Operand.tmp 23), type := 3, pos := "zsortanyfunc.go:441", after := #[], guard := none }) (v := ?_) rfl (by kernel_rfl) (by kernel_rfl) (by kernel_rfl) (fun _ _ _ h => h) (Or.inl ⟨by rfl, ?_⟩) (by assumption) ?_
        rotate_left
        · (intro w hSw; (try dsimp only at hSw); (try obtain ⟨hSa, hSb⟩ := hSw); go_simp; try with_reducible rfl)
        try simp only [Act.put, List.setIfInBounds_toArray, List.set_cons_zero, List.set_cons_succ]
        refine wpAnyH_take (i := 9) (oi := { dst := some 167, op := Op.indexAddr 30 (Operand.tmp 165) (Operand.tmp 166), type := 0, pos := "zsortanyfunc.go:441", after := #[{ on := 7, ground := Ground.data }, { on := 8, ground := Ground.data }], guard := none }) (v := ?_) rfl (by kernel_rfl) (by kernel_rfl) (by kernel_rfl) (fun _ _ _ h => h) (Or.inl ⟨by rfl, ?_⟩) (by assumption) ?_
        rotate_left
        · (intro w hSw; (try dsimp only at hSw); (try obtain ⟨hSa, hSb⟩ := hSw); go_simp; try with_reducible rfl)
        try simp only [Act.put, List.setIfInBounds_toArray, List.set_cons_zero, List.set_cons_succ]
        refine wpAnyH_take (i := 10) (oi := { dst := some 168, op := Op.load 3 (Operand.tmp 167), type := 3, pos := "zsortanyfunc.go:441", after := #[{ on := 9, ground := Ground.data }], guard := none }) (v := ?_) rfl (by kernel_rfl) (by kernel_rfl) (by kernel_rfl) (fun _ _ _ h => h) (Or.inl ⟨by rfl, ?_⟩) (by assumption) ?_
        rotate_left
        · (intro w hSw; (try dsimp only at hSw); (try obtain ⟨hSa, hSb⟩ := hSw); go_simp; try with_reducible rfl)
        try simp only [Act.put, List.setIfInBounds_toArray, List.set_cons_zero, List.set_cons_succ]
        refine wpAnyH_ready (rs := [11]) (by kernel_rfl) (by simp) ?_
        refine AllReadyH.cons (o := { dst := some 169, op := Op.call { callee := Callee.value (Operand.tmp 158), args := #[Operand.tmp 164, Operand.tmp 168], argTypes := #[3, 3] }, type := 3, pos := "zsortanyfunc.go:441", after := #[{ on := 0, ground := Ground.data }, { on := 6, ground := Ground.data }, { on := 10, ground := Ground.data }], guard := none }) rfl (fun K hK => ?_) AllReadyH.nil
        go_simp
        refine (HCL.out _ ((Only.refl (fun _ => False) wr).drew)).mono ?_
        rintro e2 w1 ⟨rfl, hO1⟩
        have HO3 := Lib.hid (((Only.refl (fun _ => False) wr).drew).trans hO1)
        have x1' := (HO3.out.cell (World.block_lt_of_cell? _ _ x1) id).trans x1
        have x2' := (HO3.out.cell (World.block_lt_of_cell? _ _ x2) id).trans x2
        clear hO1
        try simp only []
        refine hK.out _ _ ?_ (fun hHeld => ?_)
        · exact ⟨x1', x2'⟩
        clear hK K
        try simp only [Act.put, List.setIfInBounds_toArray, List.set_cons_zero, List.set_cons_succ]
        refine wpAnyH_take (i := 12) (oi := { dst := some 170, op := Op.binOp BinOp.lss 3 (Operand.tmp 169) (Operand.const (Value.int IntKind.i64 0)) 3, type := 4, pos := "zsortanyfunc.go:441", after := #[{ on := 11, ground := Ground.data }], guard := none }) (v := ?_) rfl (by kernel_rfl) (by kernel_rfl) (by kernel_rfl) (fun _ _ _ h => h) (Or.inl ⟨by rfl, ?_⟩) (by assumption) ?_
        rotate_left
        · (intro w hSw; (try dsimp only at hSw); (try obtain ⟨hSa, hSb⟩ := hSw); go_simp; try with_reducible rfl)
        try simp only [Act.put, List.setIfInBounds_toArray, List.set_cons_zero, List.set_cons_succ]
        refine wpAnyH_take (i := 13) (oi := { dst := some 171, op := Op.unOp UnOp.not 4 (Operand.tmp 170), type := 4, pos := "zsortanyfunc.go:441", after := #[{ on := 12, ground := Ground.data }], guard := none }) (v := ?_) rfl (by kernel_rfl) (by kernel_rfl) (by kernel_rfl) (fun _ _ _ h => h) (Or.inl ⟨by rfl, ?_⟩) (by assumption) ?_
        rotate_left
        · (intro w hSw; (try dsimp only at hSw); (try obtain ⟨hSa, hSb⟩ := hSw); go_simp; try with_reducible rfl)
        try simp only [Act.put, List.setIfInBounds_toArray, List.set_cons_zero, List.set_cons_succ]
        refine wpAnyH_done (by kernel_rfl) ?_ _
        go_wp2
        go_roundw
        case rel => exact ⟨h + 1, r, by simp, rfl, HIN.out, HO.out.trans HO3.out⟩
        case measure => simp [intOf]; try omega
    obtain rfl : s = r := by omega
    have i1 : decide ((s : Int) < s) = false := by simp
    obtain ⟨hsA, htA, hc1, hc2⟩ := found HS1.out HS2.out HXO.out (by omega) HMD.out.symm h0 HBS.out
    obtain ⟨t, ht⟩ : ∃ t, mid + m - s = t := ⟨_, rfl⟩
    have ht' : (mid : Int) + m - s = (t : Int) := by omega
    rw [ht] at htA hc1 hc2
    have hmt : s + (t - m) = mid := by omega
    have hHF : ∀ e : List Nat, (∀ p, ix e p = rotF d s m t p) → Half l e a s mid t b := fun e he => by
      have := rot_half HS1.out HS2.out HXO.out (by omega) htA hc1 hc2 he
      rwa [hmt] at this
    have HHF := Lib.hid hHF
    clear hHF hc1 hc2 HBS hrg
    go_upto_region 39 with (fail)
    go_cut [185] (fun v185 wy => v185 = .bool (decide (s < m ∧ m < t)) ∧ wy = wr)
    case first => as_aux_lemma =>
      by_cases k1 : s < m
      · have i2 : (s : Int) < m := by omega
        by_cases k2 : m < t
        · have i3 : (m : Int) < t := by omega
          go_wp2_with (fail)
          go_meet
          exact ⟨by simp [k1, k2], rfl⟩
        · have i3 : decide ((m : Int) < t) = false := by simp; omega
          go_wp2_with (fail)
          go_meet
          exact ⟨by simp [k2], rfl⟩
      · have i2 : decide ((s : Int) < m) = false := by simp; omega
        go_wp2_with (fail)
        go_meet
        exact ⟨by simp [k1], rfl⟩
    case rest =>
    obtain ⟨rfl, rfl⟩ := hcut
    go_upto_if 185 with (fail)
    go_cut [186] (fun v186 wy => ∃ e : List Nat, e.Perm d ∧ (∀ p, ix e p = rotF d s m t p) ∧ RowAt wy A n c g 3 1 (nv e) ∧ Only (fun i => i = g) wS wy)
    case first => as_aux_lemma =>
      by_cases k1 : s < m ∧ m < t
      · have i2 : decide (s < m ∧ m < t) = true := by simp [k1]
        have HRT := Lib.hid (rotate_any A c g d s m t (.func (.func 21) #[] #[.pointer (some ⟨x, 0, none⟩)]) n HN.out _ HROW.out k1.1 k1.2 (by omega) h4)
        rw [i2]
        go_wp2_with (fail)
        refine HRT.out.mono ?_
        rintro e2 w1 ⟨e, rfl, hp, he, hr1, hO1⟩
        have HF := Lib.hid (And.intro hp (And.intro he (And.intro hr1 hO1)))
        clear hp he hr1 hO1
        go_wp2_with (fail)
        go_meet
        exact ⟨e, HF.out.1, HF.out.2.1, HF.out.2.2.1, (HO.out.mono (fun i _ e => e.elim)).trans HF.out.2.2.2⟩
      · have i2 : decide (s < m ∧ m < t) = false := by simpa using k1
        rw [i2]
        go_wp2_with (fail)
        go_meet
        exact ⟨d, List.Perm.refl _, fun p => rot_none (by omega) p, HROW.out, HO.out.mono (fun i _ e => e.elim)⟩
    case rest =>
    obtain ⟨e, hp, he, hrow, hO⟩ := hcut
    have hel : e.length = n := by rw [hp.length_eq, HN.out]
    have HEL := Lib.hid hel
    have HHE := Lib.hid (HHF.out e he)
    have HFE := Lib.hid (rot_fr (by omega) (by omega) hp he)
    have HBE : Hid (Bd l e) := Lib.hid (fun z hz => HBD.out z (hp.mem_iff.1 hz))
    have HRE := Lib.hid hrow
    have HOE := Lib.hid hO
    clear hp he hrow hO hel HHF HO HROW
    go_upto_region 41 with (fail)
    go_cut [199] (fun v199 wy => v199 = .bool (decide (a < s ∧ s < mid)) ∧ wy = wc)
    case first => as_aux_lemma =>
      by_cases k1 : a < s
      · have i2 : (a : Int) < s := by omega
        by_cases k2 : s < mid
        · have i3 : (s : Int) < mid := by omega
          go_wp2_with (fail)
          go_meet
          exact ⟨by simp [k1, k2], rfl⟩
        · have i3 : decide ((s : Int) < mid) = false := by simp; omega
          go_wp2_with (fail)
          go_meet
          exact ⟨by simp [k2], rfl⟩
      · have i2 : decide ((a : Int) < s) = false := by simp; omega
        go_wp2_with (fail)
        go_meet
        exact ⟨by simp [k1], rfl⟩
    case rest =>
    obtain ⟨rfl, rfl⟩ := hcut
    go_upto_if 199 with (fail)
    go_cut [200] (fun v200 wy => ∃ f : List Nat, Fr e f a mid ∧ So l f a mid ∧ RowAt wy A n c g 3 1 (nv f) ∧ Only (fun i => i = g) wS wy)
    case first => as_aux_lemma =>
      by_cases k1 : a < s ∧ s < mid
      · have i2 : decide (a < s ∧ s < mid) = true := by simp [k1]
        have HRT := Lib.hid (HIH.out e a s mid _ (by omega) HEL.out HRE.out (HC.out.next HOE.out) HBE.out HHE.out.s1 HHE.out.s2 HHE.out.x1 k1.1 k1.2 (by omega))
        rw [i2]
        go_wp2_with (fail)
        refine HRT.out.mono ?_
        rintro e2 w1 ⟨f, rfl, hf, ho, hr1, hO1⟩
        have HF := Lib.hid (And.intro hf (And.intro ho (And.intro hr1 hO1)))
        clear hf ho hr1 hO1
        go_wp2_with (fail)
        go_meet
        exact ⟨f, HF.out.1, HF.out.2.1, HF.out.2.2.1, HOE.out.trans HF.out.2.2.2⟩
      · have i2 : decide (a < s ∧ s < mid) = false := by simpa using k1
        rw [i2]
        go_wp2_with (fail)
        go_meet
        exact ⟨e, Fr.refl _ _ _, HHE.out.s12 (by omega), HRE.out, HOE.out⟩
    case rest =>
    obtain ⟨f, hf, hso, hrow, hO⟩ := hcut
    have HFF := Lib.hid hf
    have HSF := Lib.hid hso
    have HRF := Lib.hid hrow
    have HOF := Lib.hid hO
    have hfl : f.length = n := by rw [hf.len, HEL.out]
    have HFL := Lib.hid hfl
    have hsame : ∀ p, mid ≤ p → ix f p = ix e p := fun p hp => hf.out p (.inr hp)
    have HX2 : Hid (So l f mid t ∧ So l f t b ∧ Xo f mid t b) := Lib.hid ⟨fun p q p1 p2 p3 => by rw [hsame p p1, hsame q (by omega)]; exact HHE.out.s3 p q p1 p2 p3,
      fun p q p1 p2 p3 => by rw [hsame p (by omega), hsame q (by omega)]; exact HHE.out.s4 p q p1 p2 p3, fun p q p1 p2 p3 p4 => by rw [hsame p (by omega), hsame q (by omega)]; exact HHE.out.x2 p q p1 p2 p3 p4⟩
    have H34 : Hid (t ≤ mid ∨ b ≤ t → So l f mid b) := Lib.hid (fun h p q p1 p2 p3 => by rw [hsame p p1, hsame q (by omega)]; exact HHE.out.s34 h p q p1 p2 p3)
    clear hf hso hrow hO hfl hsame
    go_upto_region 43 with (fail)
    go_cut [213] (fun v213 wy => v213 = .bool (decide (mid < t ∧ t < b)) ∧ wy = wc)
    case first => as_aux_lemma =>
      by_cases k1 : mid < t
      · have i2 : (mid : Int) < t := by omega
        by_cases k2 : t < b
        · have i3 : (t : Int) < b := by omega
          go_wp2_with (fail)
          go_meet
          exact ⟨by simp [k1, k2], rfl⟩
        · have i3 : decide ((t : Int) < b) = false := by simp; omega
          go_wp2_with (fail)
          go_meet
          exact ⟨by simp [k2], rfl⟩
      · have i2 : decide ((mid : Int) < t) = false := by simp; omega
        go_wp2_with (fail)
        go_meet
        exact ⟨by simp [k1], rfl⟩
    case rest =>
    obtain ⟨rfl, rfl⟩ := hcut
    by_cases k1 : mid < t ∧ t < b
    case pos => as_aux_lemma =>
      have i2 : decide (mid < t ∧ t < b) = true := by simp [k1]
      have HRT := Lib.hid (HIH.out f mid t b _ (by omega) HFL.out HRF.out (HC.out.next HOF.out) (HBE.out.fr HFF.out) HX2.out.1 HX2.out.2.1 HX2.out.2.2 k1.1 k1.2 h3)
      rw [i2]
      go_wp2_with (fail)
      refine HRT.out.mono ?_
      rintro e2 w1 ⟨f', rfl, hf, ho, hr1, hO1⟩
      have hall := half_all HHE.out.lh (by omega) HFF.out HSF.out hf ho
      have HF := Lib.hid (And.intro (HFE.out.widen hsA.1 htA.2 |>.trans hall.2) (And.intro hall.1 (And.intro hr1 (HOF.out.trans hO1))))
      clear hf ho hr1 hO1 hall
      go_wp2
      refine bodyPost_end (results_none rfl _ _ _) rfl ?_
      first
        | exact ⟨rfl, f', HF.out.1, HF.out.2.1, HF.out.2.2.1, HF.out.2.2.2⟩
        | exact ⟨f', rfl, HF.out.1, HF.out.2.1, HF.out.2.2.1, HF.out.2.2.2⟩
    case neg => as_aux_lemma =>
      have i2 : decide (mid < t ∧ t < b) = false := by simpa using k1
      have hall := half_all HHE.out.lh (by omega) HFF.out HSF.out (Fr.refl f mid b) (H34.out (by omega))
      have HF := Lib.hid (And.intro (HFE.out.widen hsA.1 htA.2 |>.trans hall.2) hall.1)
      clear hall
      rw [i2]
      go_wp2
      refine bodyPost_end (results_none rfl _ _ _) rfl ?_
      first
        | exact ⟨rfl, f, HF.out.1, HF.out.2, HRF.out, HOF.out⟩
        | exact ⟨f, rfl, HF.out.1, HF.out.2, HRF.out, HOF.out⟩

theorem sym_any (l : List Ln) (x : Nat) (A : Option Addr) (c g : Nat) (n : Nat) (h4 : n ≤ 100000) : ∀ (k : Nat) (d : List Nat) (a m b : Nat) (w : World), b - a ≤ k → d.length = n → RowAt w A n c g 3 1 (nv d) → Cmp l x g w → Bd l d → So l d a m → So l d m b → Xo d a m b → a < m → m < b → b ≤ n →
      Calls Try.prog 26 #[.slice A n c, .int .i64 a, .int .i64 m, .int .i64 b, .func (.func 21) #[] #[.pointer (some ⟨x, 0, none⟩)]] w (SortP l A c g n d a b w) := by
  intro k
  induction k with
  | zero => intro d a m b w hk; omega
  | succ k ih =>
    intro d a m b w hk hn h hC hBd hs1 hs2 hx h1 h2 h3
    by_cases e1 : m = a + 1
    · subst e1
      have := sym_left l x A c g d a b n hn w h hC hBd hs2 hx h2 h3 h4
      simpa using this
    · by_cases e2 : b = m + 1
      · subst e2
        have := sym_right l x A c g d a m n hn w h hC hBd hs1 hx h1 e1 h3 h4
        simpa using this
      · exact sym_main l x A c g n h4 d a m b (fun d' a' m' b' w' hlt => ih d' a' m' b' w' (by omega)) hn w h hC hBd hs1 hs2 hx (by omega) (by omega) h3
end Go.Proofs.Ytbcjpchjidgpeaa
