/- Victim: the law VictimLeast, walked. -/
import Derived.Test.YtbcjpchjidgpeaaX
namespace Go.Proofs.Ytbcjpchjidgpeaa
open Go.RowKit

/-- The picked line is the best. -/
theorem pick_best (l : List Ln) : (pk l l.length = -1 ∧ cntTo l l.length = 0 ∧ ∀ i, i < l.length → (gl l i).may = false) ∨
    ∃ b : Nat, pk l l.length = (b : Int) ∧ b < l.length ∧ (gl l b).may = true ∧ 0 < cntTo l l.length ∧ ∀ i, i < l.length → (gl l i).may = true → ¬ lt l i b := by
  rcases best_all l l.length with ⟨h1, h2⟩ | ⟨b, y, h1, h2, h3, h4, h5, h6⟩
  · refine .inl ⟨h1, h2, fun i hi => ?_⟩
    cases hm : (gl l i).may with
    | false => rfl
    | true =>
      have h3 : i ∈ mayL l l.length := (mem_mayL l i _).2 ⟨hi, hm⟩
      have h4 := cnt_mayL l l.length (Nat.le_refl _)
      rw [h2] at h4
      rw [List.eq_nil_of_length_eq_zero h4] at h3
      cases h3
  · have hy : y = gl l b := by rw [gl_get l b h2] at h3; injection h3 with h3; exact h3.symm
    subst hy
    refine .inr ⟨b, h1, h2, h4, h5, fun i hi hm => ?_⟩
    unfold lt
    rw [h6 i _ hi (gl_get l i hi) hm]
    decide
theorem gainI_gl (l : List Ln) (i : Nat) (hi : i < l.length) : gainI l i = gainX (gl l i) := by rw [gainI_in l i hi, gl_eq l i hi]
theorem gain_no {x : Ln} (h : x.may = false) : gainX x = 0 := by unfold gainX; rw [if_neg (by rw [h]; decide)]
theorem gain_yes {x : Ln} (h : x.may = true) : 1 ≤ gainX x ∧ gainX x ≤ 8192 := by have := may_bd h; unfold gainX; rw [if_pos h]; omega
theorem va_le {l : List Ln} {i b : Nat} (h : ¬ lt l i b) : (gl l b).va ≤ (gl l i).va := by
  by_cases hv : (gl l i).va < (gl l b).va
  · exfalso
    refine h ?_
    unfold lt bt
    rw [if_neg (by omega)]
    simpa using hv
  · omega
theorem lines_at {w : World} {g : Nat} {A : Option Addr} {l : List Ln} (h : Rd w g A (lv l)) (hl : 0 < l.length) : ∃ off, A = some ⟨g, off, none⟩ ∧ ∀ i, i < l.length → LnAt w g (off + i * 5) (gl l i) := by
  obtain ⟨off, hA, _, hc⟩ := h.at (by intro e; have := lv_length l; rw [e] at this; simp at this; omega)
  exact ⟨off, hA, fun i hi => by have := LnAt.of hc i hi; rwa [gl_eq l i hi] at this⟩

set_option maxRecDepth 100000 in
set_option maxHeartbeats 8000000 in
theorem victimLeast_walk (g c : Nat) (A : Option Addr) (l : List Ln) (w : World) (hr : Rd w g A (lv l)) :
    Calls Try.prog 7 #[.slice A l.length c] w fun e w' => e = .returned (.bool true) ∧ Below w.heap.size w w' := by
  have HR := Lib.hid hr
  clear hr
  by_cases hbig : 300 < l.length
  · go_enter Try.func7, Try.ntmps7
    go_wp2_with (go_at_call 9; refine (awake_any _).mono ?_; rintro e w0 ⟨rfl, hO⟩; have HO := Lib.hid hO; clear hO)
    go_ret
    exact ⟨rfl, HO.out.below (Nat.le_refl _) (fun _ _ h => h)⟩
  have hsm : l.length ≤ 300 := by omega
  clear hbig
  have HPB := Lib.hid (pick_best l)
  have HGA := Lib.hid (fun (i : Nat) W (o : Only (fun _ => False) w W) => gain_any g c A l i W (HR.out.only o id))
  have HOA := Lib.hid (fun W (o : Only (fun _ => False) w W) => order_any g c A l W (by omega) (HR.out.only o id))
  have HPK := Lib.hid (fun W (o : Only (fun _ => False) w W) => pick_any g c A l W (by omega) (HR.out.only o id))
  have HOUT := Lib.hid (fun d (hp : d.Perm (mayL l l.length)) (hs : So l d 0 d.length) => ord_out l d hp hs)
  have HFST := Lib.hid (first_is_pick l)
  have HGL := Lib.hid (gainI_gl l)
  obtain ⟨n, hn⟩ : ∃ n, l.length = n := ⟨_, rfl⟩
  have HN := Lib.hid hn
  rw [hn] at hsm HPB HGA HOA HPK HOUT HFST HGL ⊢
  rcases HPB.out with ⟨h1, h2, h3⟩ | ⟨b, h1, h2, h3, h4, h5⟩
  · have HNO := Lib.hid h3
    rw [h1] at HPK
    have HC0 := Lib.hid h2
    clear h1 h2 h3 HPB hn HFST
    go_enter Try.func7, Try.ntmps7
    go_wp2_with (fail)
    refine (awake_any _).mono ?_
    rintro e w0 ⟨rfl, hO⟩
    have HO := Lib.hid hO
    clear hO
    go_wp2_with (fail)
    refine (HPK.out w0 HO.out).mono ?_
    rintro e w1 ⟨rfl, hO1⟩
    have HO1 := Lib.hid (HO.out.trans hO1)
    have m0 : max (-1 : Int) 0 = 0 := by decide
    have m1 : decide ((0 : Int) ≤ -1) = false := by decide
    rw [m0, m1]
    clear hO1 HO HPK
    go_wp2_with (fail)
    go_loopw [6] (fun v6 wr => ∃ i : Nat, i ≤ n ∧ v6 = .int .i64 i ∧ Only (fun _ => False) w wr) (fun v6 _ => (n - intOf v6).toNat)
    case atStart => exact ⟨0, by omega, rfl, HO1.out⟩
    case round =>
      obtain ⟨i, hi, rfl, hO⟩ := hrel
      have HOi := Lib.hid hO
      clear hO
      by_cases hin : i < n
      · have i1 : (i : Int) < n := by omega
        have HGI := Lib.hid (HGA.out i wr HOi.out)
        rw [HGL.out i hin, gain_no (HNO.out i hin)] at HGI
        have z0 : ((0 : Int) != 0) = false := by decide
        go_wp2_with (fail)
        refine HGI.out.mono ?_
        rintro e w2 ⟨rfl, hO2⟩
        have HO2 := Lib.hid (HOi.out.trans hO2)
        clear hO2 HGI
        go_wp2
        go_roundw
        case rel => exact ⟨i + 1, by omega, by simp, HO2.out⟩
        case measure => simp [intOf]; omega
      · obtain rfl : i = n := by omega
        have i1 : decide ((i : Int) < i) = false := by simp
        go_wp2_with (fail)
        refine (HOA.out wr HOi.out).mono ?_
        rintro e w2 ⟨A2, c2, g2, d, rfl, hrow, hp, hs, hO2⟩
        have hd0 : d.length = 0 := by have := (HOUT.out d (by rw [HN.out] at hp; exact hp) hs).1; rw [this]; exact HC0.out
        have HO2 := Lib.hid (HOi.out.trans hO2)
        rw [hd0]
        clear hO2 hrow hp hs hd0
        go_wp2
        go_ret
        exact ⟨by simp, HO2.out.below (Nat.le_refl _) (fun _ _ h => h)⟩
  · have HBY := Lib.hid h3
    have HBB := Lib.hid h5
    have HC1 := Lib.hid h4
    rw [h1] at HPK
    have HPKE := Lib.hid h1
    have hv := gain_yes h3
    have hst := (may_bd h3).2.2.2
    have HGB := Lib.hid (HGA.out b)
    rw [HGL.out b h2] at HGB
    obtain ⟨off, rfl, hls⟩ := lines_at HR.out (by omega)
    have HLS := Lib.hid hls
    have b0 : (0 : Int) ≤ b := by omega
    have b1 : (b : Int) < n := by omega
    have b2 : decide ((n : Int) ≤ b) = false := decide_eq_false (by omega)
    have b3 : decide ((b : Int) < 0) = false := decide_eq_false (by omega)
    have b4 : decide (n ≤ b) = false := decide_eq_false (by omega)
    have hby : b < n := h2
    clear h1 h2 h3 h4 h5 HPB hn hls
    have m0 : max (b : Int) 0 = b := by omega
    have m1 : decide ((0 : Int) ≤ b) = true := by simp
    rw [m0, m1] at HPK
    go_enter Try.func7, Try.ntmps7
    go_wp2_with (fail)
    refine (awake_any _).mono ?_
    rintro e w0 ⟨rfl, hO⟩
    have HO := Lib.hid hO
    clear hO
    go_wp2_with (fail)
    refine (HPK.out w0 HO.out).mono ?_
    rintro e w1 ⟨rfl, hO1⟩
    have HO1 := Lib.hid (HO.out.trans hO1)
    have hcb : ∀ W, Only (fun _ => False) w W → LnAt W g (off + b * 5) (gl l b) := fun W o => by
      obtain ⟨off', hA, hl⟩ := lines_at (HR.out.only o id) (by rw [HN.out]; omega)
      injection hA with hA; injection hA with _ hA _; subst hA
      exact hl b (by rw [HN.out]; exact hby)
    have HCB := Lib.hid hcb
    have hci : ∀ i, i < n → ∀ W, Only (fun _ => False) w W → LnAt W g (off + i * 5) (gl l i) := fun i hi W o => by
      obtain ⟨off', hA, hl⟩ := lines_at (HR.out.only o id) (by rw [HN.out]; omega)
      injection hA with hA; injection hA with _ hA _; subst hA
      exact hl i (by rw [HN.out]; exact hi)
    have HCI := Lib.hid hci
    have q0 := (hcb w1 HO1.out).c0
    rw [hst] at q0
    have z0 : ((2 : Int) != 2) = false := by decide
    have HVA : Hid (∀ i, i < n → (gl l i).may = true → (gl l b).va ≤ (gl l i).va) := Lib.hid (fun i hi hm => va_le (HBB.out i hi hm))
    generalize gainX (gl l b) = gb at *
    clear hO1 HO hcb hci hst HBY HBB
    go_wp2_with (fail)
    refine (HGB.out w1 HO1.out).mono ?_
    rintro e w2 ⟨rfl, hO2⟩
    have HO2 := Lib.hid (HO1.out.trans hO2)
    have g1 : decide (gb < 1) = false := by simp; omega
    clear hO2 q0
    go_wp2_with (fail)
    go_loopw [7] (fun v7 wr => ∃ i : Nat, i ≤ n ∧ v7 = .int .i64 i ∧ Only (fun _ => False) w wr) (fun v7 _ => (n - intOf v7).toNat)
    case atStart => exact ⟨0, by omega, rfl, HO2.out⟩
    case round =>
      obtain ⟨i, hi, rfl, hO⟩ := hrel
      have HOi := Lib.hid hO
      clear hO
      by_cases hin : i < n
      · have i1 : (i : Int) < n := by omega
        have i0 : (0 : Int) ≤ i := by omega
        have HGI := Lib.hid (fun W o => HGA.out i W o)
        rw [HGL.out i hin] at HGI
        cases hm : (gl l i).may with
        | false =>
          rw [gain_no hm] at HGI
          clear hm
          go_wp2_with (fail)
          refine wp_region_held_drew (S := (fun _ => True)) (by kernel_rfl) ?_ (fun hHeld => ?_)
          · trivial
          refine wpAnyH_take (i := 0) (oi := { dst := some 70, op := Op.move (Operand.tmp 0), type := 22, pos := "law.go:66", after := #[], guard := none }) (v := ?_) rfl (by kernel_rfl) (by kernel_rfl) (by kernel_rfl) (fun _ _ _ h => h) (Or.inl ⟨by rfl, ?_⟩) (by assumption) ?_
          rotate_left
          · (intro w hSw; (try dsimp only at hSw); (try obtain ⟨hSa, hSb⟩ := hSw); go_simp; try with_reducible rfl)
          try simp only [Act.put, List.setIfInBounds_toArray, List.set_cons_zero, List.set_cons_succ]
          refine wpAnyH_take (i := 1) (oi := { dst := some 71, op := Op.move (Operand.tmp 7), type := 3, pos := "law.go:66", after := #[], guard := none }) (v := ?_) rfl (by kernel_rfl) (by kernel_rfl) (by kernel_rfl) (fun _ _ _ h => h) (Or.inl ⟨by rfl, ?_⟩) (by assumption) ?_
          rotate_left
          · (intro w hSw; (try dsimp only at hSw); (try obtain ⟨hSa, hSb⟩ := hSw); go_simp; try with_reducible rfl)
          try simp only [Act.put, List.setIfInBounds_toArray, List.set_cons_zero, List.set_cons_succ]
          refine wpAnyH_ready (rs := [2]) (by kernel_rfl) (by simp) ?_
          refine AllReadyH.cons (o := { dst := some 72, op := Op.call { callee := Callee.value (Operand.func 12), args := #[Operand.tmp 70, Operand.tmp 71], argTypes := #[22, 3] }, type := 3, pos := "law.go:66", after := #[{ on := 0, ground := Ground.data }, { on := 1, ground := Ground.data }], guard := none }) rfl (fun K hK => ?_) AllReadyH.nil
          go_simp
          refine (HGI.out _ (HOi.out.trans (Only.refl (fun _ => False) wr).drew)).mono ?_
          rintro e2 w3 ⟨rfl, hO3⟩
          have HO3 := Lib.hid ((HOi.out.trans (Only.refl (fun _ => False) wr).drew).trans hO3)
          clear hO3
          try simp only []
          refine hK.out _ _ ?_ (fun hHeld => ?_)
          · trivial
          clear hK K
          try simp only [Act.put, List.setIfInBounds_toArray, List.set_cons_zero, List.set_cons_succ]
          refine wpAnyH_take (i := 3) (oi := { dst := some 73, op := Op.binOp BinOp.gtr 3 (Operand.tmp 72) (Operand.const (Value.int IntKind.i64 0)) 3, type := 4, pos := "law.go:66", after := #[{ on := 2, ground := Ground.data }], guard := none }) (v := ?_) rfl (by kernel_rfl) (by kernel_rfl) (by kernel_rfl) (fun _ _ _ h => h) (Or.inl ⟨by rfl, ?_⟩) (by assumption) ?_
          rotate_left
          · (intro w hSw; (try dsimp only at hSw); (try obtain ⟨hSa, hSb⟩ := hSw); go_simp; try with_reducible rfl)
          try simp only [Act.put, List.setIfInBounds_toArray, List.set_cons_zero, List.set_cons_succ]
          refine wpAnyH_take (i := 4) (oi := { dst := some 74, op := Op.move (Operand.tmp 73), type := 4, pos := "law.go:66", after := #[{ on := 3, ground := Ground.data }, { on := 2, ground := Ground.chain }], guard := none }) (v := ?_) rfl (by kernel_rfl) (by kernel_rfl) (by kernel_rfl) (fun _ _ _ h => h) (Or.inl ⟨by rfl, ?_⟩) (by assumption) ?_
          rotate_left
          · (intro w hSw; (try dsimp only at hSw); (try obtain ⟨hSa, hSb⟩ := hSw); go_simp; try with_reducible rfl)
          try simp only [Act.put, List.setIfInBounds_toArray, List.set_cons_zero, List.set_cons_succ]
          refine wpAnyH_take (i := 5) (oi := { dst := some 75, op := Op.move (Operand.tmp 0), type := 22, pos := "law.go:66", after := #[{ on := 4, ground := Ground.guard }], guard := some (4, true) }) (v := undef) rfl (by kernel_rfl) (by kernel_rfl) (by kernel_rfl) (fun _ _ _ h => h) (Or.inr ⟨by rfl, rfl⟩) (by assumption) ?_
          try simp only [Act.put, List.setIfInBounds_toArray, List.set_cons_zero, List.set_cons_succ]
          refine wpAnyH_take (i := 6) (oi := { dst := some 76, op := Op.move (Operand.tmp 7), type := 3, pos := "law.go:66", after := #[{ on := 4, ground := Ground.guard }], guard := some (4, true) }) (v := undef) rfl (by kernel_rfl) (by kernel_rfl) (by kernel_rfl) (fun _ _ _ h => h) (Or.inr ⟨by rfl, rfl⟩) (by assumption) ?_
          try simp only [Act.put, List.setIfInBounds_toArray, List.set_cons_zero, List.set_cons_succ]
          refine wpAnyH_take (i := 7) (oi := { dst := some 77, op := Op.indexAddr 22 (Operand.tmp 75) (Operand.tmp 76), type := 0, pos := "law.go:66", after := #[{ on := 5, ground := Ground.data }, { on := 6, ground := Ground.data }, { on := 4, ground := Ground.guard }], guard := some (4, true) }) (v := undef) rfl (by kernel_rfl) (by kernel_rfl) (by kernel_rfl) (fun _ _ _ h => h) (Or.inr ⟨by rfl, rfl⟩) (by assumption) ?_
          try simp only [Act.put, List.setIfInBounds_toArray, List.set_cons_zero, List.set_cons_succ]
          refine wpAnyH_take (i := 8) (oi := { dst := some 78, op := Op.fieldAddr 33 (Operand.tmp 77) 3, type := 0, pos := "law.go:66", after := #[{ on := 7, ground := Ground.data }, { on := 4, ground := Ground.guard }], guard := some (4, true) }) (v := undef) rfl (by kernel_rfl) (by kernel_rfl) (by kernel_rfl) (fun _ _ _ h => h) (Or.inr ⟨by rfl, rfl⟩) (by assumption) ?_
          try simp only [Act.put, List.setIfInBounds_toArray, List.set_cons_zero, List.set_cons_succ]
          refine wpAnyH_take (i := 9) (oi := { dst := some 79, op := Op.load 3 (Operand.tmp 78), type := 3, pos := "law.go:66", after := #[{ on := 8, ground := Ground.data }, { on := 4, ground := Ground.guard }], guard := some (4, true) }) (v := undef) rfl (by kernel_rfl) (by kernel_rfl) (by kernel_rfl) (fun _ _ _ h => h) (Or.inr ⟨by rfl, rfl⟩) (by assumption) ?_
          try simp only [Act.put, List.setIfInBounds_toArray, List.set_cons_zero, List.set_cons_succ]
          refine wpAnyH_take (i := 10) (oi := { dst := some 80, op := Op.move (Operand.tmp 0), type := 22, pos := "law.go:66", after := #[{ on := 4, ground := Ground.guard }], guard := some (4, true) }) (v := undef) rfl (by kernel_rfl) (by kernel_rfl) (by kernel_rfl) (fun _ _ _ h => h) (Or.inr ⟨by rfl, rfl⟩) (by assumption) ?_
          try simp only [Act.put, List.setIfInBounds_toArray, List.set_cons_zero, List.set_cons_succ]
          refine wpAnyH_take (i := 11) (oi := { dst := some 81, op := Op.move (Operand.tmp 4), type := 3, pos := "law.go:66", after := #[{ on := 4, ground := Ground.guard }], guard := some (4, true) }) (v := undef) rfl (by kernel_rfl) (by kernel_rfl) (by kernel_rfl) (fun _ _ _ h => h) (Or.inr ⟨by rfl, rfl⟩) (by assumption) ?_
          try simp only [Act.put, List.setIfInBounds_toArray, List.set_cons_zero, List.set_cons_succ]
          refine wpAnyH_take (i := 12) (oi := { dst := some 82, op := Op.indexAddr 22 (Operand.tmp 80) (Operand.tmp 81), type := 0, pos := "law.go:66", after := #[{ on := 10, ground := Ground.data }, { on := 11, ground := Ground.data }, { on := 4, ground := Ground.guard }], guard := some (4, true) }) (v := undef) rfl (by kernel_rfl) (by kernel_rfl) (by kernel_rfl) (fun _ _ _ h => h) (Or.inr ⟨by rfl, rfl⟩) (by assumption) ?_
          try simp only [Act.put, List.setIfInBounds_toArray, List.set_cons_zero, List.set_cons_succ]
          refine wpAnyH_take (i := 13) (oi := { dst := some 83, op := Op.fieldAddr 33 (Operand.tmp 82) 3, type := 0, pos := "law.go:66", after := #[{ on := 12, ground := Ground.data }, { on := 4, ground := Ground.guard }], guard := some (4, true) }) (v := undef) rfl (by kernel_rfl) (by kernel_rfl) (by kernel_rfl) (fun _ _ _ h => h) (Or.inr ⟨by rfl, rfl⟩) (by assumption) ?_
          try simp only [Act.put, List.setIfInBounds_toArray, List.set_cons_zero, List.set_cons_succ]
          refine wpAnyH_take (i := 14) (oi := { dst := some 84, op := Op.load 3 (Operand.tmp 83), type := 3, pos := "law.go:66", after := #[{ on := 13, ground := Ground.data }, { on := 4, ground := Ground.guard }], guard := some (4, true) }) (v := undef) rfl (by kernel_rfl) (by kernel_rfl) (by kernel_rfl) (fun _ _ _ h => h) (Or.inr ⟨by rfl, rfl⟩) (by assumption) ?_
          try simp only [Act.put, List.setIfInBounds_toArray, List.set_cons_zero, List.set_cons_succ]
          refine wpAnyH_take (i := 15) (oi := { dst := some 85, op := Op.binOp BinOp.lss 3 (Operand.tmp 79) (Operand.tmp 84) 3, type := 4, pos := "law.go:66", after := #[{ on := 9, ground := Ground.data }, { on := 14, ground := Ground.data }, { on := 4, ground := Ground.guard }], guard := some (4, true) }) (v := undef) rfl (by kernel_rfl) (by kernel_rfl) (by kernel_rfl) (fun _ _ _ h => h) (Or.inr ⟨by rfl, rfl⟩) (by assumption) ?_
          try simp only [Act.put, List.setIfInBounds_toArray, List.set_cons_zero, List.set_cons_succ]
          refine wpAnyH_take (i := 16) (oi := { dst := some 86, op := Op.pick (Operand.tmp 74) (Operand.tmp 85) (Operand.const (Value.bool false)), type := 4, pos := "law.go:66", after := #[{ on := 4, ground := Ground.data }, { on := 15, ground := Ground.data }], guard := none }) (v := ?_) rfl (by kernel_rfl) (by kernel_rfl) (by kernel_rfl) (fun _ _ _ h => h) (Or.inl ⟨by rfl, ?_⟩) (by assumption) ?_
          rotate_left
          · (intro w hSw; (try dsimp only at hSw); (try obtain ⟨hSa, hSb⟩ := hSw); go_simp; try with_reducible rfl)
          try simp only [Act.put, List.setIfInBounds_toArray, List.set_cons_zero, List.set_cons_succ]
          refine wpAnyH_done (by kernel_rfl) ?_ _
          go_wp2
          go_roundw
          case rel => exact ⟨i + 1, by omega, by simp, HO3.out⟩
          case measure => simp [intOf]; omega
        | true =>
          have hgi := gain_yes hm
          have hva := HVA.out i hin hm
          have u1 := (HCI.out i hin wr HOi.out).c3
          have u2 := (HCB.out wr HOi.out).c3
          have HC1i := Lib.hid (fun W o => (HCI.out i hin W o).c3)
          have HC2i := Lib.hid (fun W o => (HCB.out W o).c3)
          generalize gainX (gl l i) = z at *
          generalize (gl l i).va = v1 at *
          generalize (gl l b).va = v2 at *
          have d1 : decide (0 < z) = true := by simp; omega
          have d2 : decide (v1 < v2) = false := by simp; omega
          clear hm
          go_wp2_with (fail)
          refine wp_region_held_drew (S := (fun W => W.cell? ⟨g, off + i * 5 + 3, none⟩ = some (.int .i64 v1) ∧ W.cell? ⟨g, off + b * 5 + 3, none⟩ = some (.int .i64 v2))) (by kernel_rfl) ?_ (fun hHeld => ?_)
          · exact ⟨u1, u2⟩
          refine wpAnyH_take (i := 0) (oi := { dst := some 70, op := Op.move (Operand.tmp 0), type := 22, pos := "law.go:66", after := #[], guard := none }) (v := ?_) rfl (by kernel_rfl) (by kernel_rfl) (by kernel_rfl) (fun _ _ _ h => h) (Or.inl ⟨by rfl, ?_⟩) (by assumption) ?_
          rotate_left
          · (intro w hSw; (try dsimp only at hSw); (try obtain ⟨hSa, hSb⟩ := hSw); go_simp; try with_reducible rfl)
          try simp only [Act.put, List.setIfInBounds_toArray, List.set_cons_zero, List.set_cons_succ]
          refine wpAnyH_take (i := 1) (oi := { dst := some 71, op := Op.move (Operand.tmp 7), type := 3, pos := "law.go:66", after := #[], guard := none }) (v := ?_) rfl (by kernel_rfl) (by kernel_rfl) (by kernel_rfl) (fun _ _ _ h => h) (Or.inl ⟨by rfl, ?_⟩) (by assumption) ?_
          rotate_left
          · (intro w hSw; (try dsimp only at hSw); (try obtain ⟨hSa, hSb⟩ := hSw); go_simp; try with_reducible rfl)
          try simp only [Act.put, List.setIfInBounds_toArray, List.set_cons_zero, List.set_cons_succ]
          refine wpAnyH_ready (rs := [2]) (by kernel_rfl) (by simp) ?_
          refine AllReadyH.cons (o := { dst := some 72, op := Op.call { callee := Callee.value (Operand.func 12), args := #[Operand.tmp 70, Operand.tmp 71], argTypes := #[22, 3] }, type := 3, pos := "law.go:66", after := #[{ on := 0, ground := Ground.data }, { on := 1, ground := Ground.data }], guard := none }) rfl (fun K hK => ?_) AllReadyH.nil
          go_simp
          refine (HGI.out _ (HOi.out.trans (Only.refl (fun _ => False) wr).drew)).mono ?_
          rintro e2 w3 ⟨rfl, hO3⟩
          have HO3 := Lib.hid ((HOi.out.trans (Only.refl (fun _ => False) wr).drew).trans hO3)
          clear hO3
          try simp only []
          refine hK.out _ _ ?_ (fun hHeld => ?_)
          · exact ⟨HC1i.out _ HO3.out, HC2i.out _ HO3.out⟩
          clear hK K
          try simp only [Act.put, List.setIfInBounds_toArray, List.set_cons_zero, List.set_cons_succ]
          refine wpAnyH_take (i := 3) (oi := { dst := some 73, op := Op.binOp BinOp.gtr 3 (Operand.tmp 72) (Operand.const (Value.int IntKind.i64 0)) 3, type := 4, pos := "law.go:66", after := #[{ on := 2, ground := Ground.data }], guard := none }) (v := ?_) rfl (by kernel_rfl) (by kernel_rfl) (by kernel_rfl) (fun _ _ _ h => h) (Or.inl ⟨by rfl, ?_⟩) (by assumption) ?_
          rotate_left
          · (intro w hSw; (try dsimp only at hSw); (try obtain ⟨hSa, hSb⟩ := hSw); go_simp; try with_reducible rfl)
          try simp only [Act.put, List.setIfInBounds_toArray, List.set_cons_zero, List.set_cons_succ]
          refine wpAnyH_take (i := 4) (oi := { dst := some 74, op := Op.move (Operand.tmp 73), type := 4, pos := "law.go:66", after := #[{ on := 3, ground := Ground.data }, { on := 2, ground := Ground.chain }], guard := none }) (v := ?_) rfl (by kernel_rfl) (by kernel_rfl) (by kernel_rfl) (fun _ _ _ h => h) (Or.inl ⟨by rfl, ?_⟩) (by assumption) ?_
          rotate_left
          · (intro w hSw; (try dsimp only at hSw); (try obtain ⟨hSa, hSb⟩ := hSw); go_simp; try with_reducible rfl)
          try simp only [Act.put, List.setIfInBounds_toArray, List.set_cons_zero, List.set_cons_succ]
          refine wpAnyH_take (i := 5) (oi := { dst := some 75, op := Op.move (Operand.tmp 0), type := 22, pos := "law.go:66", after := #[{ on := 4, ground := Ground.guard }], guard := some (4, true) }) (v := ?_) rfl (by kernel_rfl) (by kernel_rfl) (by kernel_rfl) (fun _ _ _ h => h) (Or.inl ⟨by rfl, ?_⟩) (by assumption) ?_
          rotate_left
          · (intro w hSw; (try dsimp only at hSw); (try obtain ⟨hSa, hSb⟩ := hSw); go_simp; try with_reducible rfl)
          try simp only [Act.put, List.setIfInBounds_toArray, List.set_cons_zero, List.set_cons_succ]
          refine wpAnyH_take (i := 6) (oi := { dst := some 76, op := Op.move (Operand.tmp 7), type := 3, pos := "law.go:66", after := #[{ on := 4, ground := Ground.guard }], guard := some (4, true) }) (v := ?_) rfl (by kernel_rfl) (by kernel_rfl) (by kernel_rfl) (fun _ _ _ h => h) (Or.inl ⟨by rfl, ?_⟩) (by assumption) ?_
          rotate_left
          · (intro w hSw; (try dsimp only at hSw); (try obtain ⟨hSa, hSb⟩ := hSw); go_simp; try with_reducible rfl)
          try simp only [Act.put, List.setIfInBounds_toArray, List.set_cons_zero, List.set_cons_succ]
          refine wpAnyH_take (i := 7) (oi := { dst := some 77, op := Op.indexAddr 22 (Operand.tmp 75) (Operand.tmp 76), type := 0, pos := "law.go:66", after := #[{ on := 5, ground := Ground.data }, { on := 6, ground := Ground.data }, { on := 4, ground := Ground.guard }], guard := some (4, true) }) (v := ?_) rfl (by kernel_rfl) (by kernel_rfl) (by kernel_rfl) (fun _ _ _ h => h) (Or.inl ⟨by rfl, ?_⟩) (by assumption) ?_
          rotate_left
          · (intro w hSw; (try dsimp only at hSw); (try obtain ⟨hSa, hSb⟩ := hSw); go_simp; try with_reducible rfl)
          try simp only [Act.put, List.setIfInBounds_toArray, List.set_cons_zero, List.set_cons_succ]
          refine wpAnyH_take (i := 8) (oi := { dst := some 78, op := Op.fieldAddr 33 (Operand.tmp 77) 3, type := 0, pos := "law.go:66", after := #[{ on := 7, ground := Ground.data }, { on := 4, ground := Ground.guard }], guard := some (4, true) }) (v := ?_) rfl (by kernel_rfl) (by kernel_rfl) (by kernel_rfl) (fun _ _ _ h => h) (Or.inl ⟨by rfl, ?_⟩) (by assumption) ?_
          rotate_left
          · (intro w hSw; (try dsimp only at hSw); (try obtain ⟨hSa, hSb⟩ := hSw); go_simp; try with_reducible rfl)
          try simp only [Act.put, List.setIfInBounds_toArray, List.set_cons_zero, List.set_cons_succ]
          refine wpAnyH_take (i := 9) (oi := { dst := some 79, op := Op.load 3 (Operand.tmp 78), type := 3, pos := "law.go:66", after := #[{ on := 8, ground := Ground.data }, { on := 4, ground := Ground.guard }], guard := some (4, true) }) (v := ?_) rfl (by kernel_rfl) (by kernel_rfl) (by kernel_rfl) (fun _ _ _ h => h) (Or.inl ⟨by rfl, ?_⟩) (by assumption) ?_
          rotate_left
          · (intro w hSw; (try dsimp only at hSw); (try obtain ⟨hSa, hSb⟩ := hSw); go_simp; try with_reducible rfl)
          try simp only [Act.put, List.setIfInBounds_toArray, List.set_cons_zero, List.set_cons_succ]
          refine wpAnyH_take (i := 10) (oi := { dst := some 80, op := Op.move (Operand.tmp 0), type := 22, pos := "law.go:66", after := #[{ on := 4, ground := Ground.guard }], guard := some (4, true) }) (v := ?_) rfl (by kernel_rfl) (by kernel_rfl) (by kernel_rfl) (fun _ _ _ h => h) (Or.inl ⟨by rfl, ?_⟩) (by assumption) ?_
          rotate_left
          · (intro w hSw; (try dsimp only at hSw); (try obtain ⟨hSa, hSb⟩ := hSw); go_simp; try with_reducible rfl)
          try simp only [Act.put, List.setIfInBounds_toArray, List.set_cons_zero, List.set_cons_succ]
          refine wpAnyH_take (i := 11) (oi := { dst := some 81, op := Op.move (Operand.tmp 4), type := 3, pos := "law.go:66", after := #[{ on := 4, ground := Ground.guard }], guard := some (4, true) }) (v := ?_) rfl (by kernel_rfl) (by kernel_rfl) (by kernel_rfl) (fun _ _ _ h => h) (Or.inl ⟨by rfl, ?_⟩) (by assumption) ?_
          rotate_left
          · (intro w hSw; (try dsimp only at hSw); (try obtain ⟨hSa, hSb⟩ := hSw); go_simp; try with_reducible rfl)
          try simp only [Act.put, List.setIfInBounds_toArray, List.set_cons_zero, List.set_cons_succ]
          refine wpAnyH_take (i := 12) (oi := { dst := some 82, op := Op.indexAddr 22 (Operand.tmp 80) (Operand.tmp 81), type := 0, pos := "law.go:66", after := #[{ on := 10, ground := Ground.data }, { on := 11, ground := Ground.data }, { on := 4, ground := Ground.guard }], guard := some (4, true) }) (v := ?_) rfl (by kernel_rfl) (by kernel_rfl) (by kernel_rfl) (fun _ _ _ h => h) (Or.inl ⟨by rfl, ?_⟩) (by assumption) ?_
          rotate_left
          · (intro w hSw; (try dsimp only at hSw); (try obtain ⟨hSa, hSb⟩ := hSw); go_simp; try with_reducible rfl)
          try simp only [Act.put, List.setIfInBounds_toArray, List.set_cons_zero, List.set_cons_succ]
          refine wpAnyH_take (i := 13) (oi := { dst := some 83, op := Op.fieldAddr 33 (Operand.tmp 82) 3, type := 0, pos := "law.go:66", after := #[{ on := 12, ground := Ground.data }, { on := 4, ground := Ground.guard }], guard := some (4, true) }) (v := ?_) rfl (by kernel_rfl) (by kernel_rfl) (by kernel_rfl) (fun _ _ _ h => h) (Or.inl ⟨by rfl, ?_⟩) (by assumption) ?_
          rotate_left
          · (intro w hSw; (try dsimp only at hSw); (try obtain ⟨hSa, hSb⟩ := hSw); go_simp; try with_reducible rfl)
          try simp only [Act.put, List.setIfInBounds_toArray, List.set_cons_zero, List.set_cons_succ]
          refine wpAnyH_take (i := 14) (oi := { dst := some 84, op := Op.load 3 (Operand.tmp 83), type := 3, pos := "law.go:66", after := #[{ on := 13, ground := Ground.data }, { on := 4, ground := Ground.guard }], guard := some (4, true) }) (v := ?_) rfl (by kernel_rfl) (by kernel_rfl) (by kernel_rfl) (fun _ _ _ h => h) (Or.inl ⟨by rfl, ?_⟩) (by assumption) ?_
          rotate_left
          · (intro w hSw; (try dsimp only at hSw); (try obtain ⟨hSa, hSb⟩ := hSw); go_simp; try with_reducible rfl)
          try simp only [Act.put, List.setIfInBounds_toArray, List.set_cons_zero, List.set_cons_succ]
          refine wpAnyH_take (i := 15) (oi := { dst := some 85, op := Op.binOp BinOp.lss 3 (Operand.tmp 79) (Operand.tmp 84) 3, type := 4, pos := "law.go:66", after := #[{ on := 9, ground := Ground.data }, { on := 14, ground := Ground.data }, { on := 4, ground := Ground.guard }], guard := some (4, true) }) (v := ?_) rfl (by kernel_rfl) (by kernel_rfl) (by kernel_rfl) (fun _ _ _ h => h) (Or.inl ⟨by rfl, ?_⟩) (by assumption) ?_
          rotate_left
          · (intro w hSw; (try dsimp only at hSw); (try obtain ⟨hSa, hSb⟩ := hSw); go_simp; try with_reducible rfl)
          try simp only [Act.put, List.setIfInBounds_toArray, List.set_cons_zero, List.set_cons_succ]
          refine wpAnyH_take (i := 16) (oi := { dst := some 86, op := Op.pick (Operand.tmp 74) (Operand.tmp 85) (Operand.const (Value.bool false)), type := 4, pos := "law.go:66", after := #[{ on := 4, ground := Ground.data }, { on := 15, ground := Ground.data }], guard := none }) (v := ?_) rfl (by kernel_rfl) (by kernel_rfl) (by kernel_rfl) (fun _ _ _ h => h) (Or.inl ⟨by rfl, ?_⟩) (by assumption) ?_
          rotate_left
          · (intro w hSw; (try dsimp only at hSw); (try obtain ⟨hSa, hSb⟩ := hSw); go_simp; try with_reducible rfl)
          try simp only [Act.put, List.setIfInBounds_toArray, List.set_cons_zero, List.set_cons_succ]
          refine wpAnyH_done (by kernel_rfl) ?_ _
          go_wp2
          go_roundw
          case rel => exact ⟨i + 1, by omega, by simp, HO3.out⟩
          case measure => simp [intOf]; omega
      · obtain rfl : i = n := by omega
        have i1 : decide ((i : Int) < i) = false := by simp
        go_wp2_with (fail)
        refine (HOA.out wr HOi.out).mono ?_
        rintro e w3 ⟨A2, c2, g2, d, rfl, hrow, hp, hs, hO2⟩
        rw [HN.out] at hp
        obtain ⟨o1, o2⟩ := HOUT.out d hp hs
        have hd0 : 0 < d.length := by rw [o1]; exact HC1.out
        obtain ⟨b', e1, e2⟩ := HFST.out HC1.out
        have hbb : b' = b := by have := HPKE.out; rw [e1] at this; omega
        have hix : ix d 0 = b := by
          rw [← o2, List.getElem?_map] at e2
          subst hbb
          rw [List.getElem?_eq_getElem hd0] at e2
          injection e2 with e2
          have e3 : ix d 0 = d[0] := by simp [ix, List.getD, hd0]
          rw [e3]
          exact Int.ofNat.inj e2
        obtain ⟨offd, rfl, hcd⟩ := nrow_at hrow hd0
        have y0 := (hcd 0 hd0).1
        rw [hix, Nat.add_zero] at y0
        have HO3 := Lib.hid (HOi.out.trans hO2)
        have k0 : (0 : Int) < d.length := by omega
        have t0 : ((b : Int) == (b : Int)) = true := by simp
        have hdle := mayL_le l i
        clear hO2 hrow hp hs e1 e2 o1 o2 hcd hix hbb hd0
        go_wp2
        go_ret
        exact ⟨by simp, HO3.out.below (Nat.le_refl _) (fun _ _ h => h)⟩
end Go.Proofs.Ytbcjpchjidgpeaa
