/- Victim: the law VictimTurned, walked. -/
import Derived.Test.YtbcjpchjidgpeaaAB
namespace Go.Proofs.Ytbcjpchjidgpeaa
open Go.RowKit

theorem lines_off {w : World} {g off : Nat} {l : List Ln} (h : Rd w g (some ⟨g, off, none⟩) (lv l)) (i : Nat) (hi : i < l.length) : LnAt w g (off + i * 5) (gl l i) := by
  obtain ⟨off', hA, hl⟩ := lines_at h (by omega)
  injection hA with hA; injection hA with _ hA _; subst hA
  exact hl i hi

set_option maxRecDepth 100000 in
set_option maxHeartbeats 16000000 in
theorem victimTurned_walk (g c : Nat) (A : Option Addr) (l : List Ln) (turn : Int) (w : World) (hr : Rd w g A (lv l)) (hc : l.length ≤ c) (hcm : c ≤ 9223372036854775807) :
    Calls Try.prog 6 #[.slice A l.length c, .int .i64 turn] w fun e w' => e = .returned (.bool true) ∧ Below w.heap.size w w' := by
  obtain ⟨i0, hi⟩ : ∃ i, Try.prog.info? 33 = some i := ⟨_, rfl⟩
  have hz0 : i0.zero = some (.agg #[.int .i64 0, .int .i64 0, .int .i64 0, .int .i64 0, .int .i64 0]) := by cases hi; rfl
  have hz1 : i0.size = 5 := by cases hi; rfl
  have hz2 : i0.bytes = 40 := by cases hi; rfl
  have HI := Lib.hid (And.intro hi (And.intro hz0 (And.intro hz1 hz2)))
  have HR0 := Lib.hid hr
  clear hr hi hz0 hz1 hz2
  by_cases hbad : 300 < l.length ∨ l.length = 0 ∨ turn < 0
  · have hb : (300 : Int) < l.length ∨ (¬ (300 : Int) < l.length ∧ l.length = 0) ∨ (¬ (300 : Int) < l.length ∧ l.length ≠ 0 ∧ turn < 0) := by omega
    clear hbad
    rcases hb with h | ⟨h1, h2⟩ | ⟨h1, h2, h3⟩
    all_goals
      try have h2' : ((l.length : Int) == 0) = false := beq_false_of_ne (by omega)
      try have h2' : ((l.length : Int) == 0) = true := by rw [h2]; rfl
      try have h1' : decide ((300 : Int) < l.length) = false := decide_eq_false h1
      try clear h2
      go_enter Try.func6, Try.ntmps6
      go_wp2_with (fail)
      refine (awake_any _).mono ?_
      rintro e w1 ⟨rfl, hO1⟩
      go_wp2
      go_ret
      exact ⟨rfl, hO1.below (Nat.le_refl _) (fun i hi h => h)⟩
  obtain ⟨t, rfl⟩ : ∃ t : Nat, turn = t := ⟨turn.toNat, by omega⟩
  have g1 : ¬ (300 : Int) < l.length := by omega
  have g2 : ((l.length : Int) == 0) = false := beq_false_of_ne (by omega)
  obtain ⟨k, hk⟩ : ∃ k, t % l.length = k := ⟨_, rfl⟩
  have hkn : k < l.length := by rw [← hk]; exact Nat.mod_lt _ (by omega)
  have hkm : (t : Int) % (l.length : Int) = (k : Int) := by rw [← hk]; rfl
  clear hk hbad
  have HD1 : Hid ((lv (l.drop k)).length = (l.length - k) * 5) := Lib.hid (by rw [lv_len, List.length_drop])
  have HD2 : Hid ((lv (l.take k)).length = k * 5) := Lib.hid (by rw [lv_len, List.length_take, Nat.min_eq_left (by omega)])
  obtain ⟨off, rfl, hlt, hcell⟩ := HR0.out.at (by intro e; have := lv_length l; rw [e] at this; simp at this; omega)
  have HR : ∀ W, Only (fun _ => False) w W → Rd W g (some ⟨g, off + k * 5, none⟩) (lv (l.drop k)) ∧ Rd W g (some ⟨g, off, none⟩) (lv (l.take k)) := by
    intro W hW
    have hs : lv l = lv (l.take k) ++ lv (l.drop k) := by rw [← lv_app, List.take_append_drop]
    have h1 : Rd w g (some ⟨g, off + k * 5, none⟩) (lv (l.drop k)) := .inr ⟨off + k * 5, rfl, hlt, fun j u hu => by
      have := hcell (k * 5 + j) u (by rw [hs, List.getElem?_append_right (by rw [HD2.out]; omega), HD2.out]; rw [← hu]; congr 1; omega)
      rwa [← Nat.add_assoc] at this⟩
    have h2 : Rd w g (some ⟨g, off, none⟩) (lv (l.take k)) := .inr ⟨off, rfl, hlt, fun j u hu => by
      exact hcell j u (by rw [hs, List.getElem?_append_left (List.getElem?_eq_some_iff.1 hu).1]; exact hu)⟩
    exact ⟨h1.only hW id, h2.only hW id⟩
  have HRW := Lib.hid HR
  have HLT := Lib.hid hlt
  have HP1 := Lib.hid (fun W (o : Only (fun _ => False) w W) => pick_any g c (some ⟨g, off, none⟩) l W (by omega) (HR0.out.only o id))
  have HQ1 := Lib.hid (fun W (o : Only (fun _ => False) w W) => order_any g c (some ⟨g, off, none⟩) l W (by omega) (HR0.out.only o id))
  have hml : (l.drop k ++ l.take k).length = l.length := by simp; omega
  have HP2 := Lib.hid (fun W gM cM AM (r : Rd W gM AM (lv (l.drop k ++ l.take k))) => pick_any gM cM AM (l.drop k ++ l.take k) W (by omega) r)
  have HQ2 := Lib.hid (fun W gM cM AM (r : Rd W gM AM (lv (l.drop k ++ l.take k))) => order_any gM cM AM (l.drop k ++ l.take k) W (by omega) r)
  have HLN : Hid (∀ d1 d2 : List Nat, d1.Perm (mayL l l.length) → So l d1 0 d1.length → d2.Perm (mayL (l.drop k ++ l.take k) (l.drop k ++ l.take k).length) → So (l.drop k ++ l.take k) d2 0 d2.length → d2.length = d1.length) := Lib.hid (fun d1 d2 h1 h2 h3 h4 => by
    rw [(ord_out _ d2 h3 h4).1, (ord_out _ d1 h1 h2).1, cnt_turn])
  have HTL := Lib.hid (turn_law l k)
  have HLA := Lib.hid (fun W (o : Only (fun _ => False) w W) i (hi : i < l.length) => lines_off (HR0.out.only o id) i hi)
  have HML := Lib.hid hml
  rw [hml] at HP2 HQ2 HTL HLN
  have HSPL : Hid (lv (l.drop k) ++ lv (l.take k) = lv (l.drop k ++ l.take k)) := Lib.hid (lv_app _ _).symm
  generalize hmm : l.drop k ++ l.take k = m at *
  clear hcell HR hlt hmm hml
  obtain ⟨n, hn⟩ : ∃ n, l.length = n := ⟨_, rfl⟩
  have HN := Lib.hid hn
  rw [hn] at hc g1 g2 hkn hkm HD1 HP1 HP2 HQ1 HQ2 HTL HLN HLA HML ⊢
  clear hn
  have k0 : (0 : Int) ≤ k := by omega
  have k1 : (k : Int) ≤ n := by omega
  have k2 : (k : Int) ≤ c := by omega
  have k3 : (n : Int) ≤ c := by omega
  have k4 : (k : Int) < c := by omega
  have k5 : ¬ c = k := by omega
  have n1 : (n : Int) ≠ 0 := by omega
  go_enter Try.func6, Try.ntmps6
  go_wp2_with (fail)
  refine (awake_any _).mono ?_
  rintro e w1 ⟨rfl, hO1⟩
  have HO1 := Lib.hid hO1
  have HR := Lib.hid (HRW.out w1 hO1)
  have hsw : w.heap.size ≤ w1.heap.size := hO1.size
  have hgw : g < w1.heap.size := by have := HLT.out; omega
  clear hO1
  go_wp2_with (fail)
  refine wp_region_held_drew (S := (fun _ => True)) (by kernel_rfl) ?_ (fun hHeld => ?_)
  · trivial
  refine wpAnyH_take (i := 1) (oi := { dst := some 31, op := Op.move (Operand.tmp 0), type := 22, pos := "law.go:81", after := #[], guard := none }) (v := ?_) rfl (by kernel_rfl) (by kernel_rfl) (by kernel_rfl) (fun _ _ _ h => h) (Or.inl ⟨by rfl, ?_⟩) (by assumption) ?_
  rotate_left
  · (intro w hSw; (try dsimp only at hSw); (try obtain ⟨hSa, hSb⟩ := hSw); go_simp; try with_reducible rfl)
  try simp only [Act.put, List.setIfInBounds_toArray, List.set_cons_zero, List.set_cons_succ]
  refine wpAnyH_take (i := 2) (oi := { dst := some 32, op := Op.move (Operand.tmp 6), type := 3, pos := "law.go:81", after := #[], guard := none }) (v := ?_) rfl (by kernel_rfl) (by kernel_rfl) (by kernel_rfl) (fun _ _ _ h => h) (Or.inl ⟨by rfl, ?_⟩) (by assumption) ?_
  rotate_left
  · (intro w hSw; (try dsimp only at hSw); (try obtain ⟨hSa, hSb⟩ := hSw); go_simp; try with_reducible rfl)
  try simp only [Act.put, List.setIfInBounds_toArray, List.set_cons_zero, List.set_cons_succ]
  refine wpAnyH_take (i := 3) (oi := { dst := some 33, op := Op.slice 22 (Operand.tmp 31) (some (Operand.tmp 32)) none none, type := 22, pos := "law.go:81", after := #[{ on := 1, ground := Ground.data }, { on := 2, ground := Ground.data }], guard := none }) (v := ?_) rfl (by kernel_rfl) (by kernel_rfl) (by kernel_rfl) (fun _ _ _ h => h) (Or.inl ⟨by rfl, ?_⟩) (by assumption) ?_
  rotate_left
  · (intro w hSw; (try dsimp only at hSw); (try obtain ⟨hSa, hSb⟩ := hSw); go_simp; try with_reducible rfl)
  try simp only [Act.put, List.setIfInBounds_toArray, List.set_cons_zero, List.set_cons_succ]
  refine wpAnyH_take (i := 5) (oi := { dst := some 35, op := Op.move (Operand.tmp 0), type := 22, pos := "law.go:81", after := #[], guard := none }) (v := ?_) rfl (by kernel_rfl) (by kernel_rfl) (by kernel_rfl) (fun _ _ _ h => h) (Or.inl ⟨by rfl, ?_⟩) (by assumption) ?_
  rotate_left
  · (intro w hSw; (try dsimp only at hSw); (try obtain ⟨hSa, hSb⟩ := hSw); go_simp; try with_reducible rfl)
  try simp only [Act.put, List.setIfInBounds_toArray, List.set_cons_zero, List.set_cons_succ]
  refine wpAnyH_take (i := 6) (oi := { dst := some 36, op := Op.move (Operand.tmp 6), type := 3, pos := "law.go:81", after := #[], guard := none }) (v := ?_) rfl (by kernel_rfl) (by kernel_rfl) (by kernel_rfl) (fun _ _ _ h => h) (Or.inl ⟨by rfl, ?_⟩) (by assumption) ?_
  rotate_left
  · (intro w hSw; (try dsimp only at hSw); (try obtain ⟨hSa, hSb⟩ := hSw); go_simp; try with_reducible rfl)
  try simp only [Act.put, List.setIfInBounds_toArray, List.set_cons_zero, List.set_cons_succ]
  refine wpAnyH_take (i := 7) (oi := { dst := some 37, op := Op.slice 22 (Operand.tmp 35) none (some (Operand.tmp 36)) none, type := 22, pos := "law.go:81", after := #[{ on := 5, ground := Ground.data }, { on := 6, ground := Ground.data }], guard := none }) (v := ?_) rfl (by kernel_rfl) (by kernel_rfl) (by kernel_rfl) (fun _ _ _ h => h) (Or.inl ⟨by rfl, ?_⟩) (by assumption) ?_
  rotate_left
  · (intro w hSw; (try dsimp only at hSw); (try obtain ⟨hSa, hSb⟩ := hSw); go_simp; try with_reducible rfl)
  try simp only [Act.put, List.setIfInBounds_toArray, List.set_cons_zero, List.set_cons_succ]
  refine wpAnyH_ready (rs := [0]) (by kernel_rfl) (by simp) ?_
  refine AllReadyH.cons (o := { dst := some 30, op := Op.buildSlice 22 0 #[], type := 22, pos := "law.go:81", after := #[], guard := none }) rfl (fun K hK => ?_) AllReadyH.nil
  go_simp
  skip
  refine hK.out _ _ ?_ (fun hHeld => ?_)
  · trivial
  clear hK K
  try simp only [Act.put, List.setIfInBounds_toArray, List.set_cons_zero, List.set_cons_succ]
  refine wpAnyH_ready (rs := [4]) (by kernel_rfl) (by simp) ?_
  refine AllReadyH.cons (o := { dst := some 34, op := Op.call { callee := Callee.builtin Builtin.append, args := #[Operand.tmp 30, Operand.tmp 33], argTypes := #[22, 22] }, type := 22, pos := "law.go:81", after := #[{ on := 0, ground := Ground.data }, { on := 3, ground := Ground.data }], guard := none }) rfl (fun K hK => ?_) AllReadyH.nil
  refine step_append_src rfl (.tmp 30) (.tmp 33) 22 rfl w1.heap.size 33 i0 (.agg #[.int .i64 0, .int .i64 0, .int .i64 0, .int .i64 0, .int .i64 0]) 5 40 Try.underlying22 HI.out.1 HI.out.2.1 HI.out.2.2.1 HI.out.2.2.2 rfl (by decide) (.slice (some ⟨w1.heap.size, 0, none⟩) 0 0) 0 [] rfl (own_fresh (At.new' (by simp) 33 #[]) (by omega) 5).drew g (some ⟨g, off + k * 5, none⟩) (n - k) (c - k) (lv (l.drop k)) rfl (HD1.out) ((HR.out.1.only ((Only.refl (fun _ => False) w1).alloc (.cells #[] 33)) id).only (S := fun _ => False) ((Only.refl _ _).drew) id) (lv_one _) (by unfold maxLen; omega) (by omega) (by simp) ?_
  intro A1 c1 wa hc1 hown1 hg1
  simp only [Nat.zero_add, List.nil_append] at hown1 hc1
  simp only [Nat.zero_add]
  have HOa := Lib.hid ((HO1.out.alloc (.cells #[] 33)).drew.append (own_fresh (At.new' (g := w1.heap.size) (w := w1) (by simp) 33 #[]) (Nat.le_refl _) 5).drew hg1 (fun i hi hb => by have := HO1.out.size; omega))
  have HRa := Lib.hid (((HR.out.2.only ((Only.refl (fun _ => False) w1).alloc (.cells #[] 33)) id).only (S := fun _ => False) ((Only.refl _ _).drew) id).grown hg1 (by intro _; simp [Value.ownBlock]; omega))
  have HOW1 := Lib.hid hown1
  have hsa : w1.heap.size ≤ wa.heap.size := by have := hg1.size; simp at this; omega
  clear hown1 hg1
  refine hK.out _ _ ?_ (fun hHeld => ?_)
  · trivial
  clear hK K
  try simp only [Act.put, List.setIfInBounds_toArray, List.set_cons_zero, List.set_cons_succ]
  refine wpAnyH_ready (rs := [8]) (by kernel_rfl) (by simp) ?_
  refine AllReadyH.cons (o := { dst := some 38, op := Op.call { callee := Callee.builtin Builtin.append, args := #[Operand.tmp 34, Operand.tmp 37], argTypes := #[22, 22] }, type := 22, pos := "law.go:81", after := #[{ on := 4, ground := Ground.data }, { on := 7, ground := Ground.data }, { on := 4, ground := Ground.chain }], guard := none }) rfl (fun K hK => ?_) AllReadyH.nil
  refine step_append_src rfl (.tmp 34) (.tmp 37) 22 rfl w1.heap.size 33 i0 (.agg #[.int .i64 0, .int .i64 0, .int .i64 0, .int .i64 0, .int .i64 0]) 5 40 Try.underlying22 HI.out.1 HI.out.2.1 HI.out.2.2.1 HI.out.2.2.2 rfl (by decide) (.slice A1 (n - k) c1) (n - k) (lv (l.drop k)) rfl HOW1.out g (some ⟨g, off, none⟩) k c (lv (l.take k)) rfl HD2.out HRa.out (lv_one _) (by unfold maxLen; omega) (by omega) hsa ?_
  intro A2 c2 wb hc2 hown2 hg2
  rw [show n - k + k = n from by omega] at hown2 hc2
  simp only [show n - k + k = n from by omega]
  have HOb := Lib.hid (HOa.out.append HOW1.out hg2 (fun i hi hb => by have := HO1.out.size; omega))
  have HOW2 := Lib.hid hown2
  clear hown2 hg2
  refine hK.out _ _ ?_ (fun hHeld => ?_)
  · trivial
  clear hK K
  try simp only [Act.put, List.setIfInBounds_toArray, List.set_cons_zero, List.set_cons_succ]
  refine wpAnyH_take (i := 9) (oi := { dst := some 7, op := Op.assign (Operand.tmp 38), type := 22, pos := "law.go:81", after := #[{ on := 8, ground := Ground.data }, { on := 8, ground := Ground.chain }, { on := 0, ground := Ground.phase }, { on := 1, ground := Ground.phase }, { on := 2, ground := Ground.phase }, { on := 3, ground := Ground.phase }, { on := 4, ground := Ground.phase }, { on := 5, ground := Ground.phase }, { on := 6, ground := Ground.phase }, { on := 7, ground := Ground.phase }, { on := 8, ground := Ground.phase }], guard := none }) (v := ?_) rfl (by kernel_rfl) (by kernel_rfl) (by kernel_rfl) (fun _ _ _ h => h) (Or.inl ⟨by rfl, ?_⟩) (by assumption) ?_
  rotate_left
  · (intro w hSw; (try dsimp only at hSw); (try obtain ⟨hSa, hSb⟩ := hSw); go_simp; try with_reducible rfl)
  try simp only [Act.put, List.setIfInBounds_toArray, List.set_cons_zero, List.set_cons_succ]
  refine wpAnyH_done (by kernel_rfl) ?_ _
  obtain ⟨gM, hgM, hrM⟩ := own_row HOW2.out (by rw [HSPL.out]; intro e; have := lv_length m; rw [e] at this; simp at this; have := HML.out; omega)
  rw [HSPL.out] at hrM
  have HRM := Lib.hid hrM
  clear HOW1 HOW2 HOa HRa HRW hrM hsa HD1 HD2 HR hc1 hc2 hgM
  have HPM := Lib.hid (fun W (o : Only (fun _ => False) wb W) => HP2.out W gM c2 A2 (HRM.out.only o id))
  have HQM := Lib.hid (fun W (o : Only (fun _ => False) wb W) => HQ2.out W gM c2 A2 (HRM.out.only o id))
  clear HP2 HQ2
  rcases HTL.out with ⟨p1, p2⟩ | ⟨a, b, p1, p2, q1, q2, v1, v2⟩
  · rw [p1] at HP1
    rw [p2] at HPM
    have m0 : max (-1 : Int) 0 = 0 := by decide
    have m1 : decide ((0 : Int) ≤ -1) = false := by decide
    rw [m0, m1] at HP1 HPM
    clear p1 p2 HTL
    go_wp2_with (fail)
    refine (HP1.out _ HOb.out).mono ?_
    rintro e w2 ⟨rfl, hO⟩
    have HO2 := Lib.hid hO
    clear hO
    go_wp2_with (fail)
    refine (HPM.out _ HO2.out).mono ?_
    rintro e w3 ⟨rfl, hO⟩
    have HO3 := Lib.hid (HO2.out.trans hO)
    clear hO
    go_wp2_with (fail)
    refine wp_region_held_drew (S := (fun _ => True)) (by kernel_rfl) ?_ (fun hHeld => ?_)
    · trivial
    refine wpAnyH_take (i := 0) (oi := { dst := some 75, op := Op.move (Operand.tmp 5), type := 4, pos := "law.go:87", after := #[], guard := none }) (v := ?_) rfl (by kernel_rfl) (by kernel_rfl) (by kernel_rfl) (fun _ _ _ h => h) (Or.inl ⟨by rfl, ?_⟩) (by assumption) ?_
    rotate_left
    · (intro w hSw; (try dsimp only at hSw); (try obtain ⟨hSa, hSb⟩ := hSw); go_simp; try with_reducible rfl)
    try simp only [Act.put, List.setIfInBounds_toArray, List.set_cons_zero, List.set_cons_succ]
    refine wpAnyH_take (i := 1) (oi := { dst := some 76, op := Op.move (Operand.tmp 75), type := 4, pos := "law.go:87", after := #[{ on := 0, ground := Ground.data }], guard := none }) (v := ?_) rfl (by kernel_rfl) (by kernel_rfl) (by kernel_rfl) (fun _ _ _ h => h) (Or.inl ⟨by rfl, ?_⟩) (by assumption) ?_
    rotate_left
    · (intro w hSw; (try dsimp only at hSw); (try obtain ⟨hSa, hSb⟩ := hSw); go_simp; try with_reducible rfl)
    try simp only [Act.put, List.setIfInBounds_toArray, List.set_cons_zero, List.set_cons_succ]
    refine wpAnyH_take (i := 2) (oi := { dst := some 77, op := Op.move (Operand.tmp 9), type := 4, pos := "law.go:87", after := #[{ on := 1, ground := Ground.guard }], guard := some (1, true) }) (v := ?_) rfl (by kernel_rfl) (by kernel_rfl) (by kernel_rfl) (fun _ _ _ h => h) (Or.inl ⟨by rfl, ?_⟩) (by assumption) ?_
    rotate_left
    · (intro w hSw; (try dsimp only at hSw); (try obtain ⟨hSa, hSb⟩ := hSw); go_simp; try with_reducible rfl)
    try simp only [Act.put, List.setIfInBounds_toArray, List.set_cons_zero, List.set_cons_succ]
    refine wpAnyH_take (i := 3) (oi := { dst := some 78, op := Op.unOp UnOp.not 4 (Operand.tmp 77), type := 4, pos := "law.go:87", after := #[{ on := 2, ground := Ground.data }, { on := 1, ground := Ground.guard }], guard := some (1, true) }) (v := ?_) rfl (by kernel_rfl) (by kernel_rfl) (by kernel_rfl) (fun _ _ _ h => h) (Or.inl ⟨by rfl, ?_⟩) (by assumption) ?_
    rotate_left
    · (intro w hSw; (try dsimp only at hSw); (try obtain ⟨hSa, hSb⟩ := hSw); go_simp; try with_reducible rfl)
    try simp only [Act.put, List.setIfInBounds_toArray, List.set_cons_zero, List.set_cons_succ]
    refine wpAnyH_take (i := 4) (oi := { dst := some 79, op := Op.move (Operand.tmp 78), type := 4, pos := "law.go:87", after := #[{ on := 3, ground := Ground.data }, { on := 1, ground := Ground.chain }, { on := 1, ground := Ground.guard }], guard := some (1, true) }) (v := ?_) rfl (by kernel_rfl) (by kernel_rfl) (by kernel_rfl) (fun _ _ _ h => h) (Or.inl ⟨by rfl, ?_⟩) (by assumption) ?_
    rotate_left
    · (intro w hSw; (try dsimp only at hSw); (try obtain ⟨hSa, hSb⟩ := hSw); go_simp; try with_reducible rfl)
    try simp only [Act.put, List.setIfInBounds_toArray, List.set_cons_zero, List.set_cons_succ]
    refine wpAnyH_take (i := 5) (oi := { dst := some 80, op := Op.move (Operand.tmp 0), type := 22, pos := "law.go:87", after := #[{ on := 4, ground := Ground.guard }], guard := some (4, false) }) (v := undef) rfl (by kernel_rfl) (by kernel_rfl) (by kernel_rfl) (fun _ _ _ h => h) (Or.inr ⟨by rfl, rfl⟩) (by assumption) ?_
    try simp only [Act.put, List.setIfInBounds_toArray, List.set_cons_zero, List.set_cons_succ]
    refine wpAnyH_take (i := 6) (oi := { dst := some 81, op := Op.move (Operand.tmp 8), type := 3, pos := "law.go:87", after := #[{ on := 4, ground := Ground.guard }], guard := some (4, false) }) (v := undef) rfl (by kernel_rfl) (by kernel_rfl) (by kernel_rfl) (fun _ _ _ h => h) (Or.inr ⟨by rfl, rfl⟩) (by assumption) ?_
    try simp only [Act.put, List.setIfInBounds_toArray, List.set_cons_zero, List.set_cons_succ]
    refine wpAnyH_take (i := 7) (oi := { dst := some 82, op := Op.indexAddr 22 (Operand.tmp 80) (Operand.tmp 81), type := 0, pos := "law.go:87", after := #[{ on := 5, ground := Ground.data }, { on := 6, ground := Ground.data }, { on := 4, ground := Ground.guard }], guard := some (4, false) }) (v := undef) rfl (by kernel_rfl) (by kernel_rfl) (by kernel_rfl) (fun _ _ _ h => h) (Or.inr ⟨by rfl, rfl⟩) (by assumption) ?_
    try simp only [Act.put, List.setIfInBounds_toArray, List.set_cons_zero, List.set_cons_succ]
    refine wpAnyH_take (i := 8) (oi := { dst := some 83, op := Op.fieldAddr 33 (Operand.tmp 82) 3, type := 0, pos := "law.go:87", after := #[{ on := 7, ground := Ground.data }, { on := 4, ground := Ground.guard }], guard := some (4, false) }) (v := undef) rfl (by kernel_rfl) (by kernel_rfl) (by kernel_rfl) (fun _ _ _ h => h) (Or.inr ⟨by rfl, rfl⟩) (by assumption) ?_
    try simp only [Act.put, List.setIfInBounds_toArray, List.set_cons_zero, List.set_cons_succ]
    refine wpAnyH_take (i := 9) (oi := { dst := some 84, op := Op.load 3 (Operand.tmp 83), type := 3, pos := "law.go:87", after := #[{ on := 8, ground := Ground.data }, { on := 4, ground := Ground.guard }], guard := some (4, false) }) (v := undef) rfl (by kernel_rfl) (by kernel_rfl) (by kernel_rfl) (fun _ _ _ h => h) (Or.inr ⟨by rfl, rfl⟩) (by assumption) ?_
    try simp only [Act.put, List.setIfInBounds_toArray, List.set_cons_zero, List.set_cons_succ]
    refine wpAnyH_take (i := 10) (oi := { dst := some 85, op := Op.move (Operand.tmp 7), type := 22, pos := "law.go:87", after := #[{ on := 4, ground := Ground.guard }], guard := some (4, false) }) (v := undef) rfl (by kernel_rfl) (by kernel_rfl) (by kernel_rfl) (fun _ _ _ h => h) (Or.inr ⟨by rfl, rfl⟩) (by assumption) ?_
    try simp only [Act.put, List.setIfInBounds_toArray, List.set_cons_zero, List.set_cons_succ]
    refine wpAnyH_take (i := 11) (oi := { dst := some 86, op := Op.move (Operand.tmp 10), type := 3, pos := "law.go:87", after := #[{ on := 4, ground := Ground.guard }], guard := some (4, false) }) (v := undef) rfl (by kernel_rfl) (by kernel_rfl) (by kernel_rfl) (fun _ _ _ h => h) (Or.inr ⟨by rfl, rfl⟩) (by assumption) ?_
    try simp only [Act.put, List.setIfInBounds_toArray, List.set_cons_zero, List.set_cons_succ]
    refine wpAnyH_take (i := 12) (oi := { dst := some 87, op := Op.indexAddr 22 (Operand.tmp 85) (Operand.tmp 86), type := 0, pos := "law.go:87", after := #[{ on := 10, ground := Ground.data }, { on := 11, ground := Ground.data }, { on := 4, ground := Ground.guard }], guard := some (4, false) }) (v := undef) rfl (by kernel_rfl) (by kernel_rfl) (by kernel_rfl) (fun _ _ _ h => h) (Or.inr ⟨by rfl, rfl⟩) (by assumption) ?_
    try simp only [Act.put, List.setIfInBounds_toArray, List.set_cons_zero, List.set_cons_succ]
    refine wpAnyH_take (i := 13) (oi := { dst := some 88, op := Op.fieldAddr 33 (Operand.tmp 87) 3, type := 0, pos := "law.go:87", after := #[{ on := 12, ground := Ground.data }, { on := 4, ground := Ground.guard }], guard := some (4, false) }) (v := undef) rfl (by kernel_rfl) (by kernel_rfl) (by kernel_rfl) (fun _ _ _ h => h) (Or.inr ⟨by rfl, rfl⟩) (by assumption) ?_
    try simp only [Act.put, List.setIfInBounds_toArray, List.set_cons_zero, List.set_cons_succ]
    refine wpAnyH_take (i := 14) (oi := { dst := some 89, op := Op.load 3 (Operand.tmp 88), type := 3, pos := "law.go:87", after := #[{ on := 13, ground := Ground.data }, { on := 4, ground := Ground.guard }], guard := some (4, false) }) (v := undef) rfl (by kernel_rfl) (by kernel_rfl) (by kernel_rfl) (fun _ _ _ h => h) (Or.inr ⟨by rfl, rfl⟩) (by assumption) ?_
    try simp only [Act.put, List.setIfInBounds_toArray, List.set_cons_zero, List.set_cons_succ]
    refine wpAnyH_take (i := 15) (oi := { dst := some 90, op := Op.binOp BinOp.eql 3 (Operand.tmp 84) (Operand.tmp 89) 3, type := 4, pos := "law.go:87", after := #[{ on := 9, ground := Ground.data }, { on := 14, ground := Ground.data }, { on := 4, ground := Ground.guard }], guard := some (4, false) }) (v := undef) rfl (by kernel_rfl) (by kernel_rfl) (by kernel_rfl) (fun _ _ _ h => h) (Or.inr ⟨by rfl, rfl⟩) (by assumption) ?_
    try simp only [Act.put, List.setIfInBounds_toArray, List.set_cons_zero, List.set_cons_succ]
    refine wpAnyH_take (i := 16) (oi := { dst := some 91, op := Op.move (Operand.tmp 90), type := 4, pos := "law.go:87", after := #[{ on := 15, ground := Ground.data }, { on := 4, ground := Ground.chain }, { on := 4, ground := Ground.guard }], guard := some (4, false) }) (v := undef) rfl (by kernel_rfl) (by kernel_rfl) (by kernel_rfl) (fun _ _ _ h => h) (Or.inr ⟨by rfl, rfl⟩) (by assumption) ?_
    try simp only [Act.put, List.setIfInBounds_toArray, List.set_cons_zero, List.set_cons_succ]
    refine wpAnyH_take (i := 17) (oi := { dst := some 92, op := Op.move (Operand.tmp 0), type := 22, pos := "law.go:87", after := #[{ on := 16, ground := Ground.guard }], guard := some (16, true) }) (v := undef) rfl (by kernel_rfl) (by kernel_rfl) (by kernel_rfl) (fun _ _ _ h => h) (Or.inr ⟨by rfl, rfl⟩) (by assumption) ?_
    try simp only [Act.put, List.setIfInBounds_toArray, List.set_cons_zero, List.set_cons_succ]
    refine wpAnyH_take (i := 18) (oi := { dst := some 93, op := Op.move (Operand.tmp 8), type := 3, pos := "law.go:87", after := #[{ on := 16, ground := Ground.guard }], guard := some (16, true) }) (v := undef) rfl (by kernel_rfl) (by kernel_rfl) (by kernel_rfl) (fun _ _ _ h => h) (Or.inr ⟨by rfl, rfl⟩) (by assumption) ?_
    try simp only [Act.put, List.setIfInBounds_toArray, List.set_cons_zero, List.set_cons_succ]
    refine wpAnyH_take (i := 19) (oi := { dst := some 94, op := Op.indexAddr 22 (Operand.tmp 92) (Operand.tmp 93), type := 0, pos := "law.go:87", after := #[{ on := 17, ground := Ground.data }, { on := 18, ground := Ground.data }, { on := 16, ground := Ground.guard }], guard := some (16, true) }) (v := undef) rfl (by kernel_rfl) (by kernel_rfl) (by kernel_rfl) (fun _ _ _ h => h) (Or.inr ⟨by rfl, rfl⟩) (by assumption) ?_
    try simp only [Act.put, List.setIfInBounds_toArray, List.set_cons_zero, List.set_cons_succ]
    refine wpAnyH_take (i := 20) (oi := { dst := some 95, op := Op.fieldAddr 33 (Operand.tmp 94) 1, type := 0, pos := "law.go:87", after := #[{ on := 19, ground := Ground.data }, { on := 16, ground := Ground.guard }], guard := some (16, true) }) (v := undef) rfl (by kernel_rfl) (by kernel_rfl) (by kernel_rfl) (fun _ _ _ h => h) (Or.inr ⟨by rfl, rfl⟩) (by assumption) ?_
    try simp only [Act.put, List.setIfInBounds_toArray, List.set_cons_zero, List.set_cons_succ]
    refine wpAnyH_take (i := 21) (oi := { dst := some 96, op := Op.load 3 (Operand.tmp 95), type := 3, pos := "law.go:87", after := #[{ on := 20, ground := Ground.data }, { on := 16, ground := Ground.guard }], guard := some (16, true) }) (v := undef) rfl (by kernel_rfl) (by kernel_rfl) (by kernel_rfl) (fun _ _ _ h => h) (Or.inr ⟨by rfl, rfl⟩) (by assumption) ?_
    try simp only [Act.put, List.setIfInBounds_toArray, List.set_cons_zero, List.set_cons_succ]
    refine wpAnyH_take (i := 22) (oi := { dst := some 97, op := Op.move (Operand.tmp 7), type := 22, pos := "law.go:87", after := #[{ on := 16, ground := Ground.guard }], guard := some (16, true) }) (v := undef) rfl (by kernel_rfl) (by kernel_rfl) (by kernel_rfl) (fun _ _ _ h => h) (Or.inr ⟨by rfl, rfl⟩) (by assumption) ?_
    try simp only [Act.put, List.setIfInBounds_toArray, List.set_cons_zero, List.set_cons_succ]
    refine wpAnyH_take (i := 23) (oi := { dst := some 98, op := Op.move (Operand.tmp 10), type := 3, pos := "law.go:87", after := #[{ on := 16, ground := Ground.guard }], guard := some (16, true) }) (v := undef) rfl (by kernel_rfl) (by kernel_rfl) (by kernel_rfl) (fun _ _ _ h => h) (Or.inr ⟨by rfl, rfl⟩) (by assumption) ?_
    try simp only [Act.put, List.setIfInBounds_toArray, List.set_cons_zero, List.set_cons_succ]
    refine wpAnyH_take (i := 24) (oi := { dst := some 99, op := Op.indexAddr 22 (Operand.tmp 97) (Operand.tmp 98), type := 0, pos := "law.go:87", after := #[{ on := 22, ground := Ground.data }, { on := 23, ground := Ground.data }, { on := 16, ground := Ground.guard }], guard := some (16, true) }) (v := undef) rfl (by kernel_rfl) (by kernel_rfl) (by kernel_rfl) (fun _ _ _ h => h) (Or.inr ⟨by rfl, rfl⟩) (by assumption) ?_
    try simp only [Act.put, List.setIfInBounds_toArray, List.set_cons_zero, List.set_cons_succ]
    refine wpAnyH_take (i := 25) (oi := { dst := some 100, op := Op.fieldAddr 33 (Operand.tmp 99) 1, type := 0, pos := "law.go:87", after := #[{ on := 24, ground := Ground.data }, { on := 16, ground := Ground.guard }], guard := some (16, true) }) (v := undef) rfl (by kernel_rfl) (by kernel_rfl) (by kernel_rfl) (fun _ _ _ h => h) (Or.inr ⟨by rfl, rfl⟩) (by assumption) ?_
    try simp only [Act.put, List.setIfInBounds_toArray, List.set_cons_zero, List.set_cons_succ]
    refine wpAnyH_take (i := 26) (oi := { dst := some 101, op := Op.load 3 (Operand.tmp 100), type := 3, pos := "law.go:87", after := #[{ on := 25, ground := Ground.data }, { on := 16, ground := Ground.guard }], guard := some (16, true) }) (v := undef) rfl (by kernel_rfl) (by kernel_rfl) (by kernel_rfl) (fun _ _ _ h => h) (Or.inr ⟨by rfl, rfl⟩) (by assumption) ?_
    try simp only [Act.put, List.setIfInBounds_toArray, List.set_cons_zero, List.set_cons_succ]
    refine wpAnyH_take (i := 27) (oi := { dst := some 102, op := Op.binOp BinOp.eql 3 (Operand.tmp 96) (Operand.tmp 101) 3, type := 4, pos := "law.go:87", after := #[{ on := 21, ground := Ground.data }, { on := 26, ground := Ground.data }, { on := 16, ground := Ground.guard }], guard := some (16, true) }) (v := undef) rfl (by kernel_rfl) (by kernel_rfl) (by kernel_rfl) (fun _ _ _ h => h) (Or.inr ⟨by rfl, rfl⟩) (by assumption) ?_
    try simp only [Act.put, List.setIfInBounds_toArray, List.set_cons_zero, List.set_cons_succ]
    refine wpAnyH_take (i := 28) (oi := { dst := some 103, op := Op.pick (Operand.tmp 91) (Operand.tmp 102) (Operand.const (Value.bool false)), type := 4, pos := "law.go:87", after := #[{ on := 16, ground := Ground.data }, { on := 27, ground := Ground.data }, { on := 4, ground := Ground.guard }], guard := some (4, false) }) (v := undef) rfl (by kernel_rfl) (by kernel_rfl) (by kernel_rfl) (fun _ _ _ h => h) (Or.inr ⟨by rfl, rfl⟩) (by assumption) ?_
    try simp only [Act.put, List.setIfInBounds_toArray, List.set_cons_zero, List.set_cons_succ]
    refine wpAnyH_take (i := 29) (oi := { dst := some 104, op := Op.pick (Operand.tmp 79) (Operand.const (Value.bool true)) (Operand.tmp 103), type := 4, pos := "law.go:87", after := #[{ on := 4, ground := Ground.data }, { on := 28, ground := Ground.data }, { on := 1, ground := Ground.guard }], guard := some (1, true) }) (v := ?_) rfl (by kernel_rfl) (by kernel_rfl) (by kernel_rfl) (fun _ _ _ h => h) (Or.inl ⟨by rfl, ?_⟩) (by assumption) ?_
    rotate_left
    · (intro w hSw; (try dsimp only at hSw); (try obtain ⟨hSa, hSb⟩ := hSw); go_simp; try with_reducible rfl)
    try simp only [Act.put, List.setIfInBounds_toArray, List.set_cons_zero, List.set_cons_succ]
    refine wpAnyH_take (i := 30) (oi := { dst := some 105, op := Op.pick (Operand.tmp 76) (Operand.tmp 104) (Operand.const (Value.bool false)), type := 4, pos := "law.go:87", after := #[{ on := 1, ground := Ground.data }, { on := 29, ground := Ground.data }], guard := none }) (v := ?_) rfl (by kernel_rfl) (by kernel_rfl) (by kernel_rfl) (fun _ _ _ h => h) (Or.inl ⟨by rfl, ?_⟩) (by assumption) ?_
    rotate_left
    · (intro w hSw; (try dsimp only at hSw); (try obtain ⟨hSa, hSb⟩ := hSw); go_simp; try with_reducible rfl)
    try simp only [Act.put, List.setIfInBounds_toArray, List.set_cons_zero, List.set_cons_succ]
    refine wpAnyH_take (i := 31) (oi := { dst := some 106, op := Op.move (Operand.tmp 105), type := 4, pos := "law.go:87", after := #[{ on := 30, ground := Ground.data }, { on := 16, ground := Ground.chain }], guard := none }) (v := ?_) rfl (by kernel_rfl) (by kernel_rfl) (by kernel_rfl) (fun _ _ _ h => h) (Or.inl ⟨by rfl, ?_⟩) (by assumption) ?_
    rotate_left
    · (intro w hSw; (try dsimp only at hSw); (try obtain ⟨hSa, hSb⟩ := hSw); go_simp; try with_reducible rfl)
    try simp only [Act.put, List.setIfInBounds_toArray, List.set_cons_zero, List.set_cons_succ]
    refine wpAnyH_take (i := 32) (oi := { dst := some 107, op := Op.move (Operand.tmp 0), type := 22, pos := "law.go:87", after := #[{ on := 31, ground := Ground.guard }], guard := some (31, true) }) (v := ?_) rfl (by kernel_rfl) (by kernel_rfl) (by kernel_rfl) (fun _ _ _ h => h) (Or.inl ⟨by rfl, ?_⟩) (by assumption) ?_
    rotate_left
    · (intro w hSw; (try dsimp only at hSw); (try obtain ⟨hSa, hSb⟩ := hSw); go_simp; try with_reducible rfl)
    try simp only [Act.put, List.setIfInBounds_toArray, List.set_cons_zero, List.set_cons_succ]
    refine wpAnyH_take (i := 35) (oi := { dst := some 110, op := Op.move (Operand.tmp 7), type := 22, pos := "law.go:87", after := #[{ on := 31, ground := Ground.guard }], guard := some (31, true) }) (v := ?_) rfl (by kernel_rfl) (by kernel_rfl) (by kernel_rfl) (fun _ _ _ h => h) (Or.inl ⟨by rfl, ?_⟩) (by assumption) ?_
    rotate_left
    · (intro w hSw; (try dsimp only at hSw); (try obtain ⟨hSa, hSb⟩ := hSw); go_simp; try with_reducible rfl)
    try simp only [Act.put, List.setIfInBounds_toArray, List.set_cons_zero, List.set_cons_succ]
    refine wpAnyH_ready (rs := [33]) (by kernel_rfl) (by simp) ?_
    refine AllReadyH.cons (o := { dst := some 108, op := Op.call { callee := Callee.value (Operand.func 15), args := #[Operand.tmp 107], argTypes := #[22] }, type := 30, pos := "law.go:87", after := #[{ on := 32, ground := Ground.data }, { on := 31, ground := Ground.chain }, { on := 31, ground := Ground.guard }], guard := some (31, true) }) rfl (fun K hK => ?_) AllReadyH.nil
    go_simp
    refine (HQ1.out _ (HOb.out.trans (HO3.out.drew))).mono ?_
    rintro e w4 ⟨A4, c4, g4, d4, rfl, hr4, hp4, hs4, hO⟩
    have HO4 := Lib.hid (HO3.out.drew.trans hO)
    rw [HN.out] at hp4
    have H4 := Lib.hid (And.intro hp4 hs4)
    clear hO hr4 hp4 hs4
    try simp only []
    refine hK.out _ _ ?_ (fun hHeld => ?_)
    · trivial
    clear hK K
    try simp only [Act.put, List.setIfInBounds_toArray, List.set_cons_zero, List.set_cons_succ]
    refine wpAnyH_take (i := 34) (oi := { dst := some 109, op := Op.call { callee := Callee.builtin Builtin.len, args := #[Operand.tmp 108], argTypes := #[30] }, type := 3, pos := "law.go:87", after := #[{ on := 33, ground := Ground.data }, { on := 31, ground := Ground.guard }], guard := some (31, true) }) (v := ?_) rfl (by kernel_rfl) (by kernel_rfl) (by kernel_rfl) (fun _ _ _ h => h) (Or.inl ⟨by rfl, ?_⟩) (by assumption) ?_
    rotate_left
    · (intro w hSw; (try dsimp only at hSw); (try obtain ⟨hSa, hSb⟩ := hSw); go_simp; try with_reducible rfl)
    try simp only [Act.put, List.setIfInBounds_toArray, List.set_cons_zero, List.set_cons_succ]
    refine wpAnyH_ready (rs := [36]) (by kernel_rfl) (by simp) ?_
    refine AllReadyH.cons (o := { dst := some 111, op := Op.call { callee := Callee.value (Operand.func 15), args := #[Operand.tmp 110], argTypes := #[22] }, type := 30, pos := "law.go:87", after := #[{ on := 35, ground := Ground.data }, { on := 33, ground := Ground.chain }, { on := 31, ground := Ground.guard }], guard := some (31, true) }) rfl (fun K hK => ?_) AllReadyH.nil
    go_simp
    refine (HQM.out _ HO4.out).mono ?_
    rintro e w5 ⟨A5, c5, g5, d5, rfl, hr5, hp5, hs5, hO⟩
    rw [HML.out] at hp5
    have hle := HLN.out d4 d5 H4.out.1 H4.out.2 hp5 hs5
    have HO5 := Lib.hid (HOb.out.trans (HO4.out.trans hO))
    have HO5' := Lib.hid (HO4.out.trans hO)
    rw [hle]
    have tl : ((d4.length : Int) == (d4.length : Int)) = true := by simp
    clear hO hr5 hp5 hs5 hle
    try simp only []
    refine hK.out _ _ ?_ (fun hHeld => ?_)
    · trivial
    clear hK K
    try simp only [Act.put, List.setIfInBounds_toArray, List.set_cons_zero, List.set_cons_succ]
    refine wpAnyH_take (i := 37) (oi := { dst := some 112, op := Op.call { callee := Callee.builtin Builtin.len, args := #[Operand.tmp 111], argTypes := #[30] }, type := 3, pos := "law.go:87", after := #[{ on := 36, ground := Ground.data }, { on := 31, ground := Ground.guard }], guard := some (31, true) }) (v := ?_) rfl (by kernel_rfl) (by kernel_rfl) (by kernel_rfl) (fun _ _ _ h => h) (Or.inl ⟨by rfl, ?_⟩) (by assumption) ?_
    rotate_left
    · (intro w hSw; (try dsimp only at hSw); (try obtain ⟨hSa, hSb⟩ := hSw); go_simp; try with_reducible rfl)
    try simp only [Act.put, List.setIfInBounds_toArray, List.set_cons_zero, List.set_cons_succ]
    refine wpAnyH_take (i := 38) (oi := { dst := some 113, op := Op.binOp BinOp.eql 3 (Operand.tmp 109) (Operand.tmp 112) 3, type := 4, pos := "law.go:87", after := #[{ on := 34, ground := Ground.data }, { on := 37, ground := Ground.data }, { on := 31, ground := Ground.guard }], guard := some (31, true) }) (v := ?_) rfl (by kernel_rfl) (by kernel_rfl) (by kernel_rfl) (fun _ _ _ h => h) (Or.inl ⟨by rfl, ?_⟩) (by assumption) ?_
    rotate_left
    · (intro w hSw; (try dsimp only at hSw); (try obtain ⟨hSa, hSb⟩ := hSw); go_simp; try with_reducible rfl)
    try simp only [Act.put, List.setIfInBounds_toArray, List.set_cons_zero, List.set_cons_succ]
    refine wpAnyH_take (i := 39) (oi := { dst := some 114, op := Op.pick (Operand.tmp 106) (Operand.tmp 113) (Operand.const (Value.bool false)), type := 4, pos := "law.go:87", after := #[{ on := 31, ground := Ground.data }, { on := 38, ground := Ground.data }], guard := none }) (v := ?_) rfl (by kernel_rfl) (by kernel_rfl) (by kernel_rfl) (fun _ _ _ h => h) (Or.inl ⟨by rfl, ?_⟩) (by assumption) ?_
    rotate_left
    · (intro w hSw; (try dsimp only at hSw); (try obtain ⟨hSa, hSb⟩ := hSw); go_simp; try with_reducible rfl)
    try simp only [Act.put, List.setIfInBounds_toArray, List.set_cons_zero, List.set_cons_succ]
    refine wpAnyH_take (i := 40) (oi := { dst := some 4, op := Op.assign (Operand.tmp 114), type := 4, pos := "law.go:87", after := #[{ on := 39, ground := Ground.data }, { on := 36, ground := Ground.chain }, { on := 0, ground := Ground.phase }, { on := 1, ground := Ground.phase }, { on := 2, ground := Ground.phase }, { on := 3, ground := Ground.phase }, { on := 4, ground := Ground.phase }, { on := 5, ground := Ground.phase }, { on := 6, ground := Ground.phase }, { on := 7, ground := Ground.phase }, { on := 8, ground := Ground.phase }, { on := 9, ground := Ground.phase }, { on := 10, ground := Ground.phase }, { on := 11, ground := Ground.phase }, { on := 12, ground := Ground.phase }, { on := 13, ground := Ground.phase }, { on := 14, ground := Ground.phase }, { on := 15, ground := Ground.phase }, { on := 16, ground := Ground.phase }, { on := 17, ground := Ground.phase }, { on := 18, ground := Ground.phase }, { on := 19, ground := Ground.phase }, { on := 20, ground := Ground.phase }, { on := 21, ground := Ground.phase }, { on := 22, ground := Ground.phase }, { on := 23, ground := Ground.phase }, { on := 24, ground := Ground.phase }, { on := 25, ground := Ground.phase }, { on := 26, ground := Ground.phase }, { on := 27, ground := Ground.phase }, { on := 28, ground := Ground.phase }, { on := 29, ground := Ground.phase }, { on := 30, ground := Ground.phase }, { on := 31, ground := Ground.phase }, { on := 32, ground := Ground.phase }, { on := 33, ground := Ground.phase }, { on := 34, ground := Ground.phase }, { on := 35, ground := Ground.phase }, { on := 36, ground := Ground.phase }, { on := 37, ground := Ground.phase }, { on := 38, ground := Ground.phase }, { on := 39, ground := Ground.phase }], guard := none }) (v := ?_) rfl (by kernel_rfl) (by kernel_rfl) (by kernel_rfl) (fun _ _ _ h => h) (Or.inl ⟨by rfl, ?_⟩) (by assumption) ?_
    rotate_left
    · (intro w hSw; (try dsimp only at hSw); (try obtain ⟨hSa, hSb⟩ := hSw); go_simp; try with_reducible rfl)
    try simp only [Act.put, List.setIfInBounds_toArray, List.set_cons_zero, List.set_cons_succ]
    refine wpAnyH_done (by kernel_rfl) ?_ _
    go_wp2
    go_ret
    exact ⟨rfl, HO5.out.below (Nat.le_refl _) (fun _ _ h => h)⟩
  · rw [p1] at HP1
    rw [p2] at HPM
    have m0 : max (a : Int) 0 = a := by omega
    have m1 : decide ((0 : Int) ≤ a) = true := by simp
    have m2 : max (b : Int) 0 = b := by omega
    have m3 : decide ((0 : Int) ≤ b) = true := by simp
    rw [m0, m1] at HP1
    rw [m2, m3] at HPM
    obtain ⟨offM, rfl, hMA⟩ := lines_at HRM.out (by rw [HML.out]; omega)
    have HMA : Hid (∀ W, Only (fun _ => False) wb W → LnAt W gM (offM + b * 5) (gl m b)) := Lib.hid (fun W o => lines_off (HRM.out.only o id) b (by rw [HML.out]; exact q2))
    have HLL : Hid (∀ W, Only (fun _ => False) wb W → LnAt W g (off + a * 5) (gl l a)) := Lib.hid (fun W o => HLA.out W (HOb.out.trans o) a q1)
    have a0 : (0 : Int) ≤ a := by omega
    have a1 : (a : Int) < n := by omega
    have a2 : decide ((a : Int) < 0) = false := decide_eq_false (by omega)
    have a3 : decide ((n : Int) ≤ a) = false := decide_eq_false (by omega)
    have b0 : (0 : Int) ≤ b := by omega
    have b1 : (b : Int) < n := by omega
    have b2 : decide ((b : Int) < 0) = false := decide_eq_false (by omega)
    have b3 : decide ((n : Int) ≤ b) = false := decide_eq_false (by omega)
    have HMA3 : Hid (∀ W, Only (fun _ => False) wb W → W.cell? ⟨gM, offM + b * 5 + 3, none⟩ = some (.int .i64 (gl l a).va) ∧ W.cell? ⟨gM, offM + b * 5 + 1, none⟩ = some (.int .i64 (gl l a).we) ∧ W.cell? ⟨g, off + a * 5 + 3, none⟩ = some (.int .i64 (gl l a).va) ∧ W.cell? ⟨g, off + a * 5 + 1, none⟩ = some (.int .i64 (gl l a).we)) :=
      Lib.hid (fun W o => ⟨by rw [v1]; exact (HMA.out W o).c3, by rw [v2]; exact (HMA.out W o).c1, (HLL.out W o).c3, (HLL.out W o).c1⟩)
    generalize (gl l a).va = va at *
    generalize (gl l a).we = we at *
    have tv : (va == va) = true := by simp
    have tw : (we == we) = true := by simp
    clear p1 p2 HTL hMA HMA HLL v1 v2 q1 q2
    go_wp2_with (fail)
    refine (HP1.out _ HOb.out).mono ?_
    rintro e w2 ⟨rfl, hO⟩
    have HO2 := Lib.hid hO
    clear hO
    go_wp2_with (fail)
    refine (HPM.out _ HO2.out).mono ?_
    rintro e w3 ⟨rfl, hO⟩
    have HO3 := Lib.hid (HO2.out.trans hO)
    clear hO
    obtain ⟨y0, y1, y2, y3⟩ := HMA3.out _ HO3.out
    go_wp2_with (fail)
    refine wp_region_held_drew (S := (fun W => (W.cell? ⟨gM, offM + b * 5 + 3, none⟩ = some (.int .i64 va) ∧ W.cell? ⟨gM, offM + b * 5 + 1, none⟩ = some (.int .i64 we)) ∧ (W.cell? ⟨g, off + a * 5 + 3, none⟩ = some (.int .i64 va) ∧ W.cell? ⟨g, off + a * 5 + 1, none⟩ = some (.int .i64 we)))) (by kernel_rfl) ?_ (fun hHeld => ?_)
    · exact ⟨⟨y0, y1⟩, y2, y3⟩
    refine wpAnyH_take (i := 0) (oi := { dst := some 75, op := Op.move (Operand.tmp 5), type := 4, pos := "law.go:87", after := #[], guard := none }) (v := ?_) rfl (by kernel_rfl) (by kernel_rfl) (by kernel_rfl) (fun _ _ _ h => h) (Or.inl ⟨by rfl, ?_⟩) (by assumption) ?_
    rotate_left
    · (intro w hSw; (try dsimp only at hSw); (try obtain ⟨hSa, hSb⟩ := hSw); go_simp; try with_reducible rfl)
    try simp only [Act.put, List.setIfInBounds_toArray, List.set_cons_zero, List.set_cons_succ]
    refine wpAnyH_take (i := 1) (oi := { dst := some 76, op := Op.move (Operand.tmp 75), type := 4, pos := "law.go:87", after := #[{ on := 0, ground := Ground.data }], guard := none }) (v := ?_) rfl (by kernel_rfl) (by kernel_rfl) (by kernel_rfl) (fun _ _ _ h => h) (Or.inl ⟨by rfl, ?_⟩) (by assumption) ?_
    rotate_left
    · (intro w hSw; (try dsimp only at hSw); (try obtain ⟨hSa, hSb⟩ := hSw); go_simp; try with_reducible rfl)
    try simp only [Act.put, List.setIfInBounds_toArray, List.set_cons_zero, List.set_cons_succ]
    refine wpAnyH_take (i := 2) (oi := { dst := some 77, op := Op.move (Operand.tmp 9), type := 4, pos := "law.go:87", after := #[{ on := 1, ground := Ground.guard }], guard := some (1, true) }) (v := ?_) rfl (by kernel_rfl) (by kernel_rfl) (by kernel_rfl) (fun _ _ _ h => h) (Or.inl ⟨by rfl, ?_⟩) (by assumption) ?_
    rotate_left
    · (intro w hSw; (try dsimp only at hSw); (try obtain ⟨hSa, hSb⟩ := hSw); go_simp; try with_reducible rfl)
    try simp only [Act.put, List.setIfInBounds_toArray, List.set_cons_zero, List.set_cons_succ]
    refine wpAnyH_take (i := 3) (oi := { dst := some 78, op := Op.unOp UnOp.not 4 (Operand.tmp 77), type := 4, pos := "law.go:87", after := #[{ on := 2, ground := Ground.data }, { on := 1, ground := Ground.guard }], guard := some (1, true) }) (v := ?_) rfl (by kernel_rfl) (by kernel_rfl) (by kernel_rfl) (fun _ _ _ h => h) (Or.inl ⟨by rfl, ?_⟩) (by assumption) ?_
    rotate_left
    · (intro w hSw; (try dsimp only at hSw); (try obtain ⟨hSa, hSb⟩ := hSw); go_simp; try with_reducible rfl)
    try simp only [Act.put, List.setIfInBounds_toArray, List.set_cons_zero, List.set_cons_succ]
    refine wpAnyH_take (i := 4) (oi := { dst := some 79, op := Op.move (Operand.tmp 78), type := 4, pos := "law.go:87", after := #[{ on := 3, ground := Ground.data }, { on := 1, ground := Ground.chain }, { on := 1, ground := Ground.guard }], guard := some (1, true) }) (v := ?_) rfl (by kernel_rfl) (by kernel_rfl) (by kernel_rfl) (fun _ _ _ h => h) (Or.inl ⟨by rfl, ?_⟩) (by assumption) ?_
    rotate_left
    · (intro w hSw; (try dsimp only at hSw); (try obtain ⟨hSa, hSb⟩ := hSw); go_simp; try with_reducible rfl)
    try simp only [Act.put, List.setIfInBounds_toArray, List.set_cons_zero, List.set_cons_succ]
    refine wpAnyH_take (i := 5) (oi := { dst := some 80, op := Op.move (Operand.tmp 0), type := 22, pos := "law.go:87", after := #[{ on := 4, ground := Ground.guard }], guard := some (4, false) }) (v := ?_) rfl (by kernel_rfl) (by kernel_rfl) (by kernel_rfl) (fun _ _ _ h => h) (Or.inl ⟨by rfl, ?_⟩) (by assumption) ?_
    rotate_left
    · (intro w hSw; (try dsimp only at hSw); (try obtain ⟨hSa, hSb⟩ := hSw); go_simp; try with_reducible rfl)
    try simp only [Act.put, List.setIfInBounds_toArray, List.set_cons_zero, List.set_cons_succ]
    refine wpAnyH_take (i := 6) (oi := { dst := some 81, op := Op.move (Operand.tmp 8), type := 3, pos := "law.go:87", after := #[{ on := 4, ground := Ground.guard }], guard := some (4, false) }) (v := ?_) rfl (by kernel_rfl) (by kernel_rfl) (by kernel_rfl) (fun _ _ _ h => h) (Or.inl ⟨by rfl, ?_⟩) (by assumption) ?_
    rotate_left
    · (intro w hSw; (try dsimp only at hSw); (try obtain ⟨hSa, hSb⟩ := hSw); go_simp; try with_reducible rfl)
    try simp only [Act.put, List.setIfInBounds_toArray, List.set_cons_zero, List.set_cons_succ]
    refine wpAnyH_take (i := 7) (oi := { dst := some 82, op := Op.indexAddr 22 (Operand.tmp 80) (Operand.tmp 81), type := 0, pos := "law.go:87", after := #[{ on := 5, ground := Ground.data }, { on := 6, ground := Ground.data }, { on := 4, ground := Ground.guard }], guard := some (4, false) }) (v := ?_) rfl (by kernel_rfl) (by kernel_rfl) (by kernel_rfl) (fun _ _ _ h => h) (Or.inl ⟨by rfl, ?_⟩) (by assumption) ?_
    rotate_left
    · (intro w hSw; (try dsimp only at hSw); (try obtain ⟨hSa, hSb⟩ := hSw); go_simp; try with_reducible rfl)
    try simp only [Act.put, List.setIfInBounds_toArray, List.set_cons_zero, List.set_cons_succ]
    refine wpAnyH_take (i := 8) (oi := { dst := some 83, op := Op.fieldAddr 33 (Operand.tmp 82) 3, type := 0, pos := "law.go:87", after := #[{ on := 7, ground := Ground.data }, { on := 4, ground := Ground.guard }], guard := some (4, false) }) (v := ?_) rfl (by kernel_rfl) (by kernel_rfl) (by kernel_rfl) (fun _ _ _ h => h) (Or.inl ⟨by rfl, ?_⟩) (by assumption) ?_
    rotate_left
    · (intro w hSw; (try dsimp only at hSw); (try obtain ⟨hSa, hSb⟩ := hSw); go_simp; try with_reducible rfl)
    try simp only [Act.put, List.setIfInBounds_toArray, List.set_cons_zero, List.set_cons_succ]
    refine wpAnyH_take (i := 9) (oi := { dst := some 84, op := Op.load 3 (Operand.tmp 83), type := 3, pos := "law.go:87", after := #[{ on := 8, ground := Ground.data }, { on := 4, ground := Ground.guard }], guard := some (4, false) }) (v := ?_) rfl (by kernel_rfl) (by kernel_rfl) (by kernel_rfl) (fun _ _ _ h => h) (Or.inl ⟨by rfl, ?_⟩) (by assumption) ?_
    rotate_left
    · (intro w hSw; (try dsimp only at hSw); (try obtain ⟨hSa, hSb⟩ := hSw); go_simp; try with_reducible rfl)
    try simp only [Act.put, List.setIfInBounds_toArray, List.set_cons_zero, List.set_cons_succ]
    refine wpAnyH_take (i := 10) (oi := { dst := some 85, op := Op.move (Operand.tmp 7), type := 22, pos := "law.go:87", after := #[{ on := 4, ground := Ground.guard }], guard := some (4, false) }) (v := ?_) rfl (by kernel_rfl) (by kernel_rfl) (by kernel_rfl) (fun _ _ _ h => h) (Or.inl ⟨by rfl, ?_⟩) (by assumption) ?_
    rotate_left
    · (intro w hSw; (try dsimp only at hSw); (try obtain ⟨hSa, hSb⟩ := hSw); go_simp; try with_reducible rfl)
    try simp only [Act.put, List.setIfInBounds_toArray, List.set_cons_zero, List.set_cons_succ]
    refine wpAnyH_take (i := 11) (oi := { dst := some 86, op := Op.move (Operand.tmp 10), type := 3, pos := "law.go:87", after := #[{ on := 4, ground := Ground.guard }], guard := some (4, false) }) (v := ?_) rfl (by kernel_rfl) (by kernel_rfl) (by kernel_rfl) (fun _ _ _ h => h) (Or.inl ⟨by rfl, ?_⟩) (by assumption) ?_
    rotate_left
    · (intro w hSw; (try dsimp only at hSw); (try obtain ⟨hSa, hSb⟩ := hSw); go_simp; try with_reducible rfl)
    try simp only [Act.put, List.setIfInBounds_toArray, List.set_cons_zero, List.set_cons_succ]
    refine wpAnyH_take (i := 12) (oi := { dst := some 87, op := Op.indexAddr 22 (Operand.tmp 85) (Operand.tmp 86), type := 0, pos := "law.go:87", after := #[{ on := 10, ground := Ground.data }, { on := 11, ground := Ground.data }, { on := 4, ground := Ground.guard }], guard := some (4, false) }) (v := ?_) rfl (by kernel_rfl) (by kernel_rfl) (by kernel_rfl) (fun _ _ _ h => h) (Or.inl ⟨by rfl, ?_⟩) (by assumption) ?_
    rotate_left
    · (intro w hSw; (try dsimp only at hSw); (try obtain ⟨hSa, hSb⟩ := hSw); go_simp; try with_reducible rfl)
    try simp only [Act.put, List.setIfInBounds_toArray, List.set_cons_zero, List.set_cons_succ]
    refine wpAnyH_take (i := 13) (oi := { dst := some 88, op := Op.fieldAddr 33 (Operand.tmp 87) 3, type := 0, pos := "law.go:87", after := #[{ on := 12, ground := Ground.data }, { on := 4, ground := Ground.guard }], guard := some (4, false) }) (v := ?_) rfl (by kernel_rfl) (by kernel_rfl) (by kernel_rfl) (fun _ _ _ h => h) (Or.inl ⟨by rfl, ?_⟩) (by assumption) ?_
    rotate_left
    · (intro w hSw; (try dsimp only at hSw); (try obtain ⟨hSa, hSb⟩ := hSw); go_simp; try with_reducible rfl)
    try simp only [Act.put, List.setIfInBounds_toArray, List.set_cons_zero, List.set_cons_succ]
    refine wpAnyH_take (i := 14) (oi := { dst := some 89, op := Op.load 3 (Operand.tmp 88), type := 3, pos := "law.go:87", after := #[{ on := 13, ground := Ground.data }, { on := 4, ground := Ground.guard }], guard := some (4, false) }) (v := ?_) rfl (by kernel_rfl) (by kernel_rfl) (by kernel_rfl) (fun _ _ _ h => h) (Or.inl ⟨by rfl, ?_⟩) (by assumption) ?_
    rotate_left
    · (intro w hSw; (try dsimp only at hSw); (try obtain ⟨hSa, hSb⟩ := hSw); go_simp; try with_reducible rfl)
    try simp only [Act.put, List.setIfInBounds_toArray, List.set_cons_zero, List.set_cons_succ]
    refine wpAnyH_take (i := 15) (oi := { dst := some 90, op := Op.binOp BinOp.eql 3 (Operand.tmp 84) (Operand.tmp 89) 3, type := 4, pos := "law.go:87", after := #[{ on := 9, ground := Ground.data }, { on := 14, ground := Ground.data }, { on := 4, ground := Ground.guard }], guard := some (4, false) }) (v := ?_) rfl (by kernel_rfl) (by kernel_rfl) (by kernel_rfl) (fun _ _ _ h => h) (Or.inl ⟨by rfl, ?_⟩) (by assumption) ?_
    rotate_left
    · (intro w hSw; (try dsimp only at hSw); (try obtain ⟨hSa, hSb⟩ := hSw); go_simp; try with_reducible rfl)
    try simp only [Act.put, List.setIfInBounds_toArray, List.set_cons_zero, List.set_cons_succ]
    refine wpAnyH_take (i := 16) (oi := { dst := some 91, op := Op.move (Operand.tmp 90), type := 4, pos := "law.go:87", after := #[{ on := 15, ground := Ground.data }, { on := 4, ground := Ground.chain }, { on := 4, ground := Ground.guard }], guard := some (4, false) }) (v := ?_) rfl (by kernel_rfl) (by kernel_rfl) (by kernel_rfl) (fun _ _ _ h => h) (Or.inl ⟨by rfl, ?_⟩) (by assumption) ?_
    rotate_left
    · (intro w hSw; (try dsimp only at hSw); (try obtain ⟨hSa, hSb⟩ := hSw); go_simp; try with_reducible rfl)
    try simp only [Act.put, List.setIfInBounds_toArray, List.set_cons_zero, List.set_cons_succ]
    refine wpAnyH_take (i := 17) (oi := { dst := some 92, op := Op.move (Operand.tmp 0), type := 22, pos := "law.go:87", after := #[{ on := 16, ground := Ground.guard }], guard := some (16, true) }) (v := ?_) rfl (by kernel_rfl) (by kernel_rfl) (by kernel_rfl) (fun _ _ _ h => h) (Or.inl ⟨by rfl, ?_⟩) (by assumption) ?_
    rotate_left
    · (intro w hSw; (try dsimp only at hSw); (try obtain ⟨hSa, hSb⟩ := hSw); go_simp; try with_reducible rfl)
    try simp only [Act.put, List.setIfInBounds_toArray, List.set_cons_zero, List.set_cons_succ]
    refine wpAnyH_take (i := 18) (oi := { dst := some 93, op := Op.move (Operand.tmp 8), type := 3, pos := "law.go:87", after := #[{ on := 16, ground := Ground.guard }], guard := some (16, true) }) (v := ?_) rfl (by kernel_rfl) (by kernel_rfl) (by kernel_rfl) (fun _ _ _ h => h) (Or.inl ⟨by rfl, ?_⟩) (by assumption) ?_
    rotate_left
    · (intro w hSw; (try dsimp only at hSw); (try obtain ⟨hSa, hSb⟩ := hSw); go_simp; try with_reducible rfl)
    try simp only [Act.put, List.setIfInBounds_toArray, List.set_cons_zero, List.set_cons_succ]
    refine wpAnyH_take (i := 19) (oi := { dst := some 94, op := Op.indexAddr 22 (Operand.tmp 92) (Operand.tmp 93), type := 0, pos := "law.go:87", after := #[{ on := 17, ground := Ground.data }, { on := 18, ground := Ground.data }, { on := 16, ground := Ground.guard }], guard := some (16, true) }) (v := ?_) rfl (by kernel_rfl) (by kernel_rfl) (by kernel_rfl) (fun _ _ _ h => h) (Or.inl ⟨by rfl, ?_⟩) (by assumption) ?_
    rotate_left
    · (intro w hSw; (try dsimp only at hSw); (try obtain ⟨hSa, hSb⟩ := hSw); go_simp; try with_reducible rfl)
    try simp only [Act.put, List.setIfInBounds_toArray, List.set_cons_zero, List.set_cons_succ]
    refine wpAnyH_take (i := 20) (oi := { dst := some 95, op := Op.fieldAddr 33 (Operand.tmp 94) 1, type := 0, pos := "law.go:87", after := #[{ on := 19, ground := Ground.data }, { on := 16, ground := Ground.guard }], guard := some (16, true) }) (v := ?_) rfl (by kernel_rfl) (by kernel_rfl) (by kernel_rfl) (fun _ _ _ h => h) (Or.inl ⟨by rfl, ?_⟩) (by assumption) ?_
    rotate_left
    · (intro w hSw; (try dsimp only at hSw); (try obtain ⟨hSa, hSb⟩ := hSw); go_simp; try with_reducible rfl)
    try simp only [Act.put, List.setIfInBounds_toArray, List.set_cons_zero, List.set_cons_succ]
    refine wpAnyH_take (i := 21) (oi := { dst := some 96, op := Op.load 3 (Operand.tmp 95), type := 3, pos := "law.go:87", after := #[{ on := 20, ground := Ground.data }, { on := 16, ground := Ground.guard }], guard := some (16, true) }) (v := ?_) rfl (by kernel_rfl) (by kernel_rfl) (by kernel_rfl) (fun _ _ _ h => h) (Or.inl ⟨by rfl, ?_⟩) (by assumption) ?_
    rotate_left
    · (intro w hSw; (try dsimp only at hSw); (try obtain ⟨hSa, hSb⟩ := hSw); go_simp; try with_reducible rfl)
    try simp only [Act.put, List.setIfInBounds_toArray, List.set_cons_zero, List.set_cons_succ]
    refine wpAnyH_take (i := 22) (oi := { dst := some 97, op := Op.move (Operand.tmp 7), type := 22, pos := "law.go:87", after := #[{ on := 16, ground := Ground.guard }], guard := some (16, true) }) (v := ?_) rfl (by kernel_rfl) (by kernel_rfl) (by kernel_rfl) (fun _ _ _ h => h) (Or.inl ⟨by rfl, ?_⟩) (by assumption) ?_
    rotate_left
    · (intro w hSw; (try dsimp only at hSw); (try obtain ⟨hSa, hSb⟩ := hSw); go_simp; try with_reducible rfl)
    try simp only [Act.put, List.setIfInBounds_toArray, List.set_cons_zero, List.set_cons_succ]
    refine wpAnyH_take (i := 23) (oi := { dst := some 98, op := Op.move (Operand.tmp 10), type := 3, pos := "law.go:87", after := #[{ on := 16, ground := Ground.guard }], guard := some (16, true) }) (v := ?_) rfl (by kernel_rfl) (by kernel_rfl) (by kernel_rfl) (fun _ _ _ h => h) (Or.inl ⟨by rfl, ?_⟩) (by assumption) ?_
    rotate_left
    · (intro w hSw; (try dsimp only at hSw); (try obtain ⟨hSa, hSb⟩ := hSw); go_simp; try with_reducible rfl)
    try simp only [Act.put, List.setIfInBounds_toArray, List.set_cons_zero, List.set_cons_succ]
    refine wpAnyH_take (i := 24) (oi := { dst := some 99, op := Op.indexAddr 22 (Operand.tmp 97) (Operand.tmp 98), type := 0, pos := "law.go:87", after := #[{ on := 22, ground := Ground.data }, { on := 23, ground := Ground.data }, { on := 16, ground := Ground.guard }], guard := some (16, true) }) (v := ?_) rfl (by kernel_rfl) (by kernel_rfl) (by kernel_rfl) (fun _ _ _ h => h) (Or.inl ⟨by rfl, ?_⟩) (by assumption) ?_
    rotate_left
    · (intro w hSw; (try dsimp only at hSw); (try obtain ⟨hSa, hSb⟩ := hSw); go_simp; try with_reducible rfl)
    try simp only [Act.put, List.setIfInBounds_toArray, List.set_cons_zero, List.set_cons_succ]
    refine wpAnyH_take (i := 25) (oi := { dst := some 100, op := Op.fieldAddr 33 (Operand.tmp 99) 1, type := 0, pos := "law.go:87", after := #[{ on := 24, ground := Ground.data }, { on := 16, ground := Ground.guard }], guard := some (16, true) }) (v := ?_) rfl (by kernel_rfl) (by kernel_rfl) (by kernel_rfl) (fun _ _ _ h => h) (Or.inl ⟨by rfl, ?_⟩) (by assumption) ?_
    rotate_left
    · (intro w hSw; (try dsimp only at hSw); (try obtain ⟨hSa, hSb⟩ := hSw); go_simp; try with_reducible rfl)
    try simp only [Act.put, List.setIfInBounds_toArray, List.set_cons_zero, List.set_cons_succ]
    refine wpAnyH_take (i := 26) (oi := { dst := some 101, op := Op.load 3 (Operand.tmp 100), type := 3, pos := "law.go:87", after := #[{ on := 25, ground := Ground.data }, { on := 16, ground := Ground.guard }], guard := some (16, true) }) (v := ?_) rfl (by kernel_rfl) (by kernel_rfl) (by kernel_rfl) (fun _ _ _ h => h) (Or.inl ⟨by rfl, ?_⟩) (by assumption) ?_
    rotate_left
    · (intro w hSw; (try dsimp only at hSw); (try obtain ⟨hSa, hSb⟩ := hSw); go_simp; try with_reducible rfl)
    try simp only [Act.put, List.setIfInBounds_toArray, List.set_cons_zero, List.set_cons_succ]
    refine wpAnyH_take (i := 27) (oi := { dst := some 102, op := Op.binOp BinOp.eql 3 (Operand.tmp 96) (Operand.tmp 101) 3, type := 4, pos := "law.go:87", after := #[{ on := 21, ground := Ground.data }, { on := 26, ground := Ground.data }, { on := 16, ground := Ground.guard }], guard := some (16, true) }) (v := ?_) rfl (by kernel_rfl) (by kernel_rfl) (by kernel_rfl) (fun _ _ _ h => h) (Or.inl ⟨by rfl, ?_⟩) (by assumption) ?_
    rotate_left
    · (intro w hSw; (try dsimp only at hSw); (try obtain ⟨hSa, hSb⟩ := hSw); go_simp; try with_reducible rfl)
    try simp only [Act.put, List.setIfInBounds_toArray, List.set_cons_zero, List.set_cons_succ]
    refine wpAnyH_take (i := 28) (oi := { dst := some 103, op := Op.pick (Operand.tmp 91) (Operand.tmp 102) (Operand.const (Value.bool false)), type := 4, pos := "law.go:87", after := #[{ on := 16, ground := Ground.data }, { on := 27, ground := Ground.data }, { on := 4, ground := Ground.guard }], guard := some (4, false) }) (v := ?_) rfl (by kernel_rfl) (by kernel_rfl) (by kernel_rfl) (fun _ _ _ h => h) (Or.inl ⟨by rfl, ?_⟩) (by assumption) ?_
    rotate_left
    · (intro w hSw; (try dsimp only at hSw); (try obtain ⟨hSa, hSb⟩ := hSw); go_simp; try with_reducible rfl)
    try simp only [Act.put, List.setIfInBounds_toArray, List.set_cons_zero, List.set_cons_succ]
    refine wpAnyH_take (i := 29) (oi := { dst := some 104, op := Op.pick (Operand.tmp 79) (Operand.const (Value.bool true)) (Operand.tmp 103), type := 4, pos := "law.go:87", after := #[{ on := 4, ground := Ground.data }, { on := 28, ground := Ground.data }, { on := 1, ground := Ground.guard }], guard := some (1, true) }) (v := ?_) rfl (by kernel_rfl) (by kernel_rfl) (by kernel_rfl) (fun _ _ _ h => h) (Or.inl ⟨by rfl, ?_⟩) (by assumption) ?_
    rotate_left
    · (intro w hSw; (try dsimp only at hSw); (try obtain ⟨hSa, hSb⟩ := hSw); go_simp; try with_reducible rfl)
    try simp only [Act.put, List.setIfInBounds_toArray, List.set_cons_zero, List.set_cons_succ]
    refine wpAnyH_take (i := 30) (oi := { dst := some 105, op := Op.pick (Operand.tmp 76) (Operand.tmp 104) (Operand.const (Value.bool false)), type := 4, pos := "law.go:87", after := #[{ on := 1, ground := Ground.data }, { on := 29, ground := Ground.data }], guard := none }) (v := ?_) rfl (by kernel_rfl) (by kernel_rfl) (by kernel_rfl) (fun _ _ _ h => h) (Or.inl ⟨by rfl, ?_⟩) (by assumption) ?_
    rotate_left
    · (intro w hSw; (try dsimp only at hSw); (try obtain ⟨hSa, hSb⟩ := hSw); go_simp; try with_reducible rfl)
    try simp only [Act.put, List.setIfInBounds_toArray, List.set_cons_zero, List.set_cons_succ]
    refine wpAnyH_take (i := 31) (oi := { dst := some 106, op := Op.move (Operand.tmp 105), type := 4, pos := "law.go:87", after := #[{ on := 30, ground := Ground.data }, { on := 16, ground := Ground.chain }], guard := none }) (v := ?_) rfl (by kernel_rfl) (by kernel_rfl) (by kernel_rfl) (fun _ _ _ h => h) (Or.inl ⟨by rfl, ?_⟩) (by assumption) ?_
    rotate_left
    · (intro w hSw; (try dsimp only at hSw); (try obtain ⟨hSa, hSb⟩ := hSw); go_simp; try with_reducible rfl)
    try simp only [Act.put, List.setIfInBounds_toArray, List.set_cons_zero, List.set_cons_succ]
    refine wpAnyH_take (i := 32) (oi := { dst := some 107, op := Op.move (Operand.tmp 0), type := 22, pos := "law.go:87", after := #[{ on := 31, ground := Ground.guard }], guard := some (31, true) }) (v := ?_) rfl (by kernel_rfl) (by kernel_rfl) (by kernel_rfl) (fun _ _ _ h => h) (Or.inl ⟨by rfl, ?_⟩) (by assumption) ?_
    rotate_left
    · (intro w hSw; (try dsimp only at hSw); (try obtain ⟨hSa, hSb⟩ := hSw); go_simp; try with_reducible rfl)
    try simp only [Act.put, List.setIfInBounds_toArray, List.set_cons_zero, List.set_cons_succ]
    refine wpAnyH_take (i := 35) (oi := { dst := some 110, op := Op.move (Operand.tmp 7), type := 22, pos := "law.go:87", after := #[{ on := 31, ground := Ground.guard }], guard := some (31, true) }) (v := ?_) rfl (by kernel_rfl) (by kernel_rfl) (by kernel_rfl) (fun _ _ _ h => h) (Or.inl ⟨by rfl, ?_⟩) (by assumption) ?_
    rotate_left
    · (intro w hSw; (try dsimp only at hSw); (try obtain ⟨hSa, hSb⟩ := hSw); go_simp; try with_reducible rfl)
    try simp only [Act.put, List.setIfInBounds_toArray, List.set_cons_zero, List.set_cons_succ]
    refine wpAnyH_ready (rs := [33]) (by kernel_rfl) (by simp) ?_
    refine AllReadyH.cons (o := { dst := some 108, op := Op.call { callee := Callee.value (Operand.func 15), args := #[Operand.tmp 107], argTypes := #[22] }, type := 30, pos := "law.go:87", after := #[{ on := 32, ground := Ground.data }, { on := 31, ground := Ground.chain }, { on := 31, ground := Ground.guard }], guard := some (31, true) }) rfl (fun K hK => ?_) AllReadyH.nil
    go_simp
    refine (HQ1.out _ (HOb.out.trans (HO3.out.drew))).mono ?_
    rintro e w4 ⟨A4, c4, g4, d4, rfl, hr4, hp4, hs4, hO⟩
    have HO4 := Lib.hid (HO3.out.drew.trans hO)
    rw [HN.out] at hp4
    have H4 := Lib.hid (And.intro hp4 hs4)
    clear hO hr4 hp4 hs4
    try simp only []
    refine hK.out _ _ ?_ (fun hHeld => ?_)
    · (have y := HMA3.out _ HO4.out; exact ⟨⟨y.1, y.2.1⟩, y.2.2.1, y.2.2.2⟩)
    clear hK K
    try simp only [Act.put, List.setIfInBounds_toArray, List.set_cons_zero, List.set_cons_succ]
    refine wpAnyH_take (i := 34) (oi := { dst := some 109, op := Op.call { callee := Callee.builtin Builtin.len, args := #[Operand.tmp 108], argTypes := #[30] }, type := 3, pos := "law.go:87", after := #[{ on := 33, ground := Ground.data }, { on := 31, ground := Ground.guard }], guard := some (31, true) }) (v := ?_) rfl (by kernel_rfl) (by kernel_rfl) (by kernel_rfl) (fun _ _ _ h => h) (Or.inl ⟨by rfl, ?_⟩) (by assumption) ?_
    rotate_left
    · (intro w hSw; (try dsimp only at hSw); (try obtain ⟨hSa, hSb⟩ := hSw); go_simp; try with_reducible rfl)
    try simp only [Act.put, List.setIfInBounds_toArray, List.set_cons_zero, List.set_cons_succ]
    refine wpAnyH_ready (rs := [36]) (by kernel_rfl) (by simp) ?_
    refine AllReadyH.cons (o := { dst := some 111, op := Op.call { callee := Callee.value (Operand.func 15), args := #[Operand.tmp 110], argTypes := #[22] }, type := 30, pos := "law.go:87", after := #[{ on := 35, ground := Ground.data }, { on := 33, ground := Ground.chain }, { on := 31, ground := Ground.guard }], guard := some (31, true) }) rfl (fun K hK => ?_) AllReadyH.nil
    go_simp
    refine (HQM.out _ HO4.out).mono ?_
    rintro e w5 ⟨A5, c5, g5, d5, rfl, hr5, hp5, hs5, hO⟩
    rw [HML.out] at hp5
    have hle := HLN.out d4 d5 H4.out.1 H4.out.2 hp5 hs5
    have HO5 := Lib.hid (HOb.out.trans (HO4.out.trans hO))
    have HO5' := Lib.hid (HO4.out.trans hO)
    rw [hle]
    have tl : ((d4.length : Int) == (d4.length : Int)) = true := by simp
    clear hO hr5 hp5 hs5 hle
    try simp only []
    refine hK.out _ _ ?_ (fun hHeld => ?_)
    · (have y := HMA3.out _ HO5'.out; exact ⟨⟨y.1, y.2.1⟩, y.2.2.1, y.2.2.2⟩)
    clear hK K
    try simp only [Act.put, List.setIfInBounds_toArray, List.set_cons_zero, List.set_cons_succ]
    refine wpAnyH_take (i := 37) (oi := { dst := some 112, op := Op.call { callee := Callee.builtin Builtin.len, args := #[Operand.tmp 111], argTypes := #[30] }, type := 3, pos := "law.go:87", after := #[{ on := 36, ground := Ground.data }, { on := 31, ground := Ground.guard }], guard := some (31, true) }) (v := ?_) rfl (by kernel_rfl) (by kernel_rfl) (by kernel_rfl) (fun _ _ _ h => h) (Or.inl ⟨by rfl, ?_⟩) (by assumption) ?_
    rotate_left
    · (intro w hSw; (try dsimp only at hSw); (try obtain ⟨hSa, hSb⟩ := hSw); go_simp; try with_reducible rfl)
    try simp only [Act.put, List.setIfInBounds_toArray, List.set_cons_zero, List.set_cons_succ]
    refine wpAnyH_take (i := 38) (oi := { dst := some 113, op := Op.binOp BinOp.eql 3 (Operand.tmp 109) (Operand.tmp 112) 3, type := 4, pos := "law.go:87", after := #[{ on := 34, ground := Ground.data }, { on := 37, ground := Ground.data }, { on := 31, ground := Ground.guard }], guard := some (31, true) }) (v := ?_) rfl (by kernel_rfl) (by kernel_rfl) (by kernel_rfl) (fun _ _ _ h => h) (Or.inl ⟨by rfl, ?_⟩) (by assumption) ?_
    rotate_left
    · (intro w hSw; (try dsimp only at hSw); (try obtain ⟨hSa, hSb⟩ := hSw); go_simp; try with_reducible rfl)
    try simp only [Act.put, List.setIfInBounds_toArray, List.set_cons_zero, List.set_cons_succ]
    refine wpAnyH_take (i := 39) (oi := { dst := some 114, op := Op.pick (Operand.tmp 106) (Operand.tmp 113) (Operand.const (Value.bool false)), type := 4, pos := "law.go:87", after := #[{ on := 31, ground := Ground.data }, { on := 38, ground := Ground.data }], guard := none }) (v := ?_) rfl (by kernel_rfl) (by kernel_rfl) (by kernel_rfl) (fun _ _ _ h => h) (Or.inl ⟨by rfl, ?_⟩) (by assumption) ?_
    rotate_left
    · (intro w hSw; (try dsimp only at hSw); (try obtain ⟨hSa, hSb⟩ := hSw); go_simp; try with_reducible rfl)
    try simp only [Act.put, List.setIfInBounds_toArray, List.set_cons_zero, List.set_cons_succ]
    refine wpAnyH_take (i := 40) (oi := { dst := some 4, op := Op.assign (Operand.tmp 114), type := 4, pos := "law.go:87", after := #[{ on := 39, ground := Ground.data }, { on := 36, ground := Ground.chain }, { on := 0, ground := Ground.phase }, { on := 1, ground := Ground.phase }, { on := 2, ground := Ground.phase }, { on := 3, ground := Ground.phase }, { on := 4, ground := Ground.phase }, { on := 5, ground := Ground.phase }, { on := 6, ground := Ground.phase }, { on := 7, ground := Ground.phase }, { on := 8, ground := Ground.phase }, { on := 9, ground := Ground.phase }, { on := 10, ground := Ground.phase }, { on := 11, ground := Ground.phase }, { on := 12, ground := Ground.phase }, { on := 13, ground := Ground.phase }, { on := 14, ground := Ground.phase }, { on := 15, ground := Ground.phase }, { on := 16, ground := Ground.phase }, { on := 17, ground := Ground.phase }, { on := 18, ground := Ground.phase }, { on := 19, ground := Ground.phase }, { on := 20, ground := Ground.phase }, { on := 21, ground := Ground.phase }, { on := 22, ground := Ground.phase }, { on := 23, ground := Ground.phase }, { on := 24, ground := Ground.phase }, { on := 25, ground := Ground.phase }, { on := 26, ground := Ground.phase }, { on := 27, ground := Ground.phase }, { on := 28, ground := Ground.phase }, { on := 29, ground := Ground.phase }, { on := 30, ground := Ground.phase }, { on := 31, ground := Ground.phase }, { on := 32, ground := Ground.phase }, { on := 33, ground := Ground.phase }, { on := 34, ground := Ground.phase }, { on := 35, ground := Ground.phase }, { on := 36, ground := Ground.phase }, { on := 37, ground := Ground.phase }, { on := 38, ground := Ground.phase }, { on := 39, ground := Ground.phase }], guard := none }) (v := ?_) rfl (by kernel_rfl) (by kernel_rfl) (by kernel_rfl) (fun _ _ _ h => h) (Or.inl ⟨by rfl, ?_⟩) (by assumption) ?_
    rotate_left
    · (intro w hSw; (try dsimp only at hSw); (try obtain ⟨hSa, hSb⟩ := hSw); go_simp; try with_reducible rfl)
    try simp only [Act.put, List.setIfInBounds_toArray, List.set_cons_zero, List.set_cons_succ]
    refine wpAnyH_done (by kernel_rfl) ?_ _
    go_wp2
    go_ret
    exact ⟨rfl, HO5.out.below (Nat.le_refl _) (fun _ _ h => h)⟩
end Go.Proofs.Ytbcjpchjidgpeaa
