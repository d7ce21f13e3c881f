/- Lines: the document's lines: Use, Release, Erased, Lose, Close, Open. -/
import Derived.Test.YtlenjgofiocaaaaDD
namespace Go.Proofs.Ytlenjgofiocaaaa
open Go.RowKit

theorem rcs_set (l : List Ln) (i j : Nat) (x : Ln) (v : Value) (hi : i < l.length) (hx : (rc5 l[i]).set j v = rc5 x) (hj : j < 5) : (rcs l).set (i * 5 + j) v = rcs (l.set i x) := by
  induction l generalizing i with
  | nil => simp at hi
  | cons y t ih =>
    cases i with
    | zero =>
      simp only [List.getElem_cons_zero] at hx
      simp only [rcs, List.flatMap_cons, Nat.zero_mul, Nat.zero_add, List.set_cons_zero]
      rw [List.set_append_left _ _ (by simp [rc5]; omega), hx]
    | succ i =>
      have h := ih i (by simpa using hi) (by simpa using hx)
      have e : (i + 1) * 5 + j = (i * 5 + j) + (rc5 y).length := by simp [rc5]; omega
      simp only [rcs, List.flatMap_cons, List.set_cons_succ] at h ⊢
      rw [e, List.set_append_right _ _ (by omega), Nat.add_sub_cancel, h]
section
variable {w w' : World} {r off c rb : Nat} {G : Ge} {l : List Ln}
theorem RAt.setG (k : RAt w r G l off c rb) {i j : Nat} (hi : i < l.length) (hj : j < 5) (x : Ln) (v : Value) (hx : (rc5 l[i]).set j v = rc5 x) : RAt (w.setCell ⟨rb, off + i * 5 + j, none⟩ v) r G (l.set i x) off c rb := by
  refine ⟨by rw [List.length_set]; exact k.st.far (p := ⟨rb, off + i * 5 + j, none⟩) k.ne.symm v, ?_, by rw [List.length_set]; exact k.len⟩
  rw [List.length_set, ← rcs_set l i j x v hi hx hj]
  rcases k.row with ⟨h0, _⟩ | ⟨off', cells, e, ha, h1, h2, h3, h4, h5⟩
  · cases h0
  · have he := e
    injection e with e
    injection e with _ e _
    subst e
    refine .inr ⟨off, cells.setIfInBounds (off + i * 5 + j) v, he, ha.set _ _, h1, h2, by simpa using h3, by rw [List.length_set]; exact h4, fun q u hu => ?_⟩
    have hlt : q < (rcs l).length := by have := (List.getElem?_eq_some_iff.1 hu).1; rwa [List.length_set] at this
    by_cases hq : i * 5 + j = q
    · subst hq
      rw [List.getElem?_set_self hlt] at hu
      rw [Nat.add_assoc, Array.getElem?_setIfInBounds_self_of_lt (by rw [h4] at hlt; have : l.length * 5 ≤ c * 5 := Nat.mul_le_mul_right _ h1; omega)]
      exact hu
    · rw [List.getElem?_set_ne hq] at hu
      rw [Array.getElem?_setIfInBounds_ne (by omega)]
      exact h5 q u hu
theorem RAt.fr (k : RAt w r G l off c rb) (j : Nat) : w.frozen? ⟨rb, j, none⟩ = false := by
  rcases k.row with ⟨h0, _⟩ | ⟨off', cells, e, ha, _⟩
  · cases h0
  · exact ha.frozen j
theorem RAt.setS (k : RAt w r G l off c rb) {i : Nat} (hi : i < l.length) (z : Int) : RAt (w.setCell ⟨rb, off + i * 5, none⟩ (.int .i64 z)) r G (l.set i { l[i] with s := z }) off c rb := k.setG (j := 0) hi (by omega) _ _ rfl
theorem RAt.setW (k : RAt w r G l off c rb) {i : Nat} (hi : i < l.length) (z : Int) : RAt (w.setCell ⟨rb, off + i * 5 + 1, none⟩ (.int .i64 z)) r G (l.set i { l[i] with w := z }) off c rb := k.setG (j := 1) hi (by omega) _ _ rfl
theorem RAt.setGd (k : RAt w r G l off c rb) {i : Nat} (hi : i < l.length) (z : Int) : RAt (w.setCell ⟨rb, off + i * 5 + 2, none⟩ (.int .i64 z)) r G (l.set i { l[i] with g := z }) off c rb := k.setG (j := 2) hi (by omega) _ _ rfl
end

set_option maxHeartbeats 2000000 in
theorem is_any (r off c rb : Nat) (G : Ge) (l : List Ln) (n st : Int) (w : World) (k : RAt w r G l off c rb) :
    Calls Try.prog 49 #[.pointer (some ⟨r, 0, none⟩), .int .i64 n, .int .i64 st] w fun e w' => e = .returned (.int .i64 (findE l n st)) ∧ w' = w := by
  have c5 := k.st.cell 5
  simp only [List.getElem?_toArray, List.getElem?_cons_zero, List.getElem?_cons_succ] at c5
  by_cases hn : n < 0
  · have HE : Hid (findE l n st = 2) := Lib.hid (findE_out (.inl hn))
    clear k
    go_enter Try.func49, Try.ntmps49
    go_wp2
    go_ret
    exact ⟨by rw [HE.out]; rfl, rfl⟩
  by_cases hn2 : (l.length : Int) ≤ n
  · have HE : Hid (findE l n st = 2) := Lib.hid (findE_out (.inr hn2))
    clear k
    go_enter Try.func49, Try.ntmps49
    go_wp2
    go_ret
    exact ⟨by rw [HE.out]; rfl, rfl⟩
  obtain ⟨i, rfl⟩ : ∃ i : Nat, n = i := ⟨n.toNat, by omega⟩
  have hi : i < l.length := by omega
  have i0 : (0 : Int) ≤ i := by omega
  have i1 : (i : Int) < l.length := by omega
  have i4 : decide (l.length ≤ i) = false := decide_eq_false (by omega)
  have f0 : w.cell? ⟨rb, off + i * 5, none⟩ = some (.int .i64 (l[i]).s) := k.ln hi (j := 0) (by omega) rfl
  have HE := Lib.hid (findE_in hi st)
  clear k hn hn2
  generalize (l[i]).s = s at *
  by_cases hs : s = st
  · have ts : (s != st) = false := by simp [hs]
    rw [if_pos hs] at HE
    clear hs
    go_enter Try.func49, Try.ntmps49
    go_wp2
    go_ret
    exact ⟨by rw [HE.out]; rfl, rfl⟩
  · have ts : (s != st) = true := by simp [hs]
    rw [if_neg hs] at HE
    clear hs
    go_enter Try.func49, Try.ntmps49
    go_wp2
    go_ret
    exact ⟨by rw [HE.out]; rfl, rfl⟩

set_option maxRecDepth 100000 in
set_option maxHeartbeats 4000000 in
theorem refUse_any (r off c rb : Nat) (G : Ge) (l : List Ln) (n : Int) (w : World) (k : RAt w r G l off c rb) :
    Calls Try.prog 42 #[.pointer (some ⟨r, 0, none⟩), .int .i64 n] w fun e w' => e = .returned (.int .i64 (findE l n 0)) ∧ RAt w' r G (useM l n) off c rb ∧ Only (fun i => i = rb) w w' := by
  have HIS := Lib.hid (is_any r off c rb G l n 0 w k)
  by_cases hE : findE l n 0 = 0
  · have HM : Hid (useM l n = upd l n (fun x => { x with s := 2 })) := Lib.hid (by unfold useM; rw [if_pos hE])
    obtain ⟨i, hi, rfl, hs⟩ := findE_zero hE
    have HE := Lib.hid hE
    rw [hE] at HIS
    have c5 := k.st.cell 5
    simp only [List.getElem?_toArray, List.getElem?_cons_zero, List.getElem?_cons_succ] at c5
    have i0 : (0 : Int) ≤ i := by omega
    have i1 : (i : Int) < l.length := by omega
    have f0 : w.cell? ⟨rb, off + i * 5, none⟩ = some (.int .i64 (l[i]).s) := k.ln hi (j := 0) (by omega) rfl
    have f1 : w.cell? ⟨rb, off + i * 5 + 1, none⟩ = some (.int .i64 (l[i]).w) := k.ln hi (j := 1) (by omega) rfl
    have f2 : w.cell? ⟨rb, off + i * 5 + 2, none⟩ = some (.int .i64 (l[i]).g) := k.ln hi (j := 2) (by omega) rfl
    have y0 := k.fr (off + i * 5)
    have y1 := k.fr (off + i * 5 + 1)
    have HK := Lib.hid k
    have HU : Hid (useM l i = l.set i ((fun x => { x with s := 2 } : Ln → Ln) l[i])) := Lib.hid (by rw [HM.out, upd_nat hi])
    clear k hE hs HM
    go_enter Try.func42, Try.ntmps42
    go_wp2_with (fail)
    refine HIS.out.mono ?_
    rintro e w1 ⟨rfl, rfl⟩
    go_wp2
    go_ret
    exact ⟨by rw [HE.out]; rfl, by rw [HU.out]; exact HK.out.setS hi 2, (Only.refl (fun j => j = rb) _).setCell (p := ⟨rb, off + i * 5, none⟩) (fun _ => rfl) _⟩
  · have HM : Hid (useM l n = l) := Lib.hid (by unfold useM; rw [if_neg hE])
    have HK := Lib.hid k
    have te : (findE l n 0 == 0) = false := beq_false_of_ne hE
    generalize findE l n 0 = E at *
    clear k hE
    go_enter Try.func42, Try.ntmps42
    go_wp2_with (fail)
    refine HIS.out.mono ?_
    rintro e w1 ⟨rfl, rfl⟩
    go_wp2
    go_ret
    exact ⟨rfl, by rw [HM.out]; exact HK.out, Only.refl _ _⟩

set_option maxRecDepth 100000 in
set_option maxHeartbeats 4000000 in
theorem refRelease_any (r off c rb : Nat) (G : Ge) (l : List Ln) (n : Int) (w : World) (k : RAt w r G l off c rb) :
    Calls Try.prog 39 #[.pointer (some ⟨r, 0, none⟩), .int .i64 n] w fun e w' => e = .returned (.int .i64 (findE l n 2)) ∧ RAt w' r G (relM l n) off c rb ∧ Only (fun i => i = rb) w w' := by
  have HIS := Lib.hid (is_any r off c rb G l n 2 w k)
  by_cases hE : findE l n 2 = 0
  · have HM : Hid (relM l n = upd l n (fun x => { x with s := un x.g })) := Lib.hid (by unfold relM; rw [if_pos hE])
    obtain ⟨i, hi, rfl, hs⟩ := findE_zero hE
    have HE := Lib.hid hE
    rw [hE] at HIS
    have c5 := k.st.cell 5
    simp only [List.getElem?_toArray, List.getElem?_cons_zero, List.getElem?_cons_succ] at c5
    have i0 : (0 : Int) ≤ i := by omega
    have i1 : (i : Int) < l.length := by omega
    have f0 : w.cell? ⟨rb, off + i * 5, none⟩ = some (.int .i64 (l[i]).s) := k.ln hi (j := 0) (by omega) rfl
    have f1 : w.cell? ⟨rb, off + i * 5 + 1, none⟩ = some (.int .i64 (l[i]).w) := k.ln hi (j := 1) (by omega) rfl
    have f2 : w.cell? ⟨rb, off + i * 5 + 2, none⟩ = some (.int .i64 (l[i]).g) := k.ln hi (j := 2) (by omega) rfl
    have y0 := k.fr (off + i * 5)
    have y1 := k.fr (off + i * 5 + 1)
    have HK := Lib.hid k
    have HU : Hid (relM l i = l.set i ((fun x => { x with s := un x.g } : Ln → Ln) l[i])) := Lib.hid (by rw [HM.out, upd_nat hi])
    clear k hE hs HM
    have HKS := Lib.hid (fun z => HK.out.setS hi z)
    have HFR : Hid (∀ w, Calls Try.prog 29 #[.int .i64 (l[i]).g] w fun e w' => e = .returned (.int .i64 (un (l[i]).g)) ∧ w' = w) := Lib.hid (fun w => free_any _ w)
    have hne := HK.out.ne
    obtain ⟨xg, hxg⟩ : ∃ xg, (l[i]).g = xg := ⟨_, rfl⟩
    rw [hxg] at HFR f2
    have HU := Lib.hid (show relM l i = l.set i { l[i] with s := un xg } by rw [HU.out, ← hxg])
    have HXG := Lib.hid hxg
    clear hxg
    go_enter Try.func39, Try.ntmps39
    go_wp2_with (fail)
    refine HIS.out.mono ?_
    rintro e w1 ⟨rfl, rfl⟩
    go_wp2_with (fail)
    refine wp_region_held_drew (S := (fun W => W.cell? ⟨r, 5, none⟩ = some (.slice (some ⟨rb, off, none⟩) l.length c) ∧ W.cell? ⟨rb, off + i * 5 + 2, none⟩ = some (.int .i64 xg))) (by kernel_rfl) ?_ (fun hHeld => ?_)
    · exact ⟨c5, f2⟩
    refine wpAnyH_take (i := 0) (oi := { dst := some 11, op := Op.move (Operand.tmp 0), type := 30, pos := "ref.go:108", after := #[], guard := none }) (v := ?_) rfl (by kernel_rfl) (by kernel_rfl) (by kernel_rfl) (fun _ _ _ h => h) (Or.inl ⟨by rfl, ?_⟩) (by assumption) ?_
    rotate_left
    · (intro w hSw; (try dsimp only at hSw); (try obtain ⟨hSa, hSb⟩ := hSw); go_simp; try with_reducible rfl)
    try simp only [Act.put, List.setIfInBounds_toArray, List.set_cons_zero, List.set_cons_succ]
    refine wpAnyH_take (i := 1) (oi := { dst := some 12, op := Op.nilCheck (Operand.tmp 11), type := 0, pos := "ref.go:108", after := #[{ on := 0, ground := Ground.data }], guard := none }) (v := ?_) rfl (by kernel_rfl) (by kernel_rfl) (by kernel_rfl) (fun _ _ _ h => h) (Or.inl ⟨by rfl, ?_⟩) (by assumption) ?_
    rotate_left
    · (intro w hSw; (try dsimp only at hSw); (try obtain ⟨hSa, hSb⟩ := hSw); go_simp; try with_reducible rfl)
    try simp only [Act.put, List.setIfInBounds_toArray, List.set_cons_zero, List.set_cons_succ]
    refine wpAnyH_take (i := 2) (oi := { dst := some 13, op := Op.fieldAddr 64 (Operand.tmp 12) 1, type := 0, pos := "ref.go:108", after := #[{ on := 1, ground := Ground.data }], guard := none }) (v := ?_) rfl (by kernel_rfl) (by kernel_rfl) (by kernel_rfl) (fun _ _ _ h => h) (Or.inl ⟨by rfl, ?_⟩) (by assumption) ?_
    rotate_left
    · (intro w hSw; (try dsimp only at hSw); (try obtain ⟨hSa, hSb⟩ := hSw); go_simp; try with_reducible rfl)
    try simp only [Act.put, List.setIfInBounds_toArray, List.set_cons_zero, List.set_cons_succ]
    refine wpAnyH_take (i := 3) (oi := { dst := some 14, op := Op.load 41 (Operand.tmp 13), type := 41, pos := "ref.go:108", after := #[{ on := 2, ground := Ground.data }], guard := none }) (v := ?_) rfl (by kernel_rfl) (by kernel_rfl) (by kernel_rfl) (fun _ _ _ h => h) (Or.inl ⟨by rfl, ?_⟩) (by assumption) ?_
    rotate_left
    · (intro w hSw; (try dsimp only at hSw); (try obtain ⟨hSa, hSb⟩ := hSw); go_simp; try with_reducible rfl)
    try simp only [Act.put, List.setIfInBounds_toArray, List.set_cons_zero, List.set_cons_succ]
    refine wpAnyH_take (i := 4) (oi := { dst := some 15, op := Op.move (Operand.tmp 1), type := 3, pos := "ref.go:108", after := #[], guard := none }) (v := ?_) rfl (by kernel_rfl) (by kernel_rfl) (by kernel_rfl) (fun _ _ _ h => h) (Or.inl ⟨by rfl, ?_⟩) (by assumption) ?_
    rotate_left
    · (intro w hSw; (try dsimp only at hSw); (try obtain ⟨hSa, hSb⟩ := hSw); go_simp; try with_reducible rfl)
    try simp only [Act.put, List.setIfInBounds_toArray, List.set_cons_zero, List.set_cons_succ]
    refine wpAnyH_take (i := 5) (oi := { dst := some 16, op := Op.move (Operand.tmp 0), type := 30, pos := "ref.go:108", after := #[], guard := none }) (v := ?_) rfl (by kernel_rfl) (by kernel_rfl) (by kernel_rfl) (fun _ _ _ h => h) (Or.inl ⟨by rfl, ?_⟩) (by assumption) ?_
    rotate_left
    · (intro w hSw; (try dsimp only at hSw); (try obtain ⟨hSa, hSb⟩ := hSw); go_simp; try with_reducible rfl)
    try simp only [Act.put, List.setIfInBounds_toArray, List.set_cons_zero, List.set_cons_succ]
    refine wpAnyH_take (i := 6) (oi := { dst := some 17, op := Op.nilCheck (Operand.tmp 16), type := 0, pos := "ref.go:108", after := #[{ on := 5, ground := Ground.data }], guard := none }) (v := ?_) rfl (by kernel_rfl) (by kernel_rfl) (by kernel_rfl) (fun _ _ _ h => h) (Or.inl ⟨by rfl, ?_⟩) (by assumption) ?_
    rotate_left
    · (intro w hSw; (try dsimp only at hSw); (try obtain ⟨hSa, hSb⟩ := hSw); go_simp; try with_reducible rfl)
    try simp only [Act.put, List.setIfInBounds_toArray, List.set_cons_zero, List.set_cons_succ]
    refine wpAnyH_take (i := 7) (oi := { dst := some 18, op := Op.fieldAddr 64 (Operand.tmp 17) 1, type := 0, pos := "ref.go:108", after := #[{ on := 6, ground := Ground.data }], guard := none }) (v := ?_) rfl (by kernel_rfl) (by kernel_rfl) (by kernel_rfl) (fun _ _ _ h => h) (Or.inl ⟨by rfl, ?_⟩) (by assumption) ?_
    rotate_left
    · (intro w hSw; (try dsimp only at hSw); (try obtain ⟨hSa, hSb⟩ := hSw); go_simp; try with_reducible rfl)
    try simp only [Act.put, List.setIfInBounds_toArray, List.set_cons_zero, List.set_cons_succ]
    refine wpAnyH_take (i := 8) (oi := { dst := some 19, op := Op.load 41 (Operand.tmp 18), type := 41, pos := "ref.go:108", after := #[{ on := 7, ground := Ground.data }], guard := none }) (v := ?_) rfl (by kernel_rfl) (by kernel_rfl) (by kernel_rfl) (fun _ _ _ h => h) (Or.inl ⟨by rfl, ?_⟩) (by assumption) ?_
    rotate_left
    · (intro w hSw; (try dsimp only at hSw); (try obtain ⟨hSa, hSb⟩ := hSw); go_simp; try with_reducible rfl)
    try simp only [Act.put, List.setIfInBounds_toArray, List.set_cons_zero, List.set_cons_succ]
    refine wpAnyH_take (i := 9) (oi := { dst := some 20, op := Op.move (Operand.tmp 1), type := 3, pos := "ref.go:108", after := #[], guard := none }) (v := ?_) rfl (by kernel_rfl) (by kernel_rfl) (by kernel_rfl) (fun _ _ _ h => h) (Or.inl ⟨by rfl, ?_⟩) (by assumption) ?_
    rotate_left
    · (intro w hSw; (try dsimp only at hSw); (try obtain ⟨hSa, hSb⟩ := hSw); go_simp; try with_reducible rfl)
    try simp only [Act.put, List.setIfInBounds_toArray, List.set_cons_zero, List.set_cons_succ]
    refine wpAnyH_take (i := 10) (oi := { dst := some 21, op := Op.indexAddr 41 (Operand.tmp 19) (Operand.tmp 20), type := 0, pos := "ref.go:108", after := #[{ on := 8, ground := Ground.data }, { on := 9, ground := Ground.data }], guard := none }) (v := ?_) rfl (by kernel_rfl) (by kernel_rfl) (by kernel_rfl) (fun _ _ _ h => h) (Or.inl ⟨by rfl, ?_⟩) (by assumption) ?_
    rotate_left
    · (intro w hSw; (try dsimp only at hSw); (try obtain ⟨hSa, hSb⟩ := hSw); go_simp; try with_reducible rfl)
    try simp only [Act.put, List.setIfInBounds_toArray, List.set_cons_zero, List.set_cons_succ]
    refine wpAnyH_take (i := 11) (oi := { dst := some 22, op := Op.fieldAddr 43 (Operand.tmp 21) 2, type := 0, pos := "ref.go:108", after := #[{ on := 10, ground := Ground.data }], guard := none }) (v := ?_) rfl (by kernel_rfl) (by kernel_rfl) (by kernel_rfl) (fun _ _ _ h => h) (Or.inl ⟨by rfl, ?_⟩) (by assumption) ?_
    rotate_left
    · (intro w hSw; (try dsimp only at hSw); (try obtain ⟨hSa, hSb⟩ := hSw); go_simp; try with_reducible rfl)
    try simp only [Act.put, List.setIfInBounds_toArray, List.set_cons_zero, List.set_cons_succ]
    refine wpAnyH_take (i := 12) (oi := { dst := some 23, op := Op.load 3 (Operand.tmp 22), type := 3, pos := "ref.go:108", after := #[{ on := 11, ground := Ground.data }], guard := none }) (v := ?_) rfl (by kernel_rfl) (by kernel_rfl) (by kernel_rfl) (fun _ _ _ h => h) (Or.inl ⟨by rfl, ?_⟩) (by assumption) ?_
    rotate_left
    · (intro w hSw; (try dsimp only at hSw); (try obtain ⟨hSa, hSb⟩ := hSw); go_simp; try with_reducible rfl)
    try simp only [Act.put, List.setIfInBounds_toArray, List.set_cons_zero, List.set_cons_succ]
    refine wpAnyH_ready (rs := [13]) (by kernel_rfl) (by simp) ?_
    refine AllReadyH.cons (o := { dst := some 24, op := Op.call { callee := Callee.value (Operand.func 29), args := #[Operand.tmp 23], argTypes := #[3] }, type := 3, pos := "ref.go:108", after := #[{ on := 12, ground := Ground.data }], guard := none }) rfl (fun K hK => ?_) AllReadyH.nil
    go_simp
    (refine (HFR.out _).mono ?_; rintro e wx ⟨rfl, rfl⟩; try simp only [])
    refine hK.out _ _ ?_ (fun hHeld => ?_)
    · exact ⟨c5, f2⟩
    clear hK K
    try simp only [Act.put, List.setIfInBounds_toArray, List.set_cons_zero, List.set_cons_succ]
    refine wpAnyH_take (i := 14) (oi := { dst := some 25, op := Op.indexAddr 41 (Operand.tmp 14) (Operand.tmp 15), type := 0, pos := "ref.go:108", after := #[{ on := 3, ground := Ground.data }, { on := 4, ground := Ground.data }, { on := 0, ground := Ground.phase }, { on := 1, ground := Ground.phase }, { on := 2, ground := Ground.phase }, { on := 3, ground := Ground.phase }, { on := 4, ground := Ground.phase }, { on := 5, ground := Ground.phase }, { on := 6, ground := Ground.phase }, { on := 7, ground := Ground.phase }, { on := 8, ground := Ground.phase }, { on := 9, ground := Ground.phase }, { on := 10, ground := Ground.phase }, { on := 11, ground := Ground.phase }, { on := 12, ground := Ground.phase }, { on := 13, ground := Ground.phase }], guard := none }) (v := ?_) rfl (by kernel_rfl) (by kernel_rfl) (by kernel_rfl) (fun _ _ _ h => h) (Or.inl ⟨by rfl, ?_⟩) (by assumption) ?_
    rotate_left
    · (intro w hSw; (try dsimp only at hSw); (try obtain ⟨hSa, hSb⟩ := hSw); go_simp; try with_reducible rfl)
    try simp only [Act.put, List.setIfInBounds_toArray, List.set_cons_zero, List.set_cons_succ]
    refine wpAnyH_take (i := 15) (oi := { dst := some 26, op := Op.fieldAddr 43 (Operand.tmp 25) 0, type := 0, pos := "ref.go:108", after := #[{ on := 14, ground := Ground.data }, { on := 0, ground := Ground.phase }, { on := 1, ground := Ground.phase }, { on := 2, ground := Ground.phase }, { on := 3, ground := Ground.phase }, { on := 4, ground := Ground.phase }, { on := 5, ground := Ground.phase }, { on := 6, ground := Ground.phase }, { on := 7, ground := Ground.phase }, { on := 8, ground := Ground.phase }, { on := 9, ground := Ground.phase }, { on := 10, ground := Ground.phase }, { on := 11, ground := Ground.phase }, { on := 12, ground := Ground.phase }, { on := 13, ground := Ground.phase }], guard := none }) (v := ?_) rfl (by kernel_rfl) (by kernel_rfl) (by kernel_rfl) (fun _ _ _ h => h) (Or.inl ⟨by rfl, ?_⟩) (by assumption) ?_
    rotate_left
    · (intro w hSw; (try dsimp only at hSw); (try obtain ⟨hSa, hSb⟩ := hSw); go_simp; try with_reducible rfl)
    try simp only [Act.put, List.setIfInBounds_toArray, List.set_cons_zero, List.set_cons_succ]
    refine wpAnyH_ready (rs := [16]) (by kernel_rfl) (by simp) ?_
    refine AllReadyH.cons (o := { dst := none, op := Op.store 3 (Operand.tmp 26) (Operand.tmp 24), type := 0, pos := "ref.go:108", after := #[{ on := 15, ground := Ground.data }, { on := 13, ground := Ground.data }, { on := 13, ground := Ground.chain }, { on := 0, ground := Ground.phase }, { on := 1, ground := Ground.phase }, { on := 2, ground := Ground.phase }, { on := 3, ground := Ground.phase }, { on := 4, ground := Ground.phase }, { on := 5, ground := Ground.phase }, { on := 6, ground := Ground.phase }, { on := 7, ground := Ground.phase }, { on := 8, ground := Ground.phase }, { on := 9, ground := Ground.phase }, { on := 10, ground := Ground.phase }, { on := 11, ground := Ground.phase }, { on := 12, ground := Ground.phase }, { on := 13, ground := Ground.phase }], guard := none }) rfl (fun K hK => ?_) AllReadyH.nil
    go_simp
    skip
    refine hK.out _ _ ?_ (fun hHeld => ?_)
    · exact ⟨(World.cell?_of_block (a := ⟨r, 5, none⟩) (Below.heap_setCell _ ⟨rb, off + i * 5, none⟩ _ r hne.symm)).trans c5, (HKS.out (un xg)).ln (by simpa using hi) (j := 2) (by omega) (by have := HXG.out; simp [rc5, this])⟩
    clear hK K
    try simp only [Act.put, List.setIfInBounds_toArray, List.set_cons_zero, List.set_cons_succ]
    refine wpAnyH_done (by kernel_rfl) ?_ _
    go_wp2
    go_ret
    exact ⟨by rw [HE.out]; rfl, by rw [HU.out]; exact (HKS.out _).quiet (Only.refl _ _).drew, ((Only.refl (fun j => j = rb) _).setCell (p := ⟨rb, off + i * 5, none⟩) (fun _ => rfl) _).drew⟩
  · have HM : Hid (relM l n = l) := Lib.hid (by unfold relM; rw [if_neg hE])
    have HK := Lib.hid k
    have te : (findE l n 2 == 0) = false := beq_false_of_ne hE
    generalize findE l n 2 = E at *
    clear k hE
    go_enter Try.func39, Try.ntmps39
    go_wp2_with (fail)
    refine HIS.out.mono ?_
    rintro e w1 ⟨rfl, rfl⟩
    go_wp2
    go_ret
    exact ⟨rfl, by rw [HM.out]; exact HK.out, Only.refl _ _⟩

set_option maxRecDepth 100000 in
set_option maxHeartbeats 4000000 in
theorem refErased_any (r off c rb : Nat) (G : Ge) (l : List Ln) (hw : ∀ x ∈ l, 0 ≤ x.w ∧ x.w ≤ 2147483647) (n : Int) (w : World) (k : RAt w r G l off c rb) :
    Calls Try.prog 40 #[.pointer (some ⟨r, 0, none⟩), .int .i64 n] w fun e w' => e = .returned (.int .i64 (findE l n 1)) ∧ RAt w' r G (erM l n) off c rb ∧ Only (fun i => i = rb) w w' := by
  have HIS := Lib.hid (is_any r off c rb G l n 1 w k)
  by_cases hE : findE l n 1 = 0
  · have HM : Hid (erM l n = upd l n (fun x => { x with w := min (x.w + 1) 2147483647 })) := Lib.hid (by unfold erM; rw [if_pos hE])
    obtain ⟨i, hi, rfl, hs⟩ := findE_zero hE
    have HE := Lib.hid hE
    rw [hE] at HIS
    have c5 := k.st.cell 5
    simp only [List.getElem?_toArray, List.getElem?_cons_zero, List.getElem?_cons_succ] at c5
    have i0 : (0 : Int) ≤ i := by omega
    have i1 : (i : Int) < l.length := by omega
    have f0 : w.cell? ⟨rb, off + i * 5, none⟩ = some (.int .i64 (l[i]).s) := k.ln hi (j := 0) (by omega) rfl
    have f1 : w.cell? ⟨rb, off + i * 5 + 1, none⟩ = some (.int .i64 (l[i]).w) := k.ln hi (j := 1) (by omega) rfl
    have f2 : w.cell? ⟨rb, off + i * 5 + 2, none⟩ = some (.int .i64 (l[i]).g) := k.ln hi (j := 2) (by omega) rfl
    have y0 := k.fr (off + i * 5)
    have y1 := k.fr (off + i * 5 + 1)
    have HK := Lib.hid k
    have HU : Hid (erM l i = l.set i ((fun x => { x with w := min (x.w + 1) 2147483647 } : Ln → Ln) l[i])) := Lib.hid (by rw [HM.out, upd_nat hi])
    clear k hE hs HM
    have hwi := hw _ (List.getElem_mem hi)
    have hw1 := hwi.1
    have hw2 := hwi.2
    have HKK := Lib.hid (fun z => HK.out.setW hi z)
    clear hw hwi
    obtain ⟨xw, hx⟩ : ∃ xw, (l[i]).w = xw := ⟨_, rfl⟩
    rw [hx] at f1 hw1 hw2
    simp only [hx] at HU
    have HX := Lib.hid hx
    clear hx
    by_cases hlt : xw < 2147483647
    · have hm : min (xw + 1) 2147483647 = xw + 1 := by omega
      rw [hm] at HU
      clear hm
      go_enter Try.func40, Try.ntmps40
      go_wp2_with (fail)
      refine HIS.out.mono ?_
      rintro e w1 ⟨rfl, rfl⟩
      go_wp2
      go_ret
      exact ⟨by rw [HE.out]; rfl, by rw [HU.out]; exact HKK.out _, (Only.refl (fun j => j = rb) _).setCell (p := ⟨rb, off + i * 5 + 1, none⟩) (fun _ => rfl) _⟩
    · have hm : min (xw + 1) 2147483647 = xw := by omega
      rw [hm] at HU
      have d1 : decide (xw < 2147483647) = false := decide_eq_false hlt
      have hself : l.set i { l[i] with w := xw } = l := by rw [← HX.out]; exact List.set_getElem_self _
      have HSE := Lib.hid hself
      clear hm hlt hself
      go_enter Try.func40, Try.ntmps40
      go_wp2_with (fail)
      refine HIS.out.mono ?_
      rintro e w1 ⟨rfl, rfl⟩
      go_wp2
      go_ret
      exact ⟨by rw [HE.out]; rfl, by rw [HU.out, HSE.out]; exact HK.out, Only.refl _ _⟩
  · have HM : Hid (erM l n = l) := Lib.hid (by unfold erM; rw [if_neg hE])
    have HK := Lib.hid k
    have te : (findE l n 1 == 0) = false := beq_false_of_ne hE
    generalize findE l n 1 = E at *
    clear k hE
    go_enter Try.func40, Try.ntmps40
    go_wp2_with (fail)
    refine HIS.out.mono ?_
    rintro e w1 ⟨rfl, rfl⟩
    go_wp2
    go_ret
    exact ⟨rfl, by rw [HM.out]; exact HK.out, Only.refl _ _⟩

set_option maxHeartbeats 1000000 in
theorem refClose_no (r off c rb : Nat) (G : Ge) (l : List Ln) (op : Int) (hI : Inv l op) (hop : op < 0) (w : World) (k : RAt w r G l off c rb) :
    Calls Try.prog 38 #[.pointer (some ⟨r, 0, none⟩)] w fun e w' => e = .returned (.tuple #[.int .i64 0, .int .i64 13]) ∧ w' = w := by
  have HC := Lib.hid (refCurrent_any r off c rb G l op hI w k)
  clear hI k
  go_enter Try.func38, Try.ntmps38
  go_wp2_with (fail)
  refine HC.out.mono ?_
  rintro e w1 ⟨rfl, rfl⟩
  go_wp2
  go_ret2
  exact ⟨rfl, rfl⟩
set_option maxHeartbeats 1000000 in
theorem refClose_ok (r off c rb : Nat) (G : Ge) (l : List Ln) (i : Nat) (hi : i < l.length) (hI : Inv l i) (w : World) (k : RAt w r G l off c rb) :
    Calls Try.prog 38 #[.pointer (some ⟨r, 0, none⟩)] w fun e w' => e = .returned (.tuple #[.int .i64 i, .int .i64 0]) ∧ RAt w' r G (l.set i { l[i] with s := 2 }) off c rb ∧ Only (fun j => j = rb) w w' := by
  have HC := Lib.hid (refCurrent_any r off c rb G l i hI w k)
  have c5 := k.st.cell 5
  simp only [List.getElem?_toArray, List.getElem?_cons_zero, List.getElem?_cons_succ] at c5
  have i0 : (0 : Int) ≤ i := by omega
  have i1 : (i : Int) < l.length := by omega
  have i2 : ¬ (i : Int) < 0 := by omega
  have f0 : w.cell? ⟨rb, off + i * 5, none⟩ = some (.int .i64 (l[i]).s) := k.ln hi (j := 0) (by omega) rfl
  have y0 := k.fr (off + i * 5)
  have HK := Lib.hid (k.setS hi 2)
  clear hI k
  go_enter Try.func38, Try.ntmps38
  go_wp2_with (fail)
  refine HC.out.mono ?_
  rintro e w1 ⟨rfl, rfl⟩
  go_wp2
  go_ret2
  exact ⟨rfl, HK.out, (Only.refl (fun j => j = rb) _).setCell (p := ⟨rb, off + i * 5, none⟩) (fun _ => rfl) _⟩
end Go.Proofs.Ytlenjgofiocaaaa
