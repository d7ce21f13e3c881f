/- Lines: the document's lines: Get, Count, Current, Capacity; alike. -/
import Derived.Test.YtlenjgofiocaaaaBB
namespace Go.Proofs.Ytlenjgofiocaaaa
open Go.RowKit

theorem rcs_len (l : List Ln) : (rcs l).length = l.length * 5 := by
  induction l with
  | nil => rfl
  | cons x t ih => simp only [rcs, List.flatMap_cons, List.length_append, List.length_cons] at *; rw [ih]; simp [rc5]; omega
theorem rcs_get (l : List Ln) (i j : Nat) (hi : i < l.length) (hj : j < 5) : (rcs l)[i * 5 + j]? = (rc5 l[i])[j]? := by
  induction l generalizing i with
  | nil => simp at hi
  | cons x t ih =>
    have hc : (rc5 x).length = 5 := rfl
    cases i with
    | zero =>
      simp only [rcs, List.flatMap_cons, Nat.zero_mul, Nat.zero_add, List.getElem_cons_zero]
      rw [List.getElem?_append_left (by omega)]
    | succ i =>
      simp only [rcs, List.flatMap_cons, List.getElem_cons_succ]
      rw [List.getElem?_append_right (by omega)]
      have := ih i (by simpa using hi)
      rw [← this]
      congr 1
      omega
section
variable {S : Nat → Prop} {w w' : World} {r off c rb : Nat} {G : Ge} {l : List Ln}
theorem RAt.ne (k : RAt w r G l off c rb) : rb ≠ r := k.row.neAt k.st (by simp) (by decide)
theorem RAt.only (k : RAt w r G l off c rb) (o : Only S w w') (h1 : ¬ S r) (h2 : ¬ S rb) : RAt w' r G l off c rb := ⟨k.st.only o h1, k.row.only o (fun _ => h2), k.len⟩
theorem RAt.quiet (k : RAt w r G l off c rb) (o : Only (fun _ => False) w w') : RAt w' r G l off c rb := k.only o id id
theorem RAt.lts (k : RAt w r G l off c rb) : r < w.heap.size ∧ rb < w.heap.size := ⟨k.st.lt, k.row.lt (by simp)⟩
theorem RAt.ln (k : RAt w r G l off c rb) {i : Nat} (hi : i < l.length) {j : Nat} (hj : j < 5) {u : Value} (hu : (rc5 l[i])[j]? = some u) : w.cell? ⟨rb, off + i * 5 + j, none⟩ = some u := by
  rcases k.row with ⟨h0, _⟩ | ⟨off', cells, e, ha, _, _, _, _, hr⟩
  · cases h0
  · injection e with e
    injection e with _ e _
    subst e
    have := hr (i * 5 + j) u (by rw [rcs_get l i j hi hj]; exact hu)
    rw [ha.cell, Nat.add_assoc]; exact this
end
theorem getV_form (G : Ge) (l : List Ln) (n : Int) : ∃ a0 a1 a2 a3 a4 : Int, getV G l n = .agg #[.int .i64 a0, .int .i64 a1, .int .i64 a2, .int .i64 a3, .int .i64 a4] := by
  unfold getV lnV0 lnV
  split
  · exact ⟨_, _, _, _, _, rfl⟩
  · exact ⟨_, _, _, _, _, rfl⟩

set_option maxHeartbeats 2000000 in
theorem refCount_any (r off c rb : Nat) (G : Ge) (l : List Ln) (st : Int) (w : World) (k : RAt w r G l off c rb) :
    Calls Try.prog 31 #[.pointer (some ⟨r, 0, none⟩), .int .i64 st] w fun e w' => e = .returned (.int .i64 ((flt l st l.length).length : Int)) ∧ w' = w := by
  have c5 := k.st.cell 5
  simp only [List.getElem?_toArray, List.getElem?_cons_zero, List.getElem?_cons_succ] at c5
  have hlen := k.len
  have HK := Lib.hid k
  clear k
  obtain ⟨n, hn⟩ : ∃ n, l.length = n := ⟨_, rfl⟩
  have HN := Lib.hid hn
  rw [hn] at c5 hlen ⊢
  clear hn
  go_enter Try.func31, Try.ntmps31
  go_wp2_with (fail)
  go_loopw [5, 6] (fun v5 v6 wr => ∃ q : Nat, q ≤ n ∧ v6 = .int .i64 q ∧ v5 = .int .i64 ((flt l st q).length : Int) ∧ wr = w) (fun _ v6 wr => (n - intOf v6).toNat)
  case atStart => exact ⟨0, by omega, rfl, rfl, rfl⟩
  case round =>
    obtain ⟨q, hq, rfl, rfl, rfl⟩ := hrel
    by_cases hqn : q < n
    · have q0 : (0 : Int) ≤ q := by omega
      have q1 : (q : Int) < n := by omega
      have hql : q < l.length := by rw [HN.out]; exact hqn
      have f0 : wr.cell? ⟨rb, off + q * 5, none⟩ = some (.int .i64 (l[q]).s) := HK.out.ln hql (j := 0) (by omega) rfl
      obtain ⟨x, hx⟩ : ∃ x, l[q]? = some x := ⟨_, List.getElem?_eq_getElem hql⟩
      have hxe : l[q] = x := by rw [List.getElem?_eq_getElem hql] at hx; injection hx
      rw [hxe] at f0
      clear hxe
      have hfl := flt_len l st q
      have g0 : (0 : Int) ≤ ((flt l st q).length : Int) := by omega
      have g1 : ((flt l st q).length : Int) ≤ 64 := by omega
      have HY := Lib.hid (fun h => flt_yes (st := st) hx h)
      have HNO := Lib.hid (fun h => flt_no (st := st) hx h)
      obtain ⟨xs, xw, xg⟩ := x
      simp only at f0 HY HNO
      by_cases hs : xs = st
      · have HE := Lib.hid (HY.out hs)
        have t1 : (xs == st) = true := by simp [hs]
        clear HY HNO hs hfl
        go_wp2
        go_roundw
        case rel => exact ⟨q + 1, by omega, by simp, by rw [HE.out]; simp, by trivial⟩
        case measure => simp [intOf]; omega
      · have HE := Lib.hid (HNO.out hs)
        have t1 : (xs == st) = false := beq_false_of_ne hs
        clear HY HNO hs hfl
        go_wp2
        go_roundw
        case rel => exact ⟨q + 1, by omega, by simp, by rw [HE.out], by trivial⟩
        case measure => simp [intOf]; omega
    · obtain rfl : q = n := by omega
      have q1 : ¬ (q : Int) < q := by omega
      go_wp2
      go_ret
      exact ⟨rfl, rfl⟩

set_option maxHeartbeats 2000000 in
theorem refCurrent_any (r off c rb : Nat) (G : Ge) (l : List Ln) (op : Int) (hI : Inv l op) (w : World) (k : RAt w r G l off c rb) :
    Calls Try.prog 32 #[.pointer (some ⟨r, 0, none⟩)] w fun e w' => e = .returned (.int .i64 op) ∧ w' = w := by
  have c5 := k.st.cell 5
  simp only [List.getElem?_toArray, List.getElem?_cons_zero, List.getElem?_cons_succ] at c5
  have hlen := k.len
  have HK := Lib.hid k
  have HI := Lib.hid hI
  clear k hI
  obtain ⟨n, hn⟩ : ∃ n, l.length = n := ⟨_, rfl⟩
  have HN := Lib.hid hn
  rw [hn] at c5 hlen
  clear hn
  go_enter Try.func32, Try.ntmps32
  go_wp2_with (fail)
  go_loopw [3] (fun v3 wr => ∃ q : Nat, q ≤ n ∧ v3 = .int .i64 q ∧ (∀ (j : Nat) (h : j < l.length), j < q → (l[j]).s ≠ 1) ∧ wr = w) (fun v3 wr => (n - intOf v3).toNat)
  case atStart => exact ⟨0, by omega, rfl, fun j _ h => by omega, rfl⟩
  case round =>
    obtain ⟨q, hq, rfl, hno, rfl⟩ := hrel
    have HNO := Lib.hid hno
    clear hno
    by_cases hqn : q < n
    · have q0 : (0 : Int) ≤ q := by omega
      have q1 : (q : Int) < n := by omega
      have hql : q < l.length := by rw [HN.out]; exact hqn
      have f0 : wr.cell? ⟨rb, off + q * 5, none⟩ = some (.int .i64 (l[q]).s) := HK.out.ln hql (j := 0) (by omega) rfl
      have HOQ := Lib.hid (HI.out.o q hql)
      obtain ⟨xs, hxs⟩ : ∃ xs, (l[q]).s = xs := ⟨_, rfl⟩
      rw [hxs] at f0 HOQ
      have HXS := Lib.hid hxs
      clear hxs
      by_cases hs : xs = 1
      · have HOP := Lib.hid (HOQ.out.1 hs)
        have t1 : (xs == 1) = true := by simp [hs]
        clear hs HOQ
        go_wp2
        go_ret
        exact ⟨by rw [HOP.out]; rfl, rfl⟩
      · have HS := Lib.hid hs
        have t1 : (xs == 1) = false := beq_false_of_ne hs
        clear hs
        go_wp2
        go_roundw
        case rel =>
          refine ⟨q + 1, by omega, by simp, fun j hj hjq => ?_, by trivial⟩
          by_cases e : j = q
          · subst e; rw [HXS.out]; exact HS.out
          · exact HNO.out j hj (by omega)
        case measure => simp [intOf]; omega
    · obtain rfl : q = n := by omega
      have q1 : ¬ (q : Int) < q := by omega
      have HOP : Hid (op = -1) := Lib.hid (by
        rcases HI.out.b with h | ⟨j, hj, h⟩
        · exact h
        · exact absurd ((HI.out.o j hj).2 h) (HNO.out j hj (by rw [← HN.out]; exact hj)))
      go_wp2
      go_ret
      exact ⟨by rw [HOP.out]; rfl, rfl⟩

set_option maxRecDepth 100000 in
set_option maxHeartbeats 4000000 in
theorem refCapacity_any (r off c rb : Nat) (G : Ge) (hG : G.Is) (l : List Ln) (hl : gOk l) (w : World) (k : RAt w r G l off c rb) :
    Calls Try.prog 33 #[.pointer (some ⟨r, 0, none⟩)] w fun e w' => e = .returned (.int .i64 (capTo G l l.length)) ∧ Only (fun _ => False) w w' := by
  have hlen := k.len
  have HK0 := Lib.hid k
  have HG := Lib.hid hG
  have HL := Lib.hid hl
  have c5 := k.st.cell 5
  simp only [List.getElem?_toArray, List.getElem?_cons_zero, List.getElem?_cons_succ] at c5
  clear k hG hl
  obtain ⟨n, hn⟩ : ∃ n, l.length = n := ⟨_, rfl⟩
  have HN := Lib.hid hn
  rw [hn] at hlen c5 ⊢
  clear hn
  go_enter Try.func33, Try.ntmps33
  go_wp2_with (fail)
  clear c5
  go_loopw [3, 4] (fun v3 v4 wr => ∃ q : Nat, q ≤ n ∧ v4 = .int .i64 q ∧ v3 = .int .i64 (capTo G l q) ∧ Only (fun _ => False) w wr) (fun _ v4 wr => (n - intOf v4).toNat)
  case atStart => exact ⟨0, by omega, rfl, rfl, Only.refl _ _⟩
  case round =>
    obtain ⟨q, hq, rfl, rfl, hO⟩ := hrel
    have HO := Lib.hid hO
    have HK := Lib.hid (HK0.out.quiet hO)
    clear hO
    have c0 := HK.out.st.cell 0
    have c1 := HK.out.st.cell 1
    have c2 := HK.out.st.cell 2
    have c3 := HK.out.st.cell 3
    have c4 := HK.out.st.cell 4
    have c5 := HK.out.st.cell 5
    simp only [List.getElem?_toArray, List.getElem?_cons_zero, List.getElem?_cons_succ] at c0 c1 c2 c3 c4 c5
    rw [HN.out] at c5
    by_cases hqn : q < n
    · have q0 : (0 : Int) ≤ q := by omega
      have q1 : (q : Int) < n := by omega
      have hql : q < l.length := by rw [HN.out]; exact hqn
      have f2 : wr.cell? ⟨rb, off + q * 5 + 2, none⟩ = some (.int .i64 (l[q]).g) := HK.out.ln hql (j := 2) (by omega) rfl
      have hg := HL.out _ (List.getElem_mem hql)
      have HRM : Hid (∀ w, Calls Try.prog 47 #[G.val, .int .i64 (l[q]).g] w fun e w' => e = .returned (.int .i64 (rm G (l[q]).g)) ∧ Only (fun _ => False) w w') := Lib.hid (fun w => refRoom_any G HG.out _ hg.1 hg.2 w)
      unfold Ge.val at HRM
      have hbd := capTo_bd HG.out HL.out q (by omega)
      have hrm := rm_nn HG.out hg.1 hg.2
      have HS : Hid (capTo G l (q + 1) = capTo G l q + rm G (l[q]).g) := Lib.hid (by simp [capTo, List.getD, hql])
      generalize (l[q]).g = xg at *
      generalize capTo G l q = cp at *
      generalize rm G xg = rr at *
      have e1 : IntKind.i64.wrap (cp + rr) = cp + rr := IntWalk.i64_in _ (by omega)
      have e1' : wrap64 (cp + rr) = cp + rr := by rw [← IntWalk.i64_left]; exact e1
      clear hbd hrm hg
      go_wp2_with (fail)
      refine wp_region_held_drew (S := (fun W => ((W.cell? ⟨r, 0, none⟩ = some (.int .i64 G.c) ∧ W.cell? ⟨r, 1, none⟩ = some (.int .i64 G.l)) ∧ (W.cell? ⟨r, 2, none⟩ = some (.int .i64 G.b) ∧ W.cell? ⟨r, 3, none⟩ = some (.int .i64 G.p))) ∧ ((W.cell? ⟨r, 4, none⟩ = some (.int .i64 G.s) ∧ W.cell? ⟨r, 5, none⟩ = some (.slice (some ⟨rb, off, none⟩) n c)) ∧ W.cell? ⟨rb, off + q * 5 + 2, none⟩ = some (.int .i64 xg)))) (by kernel_rfl) ?_ (fun hHeld => ?_)
      · exact ⟨⟨⟨c0, c1⟩, c2, c3⟩, ⟨c4, c5⟩, f2⟩
      refine wpAnyH_take (i := 0) (oi := { dst := some 14, op := Op.move (Operand.tmp 3), type := 3, pos := "ref.go:170", after := #[], guard := none }) (v := ?_) rfl (by kernel_rfl) (by kernel_rfl) (by kernel_rfl) (fun _ _ _ h => h) (Or.inl ⟨by rfl, ?_⟩) (by assumption) ?_
      rotate_left
      · (intro w hSw; (try dsimp only at hSw); (try obtain ⟨hSa, hSb⟩ := hSw); go_simp; try with_reducible rfl)
      try simp only [Act.put, List.setIfInBounds_toArray, List.set_cons_zero, List.set_cons_succ]
      refine wpAnyH_take (i := 1) (oi := { dst := some 15, op := Op.move (Operand.tmp 0), type := 30, pos := "ref.go:170", after := #[], guard := none }) (v := ?_) rfl (by kernel_rfl) (by kernel_rfl) (by kernel_rfl) (fun _ _ _ h => h) (Or.inl ⟨by rfl, ?_⟩) (by assumption) ?_
      rotate_left
      · (intro w hSw; (try dsimp only at hSw); (try obtain ⟨hSa, hSb⟩ := hSw); go_simp; try with_reducible rfl)
      try simp only [Act.put, List.setIfInBounds_toArray, List.set_cons_zero, List.set_cons_succ]
      refine wpAnyH_take (i := 2) (oi := { dst := some 16, op := Op.nilCheck (Operand.tmp 15), type := 0, pos := "ref.go:170", after := #[{ on := 1, ground := Ground.data }], guard := none }) (v := ?_) rfl (by kernel_rfl) (by kernel_rfl) (by kernel_rfl) (fun _ _ _ h => h) (Or.inl ⟨by rfl, ?_⟩) (by assumption) ?_
      rotate_left
      · (intro w hSw; (try dsimp only at hSw); (try obtain ⟨hSa, hSb⟩ := hSw); go_simp; try with_reducible rfl)
      try simp only [Act.put, List.setIfInBounds_toArray, List.set_cons_zero, List.set_cons_succ]
      refine wpAnyH_take (i := 3) (oi := { dst := some 17, op := Op.fieldAddr 64 (Operand.tmp 16) 0, type := 0, pos := "ref.go:170", after := #[{ on := 2, ground := Ground.data }], guard := none }) (v := ?_) rfl (by kernel_rfl) (by kernel_rfl) (by kernel_rfl) (fun _ _ _ h => h) (Or.inl ⟨by rfl, ?_⟩) (by assumption) ?_
      rotate_left
      · (intro w hSw; (try dsimp only at hSw); (try obtain ⟨hSa, hSb⟩ := hSw); go_simp; try with_reducible rfl)
      try simp only [Act.put, List.setIfInBounds_toArray, List.set_cons_zero, List.set_cons_succ]
      refine wpAnyH_take (i := 4) (oi := { dst := some 18, op := Op.load 23 (Operand.tmp 17), type := 23, pos := "ref.go:170", after := #[{ on := 3, ground := Ground.data }], guard := none }) (v := ?_) rfl (by kernel_rfl) (by kernel_rfl) (by kernel_rfl) (fun _ _ _ h => h) (Or.inl ⟨by rfl, ?_⟩) (by assumption) ?_
      rotate_left
      · (intro w hSw; (try dsimp only at hSw); (try obtain ⟨hSa, hSb⟩ := hSw); go_simp; try with_reducible rfl)
      try simp only [Act.put, List.setIfInBounds_toArray, List.set_cons_zero, List.set_cons_succ]
      refine wpAnyH_take (i := 5) (oi := { dst := some 19, op := Op.move (Operand.tmp 0), type := 30, pos := "ref.go:170", after := #[], guard := none }) (v := ?_) rfl (by kernel_rfl) (by kernel_rfl) (by kernel_rfl) (fun _ _ _ h => h) (Or.inl ⟨by rfl, ?_⟩) (by assumption) ?_
      rotate_left
      · (intro w hSw; (try dsimp only at hSw); (try obtain ⟨hSa, hSb⟩ := hSw); go_simp; try with_reducible rfl)
      try simp only [Act.put, List.setIfInBounds_toArray, List.set_cons_zero, List.set_cons_succ]
      refine wpAnyH_take (i := 6) (oi := { dst := some 20, op := Op.nilCheck (Operand.tmp 19), type := 0, pos := "ref.go:170", after := #[{ on := 5, ground := Ground.data }], guard := none }) (v := ?_) rfl (by kernel_rfl) (by kernel_rfl) (by kernel_rfl) (fun _ _ _ h => h) (Or.inl ⟨by rfl, ?_⟩) (by assumption) ?_
      rotate_left
      · (intro w hSw; (try dsimp only at hSw); (try obtain ⟨hSa, hSb⟩ := hSw); go_simp; try with_reducible rfl)
      try simp only [Act.put, List.setIfInBounds_toArray, List.set_cons_zero, List.set_cons_succ]
      refine wpAnyH_take (i := 7) (oi := { dst := some 21, op := Op.fieldAddr 64 (Operand.tmp 20) 1, type := 0, pos := "ref.go:170", after := #[{ on := 6, ground := Ground.data }], guard := none }) (v := ?_) rfl (by kernel_rfl) (by kernel_rfl) (by kernel_rfl) (fun _ _ _ h => h) (Or.inl ⟨by rfl, ?_⟩) (by assumption) ?_
      rotate_left
      · (intro w hSw; (try dsimp only at hSw); (try obtain ⟨hSa, hSb⟩ := hSw); go_simp; try with_reducible rfl)
      try simp only [Act.put, List.setIfInBounds_toArray, List.set_cons_zero, List.set_cons_succ]
      refine wpAnyH_take (i := 8) (oi := { dst := some 22, op := Op.load 41 (Operand.tmp 21), type := 41, pos := "ref.go:170", after := #[{ on := 7, ground := Ground.data }], guard := none }) (v := ?_) rfl (by kernel_rfl) (by kernel_rfl) (by kernel_rfl) (fun _ _ _ h => h) (Or.inl ⟨by rfl, ?_⟩) (by assumption) ?_
      rotate_left
      · (intro w hSw; (try dsimp only at hSw); (try obtain ⟨hSa, hSb⟩ := hSw); go_simp; try with_reducible rfl)
      try simp only [Act.put, List.setIfInBounds_toArray, List.set_cons_zero, List.set_cons_succ]
      refine wpAnyH_take (i := 9) (oi := { dst := some 23, op := Op.move (Operand.tmp 4), type := 3, pos := "ref.go:170", after := #[], guard := none }) (v := ?_) rfl (by kernel_rfl) (by kernel_rfl) (by kernel_rfl) (fun _ _ _ h => h) (Or.inl ⟨by rfl, ?_⟩) (by assumption) ?_
      rotate_left
      · (intro w hSw; (try dsimp only at hSw); (try obtain ⟨hSa, hSb⟩ := hSw); go_simp; try with_reducible rfl)
      try simp only [Act.put, List.setIfInBounds_toArray, List.set_cons_zero, List.set_cons_succ]
      refine wpAnyH_take (i := 10) (oi := { dst := some 24, op := Op.indexAddr 41 (Operand.tmp 22) (Operand.tmp 23), type := 0, pos := "ref.go:170", after := #[{ on := 8, ground := Ground.data }, { on := 9, ground := Ground.data }], guard := none }) (v := ?_) rfl (by kernel_rfl) (by kernel_rfl) (by kernel_rfl) (fun _ _ _ h => h) (Or.inl ⟨by rfl, ?_⟩) (by assumption) ?_
      rotate_left
      · (intro w hSw; (try dsimp only at hSw); (try obtain ⟨hSa, hSb⟩ := hSw); go_simp; try with_reducible rfl)
      try simp only [Act.put, List.setIfInBounds_toArray, List.set_cons_zero, List.set_cons_succ]
      refine wpAnyH_take (i := 11) (oi := { dst := some 25, op := Op.fieldAddr 43 (Operand.tmp 24) 2, type := 0, pos := "ref.go:170", after := #[{ on := 10, ground := Ground.data }], guard := none }) (v := ?_) rfl (by kernel_rfl) (by kernel_rfl) (by kernel_rfl) (fun _ _ _ h => h) (Or.inl ⟨by rfl, ?_⟩) (by assumption) ?_
      rotate_left
      · (intro w hSw; (try dsimp only at hSw); (try obtain ⟨hSa, hSb⟩ := hSw); go_simp; try with_reducible rfl)
      try simp only [Act.put, List.setIfInBounds_toArray, List.set_cons_zero, List.set_cons_succ]
      refine wpAnyH_take (i := 12) (oi := { dst := some 26, op := Op.load 3 (Operand.tmp 25), type := 3, pos := "ref.go:170", after := #[{ on := 11, ground := Ground.data }], guard := none }) (v := ?_) rfl (by kernel_rfl) (by kernel_rfl) (by kernel_rfl) (fun _ _ _ h => h) (Or.inl ⟨by rfl, ?_⟩) (by assumption) ?_
      rotate_left
      · (intro w hSw; (try dsimp only at hSw); (try obtain ⟨hSa, hSb⟩ := hSw); go_simp; try with_reducible rfl)
      try simp only [Act.put, List.setIfInBounds_toArray, List.set_cons_zero, List.set_cons_succ]
      refine wpAnyH_ready (rs := [13]) (by kernel_rfl) (by simp) ?_
      refine AllReadyH.cons (o := { dst := some 27, op := Op.call { callee := Callee.value (Operand.func 47), args := #[Operand.tmp 18, Operand.tmp 26], argTypes := #[23, 3] }, type := 3, pos := "ref.go:170", after := #[{ on := 4, ground := Ground.data }, { on := 12, ground := Ground.data }], guard := none }) rfl (fun K hK => ?_) AllReadyH.nil
      go_simp
      (refine (HRM.out _).mono ?_; rintro e wx ⟨rfl, hOx⟩; have HOx := Lib.hid (HO.out.trans ((Only.refl (fun _ => False) wr).drew.trans hOx)); have k0 := ((((Only.refl (fun _ => False) wr).drew.trans hOx).cell (p := ⟨r, 0, none⟩) (World.block_lt_of_cell? _ _ c0) id).trans c0); have k1 := ((((Only.refl (fun _ => False) wr).drew.trans hOx).cell (p := ⟨r, 1, none⟩) (World.block_lt_of_cell? _ _ c1) id).trans c1); have k2 := ((((Only.refl (fun _ => False) wr).drew.trans hOx).cell (p := ⟨r, 2, none⟩) (World.block_lt_of_cell? _ _ c2) id).trans c2); have k3 := ((((Only.refl (fun _ => False) wr).drew.trans hOx).cell (p := ⟨r, 3, none⟩) (World.block_lt_of_cell? _ _ c3) id).trans c3); have k4 := ((((Only.refl (fun _ => False) wr).drew.trans hOx).cell (p := ⟨r, 4, none⟩) (World.block_lt_of_cell? _ _ c4) id).trans c4); have k5 := ((((Only.refl (fun _ => False) wr).drew.trans hOx).cell (p := ⟨r, 5, none⟩) (World.block_lt_of_cell? _ _ c5) id).trans c5); have k6 := ((((Only.refl (fun _ => False) wr).drew.trans hOx).cell (p := ⟨rb, off + q * 5 + 2, none⟩) (World.block_lt_of_cell? _ _ f2) id).trans f2); clear hOx; try simp only [])
      refine hK.out _ _ ?_ (fun hHeld => ?_)
      · exact ⟨⟨⟨k0, k1⟩, k2, k3⟩, ⟨k4, k5⟩, k6⟩
      clear hK K
      try simp only [Act.put, List.setIfInBounds_toArray, List.set_cons_zero, List.set_cons_succ]
      refine wpAnyH_take (i := 14) (oi := { dst := some 28, op := Op.binOp BinOp.add 3 (Operand.tmp 14) (Operand.tmp 27) 3, type := 3, pos := "ref.go:170", after := #[{ on := 0, ground := Ground.data }, { on := 13, ground := Ground.data }], guard := none }) (v := ?_) rfl (by kernel_rfl) (by kernel_rfl) (by kernel_rfl) (fun _ _ _ h => h) (Or.inl ⟨by rfl, ?_⟩) (by assumption) ?_
      rotate_left
      · (intro w hSw; (try dsimp only at hSw); (try obtain ⟨hSa, hSb⟩ := hSw); go_simp; try with_reducible rfl)
      try simp only [Act.put, List.setIfInBounds_toArray, List.set_cons_zero, List.set_cons_succ]
      refine wpAnyH_take (i := 15) (oi := { dst := some 3, op := Op.assign (Operand.tmp 28), type := 3, pos := "ref.go:170", after := #[{ on := 14, ground := Ground.data }, { on := 13, ground := Ground.chain }, { on := 0, ground := Ground.phase }, { on := 1, ground := Ground.phase }, { on := 2, ground := Ground.phase }, { on := 3, ground := Ground.phase }, { on := 4, ground := Ground.phase }, { on := 5, ground := Ground.phase }, { on := 6, ground := Ground.phase }, { on := 7, ground := Ground.phase }, { on := 8, ground := Ground.phase }, { on := 9, ground := Ground.phase }, { on := 10, ground := Ground.phase }, { on := 11, ground := Ground.phase }, { on := 12, ground := Ground.phase }, { on := 13, ground := Ground.phase }, { on := 14, ground := Ground.phase }], guard := none }) (v := ?_) rfl (by kernel_rfl) (by kernel_rfl) (by kernel_rfl) (fun _ _ _ h => h) (Or.inl ⟨by rfl, ?_⟩) (by assumption) ?_
      rotate_left
      · (intro w hSw; (try dsimp only at hSw); (try obtain ⟨hSa, hSb⟩ := hSw); go_simp; try with_reducible rfl)
      try simp only [Act.put, List.setIfInBounds_toArray, List.set_cons_zero, List.set_cons_succ]
      refine wpAnyH_done (by kernel_rfl) ?_ _
      go_wp2
      go_roundw
      case rel => exact ⟨q + 1, by omega, by simp, by rw [HS.out], HOx.out⟩
      case measure => simp [intOf]; omega
    · obtain rfl : q = n := by omega
      have q1 : ¬ (q : Int) < q := by omega
      go_wp2
      go_ret
      exact ⟨rfl, HO.out⟩

set_option maxRecDepth 100000 in
set_option maxHeartbeats 4000000 in
theorem refGet_any (r off c rb : Nat) (G : Ge) (hG : G.Is) (l : List Ln) (hl : gOk l) (n : Int) (w : World) (k : RAt w r G l off c rb) :
    Calls Try.prog 30 #[.pointer (some ⟨r, 0, none⟩), .int .i64 n] w fun e w' => e = .returned (.tuple #[getV G l n, .int .i64 (getE l n)]) ∧ Only (fun _ => False) w w' := by
  have o0 := (Only.refl (fun _ => False) w).alloc (.cells #[.int .i64 0, .int .i64 0, .int .i64 0, .int .i64 0, .int .i64 0] 43)
  have k1 := k.quiet o0
  have d5 := k1.st.cell 5
  simp only [List.getElem?_toArray, List.getElem?_cons_zero, List.getElem?_cons_succ] at d5
  clear o0
  by_cases hn : n < 0
  · have HE : Hid (getE l n = 2 ∧ getV G l n = lnV0) := Lib.hid (by unfold getE getV; rw [if_pos (.inl hn), if_pos (.inl hn)]; exact ⟨rfl, rfl⟩)
    clear k k1 hl
    go_enter Try.func30, Try.ntmps30
    go_wp2
    refine bodyPost_ret (v := .tuple #[lnV0, .int .i64 2]) (results_row_tmp (p := 4) (u := 5) (ty := 43) rfl _ _ w.heap.size 43 #[.int .i64 0, .int .i64 0, .int .i64 0, .int .i64 0, .int .i64 0] (0, 0) _ rfl (At.new _ _ _) Try.underlying43 rfl rfl) rfl ?_
    exact ⟨by rw [HE.out.1, HE.out.2], (Only.refl _ _).alloc _⟩
  by_cases hn2 : (l.length : Int) ≤ n
  · have HE : Hid (getE l n = 2 ∧ getV G l n = lnV0) := Lib.hid (by unfold getE getV; rw [if_pos (.inr hn2), if_pos (.inr hn2)]; exact ⟨rfl, rfl⟩)
    clear k k1 hl
    go_enter Try.func30, Try.ntmps30
    go_wp2
    refine bodyPost_ret (v := .tuple #[lnV0, .int .i64 2]) (results_row_tmp (p := 4) (u := 5) (ty := 43) rfl _ _ w.heap.size 43 #[.int .i64 0, .int .i64 0, .int .i64 0, .int .i64 0, .int .i64 0] (0, 0) _ rfl (At.new _ _ _) Try.underlying43 rfl rfl) rfl ?_
    exact ⟨by rw [HE.out.1, HE.out.2], (Only.refl _ _).alloc _⟩
  obtain ⟨i, rfl⟩ : ∃ i : Nat, n = i := ⟨n.toNat, by omega⟩
  have hi : i < l.length := by omega
  have i0 : (0 : Int) ≤ i := by omega
  have i1 : (i : Int) < l.length := by omega
  have i4 : decide (l.length ≤ i) = false := decide_eq_false (by omega)
  have HE : Hid (getE l i = 0 ∧ getV G l i = lnV G l[i]) := Lib.hid (by unfold getE getV; rw [if_neg (by omega), if_neg (by omega), at'_nat hi]; exact ⟨rfl, rfl⟩)
  have e0 : (w.alloc (.cells #[.int .i64 0, .int .i64 0, .int .i64 0, .int .i64 0, .int .i64 0] 43)).cell? ⟨rb, off + i * 5, none⟩ = some (.int .i64 (l[i]).s) := k1.ln hi (j := 0) (by omega) rfl
  have e1 : (w.alloc (.cells #[.int .i64 0, .int .i64 0, .int .i64 0, .int .i64 0, .int .i64 0] 43)).cell? ⟨rb, off + i * 5 + 1, none⟩ = some (.int .i64 (l[i]).w) := k1.ln hi (j := 1) (by omega) rfl
  have e2 : (w.alloc (.cells #[.int .i64 0, .int .i64 0, .int .i64 0, .int .i64 0, .int .i64 0] 43)).cell? ⟨rb, off + i * 5 + 2, none⟩ = some (.int .i64 (l[i]).g) := k1.ln hi (j := 2) (by omega) rfl
  have e3 : (w.alloc (.cells #[.int .i64 0, .int .i64 0, .int .i64 0, .int .i64 0, .int .i64 0] 43)).cell? ⟨rb, off + i * 5 + 3, none⟩ = some (.int .i64 0) := k1.ln hi (j := 3) (by omega) rfl
  have e4 : (w.alloc (.cells #[.int .i64 0, .int .i64 0, .int .i64 0, .int .i64 0, .int .i64 0] 43)).cell? ⟨rb, off + i * 5 + 4, none⟩ = some (.int .i64 0) := k1.ln hi (j := 4) (by omega) rfl
  have hg := hl _ (List.getElem_mem hi)
  have HR : Hid (∀ w, Calls Try.prog 47 #[G.val, .int .i64 (l[i]).g] w fun e w' => e = .returned (.int .i64 (rm G (l[i]).g)) ∧ Only (fun _ => False) w w') := Lib.hid (fun w => refRoom_any G hG _ hg.1 hg.2 w)
  unfold Ge.val at HR
  unfold lnV at HE
  have HK1 := Lib.hid k1
  have HRL := Lib.hid k.lts
  clear k k1 hl hg hn hn2 hG
  generalize l[i] = x at *
  have o1 := (Only.refl (fun _ => False) w).alloc (.cells #[.int .i64 0, .int .i64 0, .int .i64 0, .int .i64 0, .int .i64 0] 43)
  have n1 := At.new w 43 #[.int .i64 0, .int .i64 0, .int .i64 0, .int .i64 0, .int .i64 0]
  have hsz1 : (w.alloc (.cells #[.int .i64 0, .int .i64 0, .int .i64 0, .int .i64 0, .int .i64 0] 43)).heap.size = w.heap.size + 1 := by simp
  have o2 := o1.alloc (.cells #[.int .i64 x.s, .int .i64 x.w, .int .i64 x.g, .int .i64 0, .int .i64 0] 43)
  have n2 := n1.alloc (.cells #[.int .i64 x.s, .int .i64 x.w, .int .i64 x.g, .int .i64 0, .int .i64 0] 43)
  have m2 := At.new (w.alloc (.cells #[.int .i64 0, .int .i64 0, .int .i64 0, .int .i64 0, .int .i64 0] 43)) 43 #[.int .i64 x.s, .int .i64 x.w, .int .i64 x.g, .int .i64 0, .int .i64 0]
  rw [hsz1] at m2
  have hk2 := HK1.out.quiet ((Only.refl (fun _ => False) _).alloc (.cells #[.int .i64 x.s, .int .i64 x.w, .int .i64 x.g, .int .i64 0, .int .i64 0] 43))
  have HK2 := Lib.hid hk2
  have HO2 := Lib.hid o2
  have HN2 := Lib.hid n2
  have HM2 := Lib.hid m2
  clear o1 n1 hsz1 o2 n2 m2 hk2
  go_enter Try.func30, Try.ntmps30
  go_wp2_with (fail)
  refine wp_region_held_drew (S := (fun W => ((W.cell? ⟨r, 0, none⟩ = some (.int .i64 G.c) ∧ W.cell? ⟨r, 1, none⟩ = some (.int .i64 G.l)) ∧ (W.cell? ⟨r, 2, none⟩ = some (.int .i64 G.b) ∧ W.cell? ⟨r, 3, none⟩ = some (.int .i64 G.p))) ∧ (W.cell? ⟨r, 4, none⟩ = some (.int .i64 G.s) ∧ W.cell? ⟨w.heap.size + 1, 2, none⟩ = some (.int .i64 x.g)))) (by kernel_rfl) ?_ (fun hHeld => ?_)
  · exact ⟨⟨⟨HK2.out.st.cell 0, HK2.out.st.cell 1⟩, HK2.out.st.cell 2, HK2.out.st.cell 3⟩, HK2.out.st.cell 4, HM2.out.cell 2⟩
  refine wpAnyH_take (i := 0) (oi := { dst := some 26, op := Op.move (Operand.tmp 0), type := 30, pos := "ref.go:151", after := #[], guard := none }) (v := ?_) rfl (by kernel_rfl) (by kernel_rfl) (by kernel_rfl) (fun _ _ _ h => h) (Or.inl ⟨by rfl, ?_⟩) (by assumption) ?_
  rotate_left
  · (intro w hSw; (try dsimp only at hSw); (try obtain ⟨hSa, hSb⟩ := hSw); go_simp; try with_reducible rfl)
  try simp only [Act.put, List.setIfInBounds_toArray, List.set_cons_zero, List.set_cons_succ]
  refine wpAnyH_take (i := 1) (oi := { dst := some 27, op := Op.nilCheck (Operand.tmp 26), type := 0, pos := "ref.go:151", after := #[{ on := 0, ground := Ground.data }], guard := none }) (v := ?_) rfl (by kernel_rfl) (by kernel_rfl) (by kernel_rfl) (fun _ _ _ h => h) (Or.inl ⟨by rfl, ?_⟩) (by assumption) ?_
  rotate_left
  · (intro w hSw; (try dsimp only at hSw); (try obtain ⟨hSa, hSb⟩ := hSw); go_simp; try with_reducible rfl)
  try simp only [Act.put, List.setIfInBounds_toArray, List.set_cons_zero, List.set_cons_succ]
  refine wpAnyH_take (i := 2) (oi := { dst := some 28, op := Op.fieldAddr 64 (Operand.tmp 27) 0, type := 0, pos := "ref.go:151", after := #[{ on := 1, ground := Ground.data }], guard := none }) (v := ?_) rfl (by kernel_rfl) (by kernel_rfl) (by kernel_rfl) (fun _ _ _ h => h) (Or.inl ⟨by rfl, ?_⟩) (by assumption) ?_
  rotate_left
  · (intro w hSw; (try dsimp only at hSw); (try obtain ⟨hSa, hSb⟩ := hSw); go_simp; try with_reducible rfl)
  try simp only [Act.put, List.setIfInBounds_toArray, List.set_cons_zero, List.set_cons_succ]
  refine wpAnyH_take (i := 3) (oi := { dst := some 29, op := Op.load 23 (Operand.tmp 28), type := 23, pos := "ref.go:151", after := #[{ on := 2, ground := Ground.data }], guard := none }) (v := ?_) rfl (by kernel_rfl) (by kernel_rfl) (by kernel_rfl) (fun _ _ _ h => h) (Or.inl ⟨by rfl, ?_⟩) (by assumption) ?_
  rotate_left
  · (intro w hSw; (try dsimp only at hSw); (try obtain ⟨hSa, hSb⟩ := hSw); go_simp; try with_reducible rfl)
  try simp only [Act.put, List.setIfInBounds_toArray, List.set_cons_zero, List.set_cons_succ]
  refine wpAnyH_take (i := 4) (oi := { dst := some 30, op := Op.fieldAddr 43 (Operand.tmp 6) 2, type := 0, pos := "ref.go:151", after := #[], guard := none }) (v := ?_) rfl (by kernel_rfl) (by kernel_rfl) (by kernel_rfl) (fun _ _ _ h => h) (Or.inl ⟨by rfl, ?_⟩) (by assumption) ?_
  rotate_left
  · (intro w hSw; (try dsimp only at hSw); (try obtain ⟨hSa, hSb⟩ := hSw); go_simp; try with_reducible rfl)
  try simp only [Act.put, List.setIfInBounds_toArray, List.set_cons_zero, List.set_cons_succ]
  refine wpAnyH_take (i := 5) (oi := { dst := some 31, op := Op.load 3 (Operand.tmp 30), type := 3, pos := "ref.go:151", after := #[{ on := 4, ground := Ground.data }], guard := none }) (v := ?_) rfl (by kernel_rfl) (by kernel_rfl) (by kernel_rfl) (fun _ _ _ h => h) (Or.inl ⟨by rfl, ?_⟩) (by assumption) ?_
  rotate_left
  · (intro w hSw; (try dsimp only at hSw); (try obtain ⟨hSa, hSb⟩ := hSw); go_simp; try with_reducible rfl)
  try simp only [Act.put, List.setIfInBounds_toArray, List.set_cons_zero, List.set_cons_succ]
  refine wpAnyH_ready (rs := [6]) (by kernel_rfl) (by simp) ?_
  refine AllReadyH.cons (o := { dst := some 32, op := Op.call { callee := Callee.value (Operand.func 47), args := #[Operand.tmp 29, Operand.tmp 31], argTypes := #[23, 3] }, type := 3, pos := "ref.go:151", after := #[{ on := 3, ground := Ground.data }, { on := 5, ground := Ground.data }], guard := none }) rfl (fun K hK => ?_) AllReadyH.nil
  go_simp
  (refine (HR.out _).mono ?_; rintro e wx ⟨rfl, hO3⟩; have HO3 := Lib.hid (HO2.out.drew.trans hO3); have HN3 := Lib.hid (HN2.out.drew.only hO3 id); have HM3 := Lib.hid (HM2.out.drew.only hO3 id); have HK3 := Lib.hid ((HK2.out.quiet (Only.refl _ _).drew).quiet hO3); clear hO3; have z4 := HM3.out.cell 4; simp only [List.getElem?_toArray, List.getElem?_cons_zero, List.getElem?_cons_succ] at z4; have y4 := HM3.out.frozen 4; try simp only [])
  refine hK.out _ _ ?_ (fun hHeld => ?_)
  · exact ⟨⟨⟨HK3.out.st.cell 0, HK3.out.st.cell 1⟩, HK3.out.st.cell 2, HK3.out.st.cell 3⟩, HK3.out.st.cell 4, HM3.out.cell 2⟩
  clear hK K
  try simp only [Act.put, List.setIfInBounds_toArray, List.set_cons_zero, List.set_cons_succ]
  refine wpAnyH_take (i := 7) (oi := { dst := some 33, op := Op.fieldAddr 43 (Operand.tmp 6) 4, type := 0, pos := "ref.go:151", after := #[{ on := 0, ground := Ground.phase }, { on := 1, ground := Ground.phase }, { on := 2, ground := Ground.phase }, { on := 3, ground := Ground.phase }, { on := 4, ground := Ground.phase }, { on := 5, ground := Ground.phase }, { on := 6, ground := Ground.phase }], guard := none }) (v := ?_) rfl (by kernel_rfl) (by kernel_rfl) (by kernel_rfl) (fun _ _ _ h => h) (Or.inl ⟨by rfl, ?_⟩) (by assumption) ?_
  rotate_left
  · (intro w hSw; (try dsimp only at hSw); (try obtain ⟨hSa, hSb⟩ := hSw); go_simp; try with_reducible rfl)
  try simp only [Act.put, List.setIfInBounds_toArray, List.set_cons_zero, List.set_cons_succ]
  refine wpAnyH_ready (rs := [8]) (by kernel_rfl) (by simp) ?_
  refine AllReadyH.cons (o := { dst := none, op := Op.store 3 (Operand.tmp 33) (Operand.tmp 32), type := 0, pos := "ref.go:151", after := #[{ on := 7, ground := Ground.data }, { on := 6, ground := Ground.data }, { on := 6, ground := Ground.chain }, { on := 0, ground := Ground.phase }, { on := 1, ground := Ground.phase }, { on := 2, ground := Ground.phase }, { on := 3, ground := Ground.phase }, { on := 4, ground := Ground.phase }, { on := 5, ground := Ground.phase }, { on := 6, ground := Ground.phase }], guard := none }) rfl (fun K hK => ?_) AllReadyH.nil
  go_simp
  skip
  refine hK.out _ _ ?_ (fun hHeld => ?_)
  · have hk3 := HK3.out.only ((Only.refl (fun j => j = w.heap.size + 1) wx).setCell (p := ⟨w.heap.size + 1, 4, none⟩) (fun _ => rfl) (.int .i64 (rm G x.g))) (by have := HRL.out; omega) (by have := HRL.out; omega); have hm3 := HM3.out.set 4 (.int .i64 (rm G x.g)); exact ⟨⟨⟨hk3.st.cell 0, hk3.st.cell 1⟩, hk3.st.cell 2, hk3.st.cell 3⟩, hk3.st.cell 4, hm3.cell 2⟩
  clear hK K
  try simp only [Act.put, List.setIfInBounds_toArray, List.set_cons_zero, List.set_cons_succ]
  refine wpAnyH_done (by kernel_rfl) ?_ _
  have hm4 : At (wx.setCell ⟨w.heap.size + 1, 4, none⟩ (.int .i64 (rm G x.g))) (w.heap.size + 1) 43 #[.int .i64 x.s, .int .i64 x.w, .int .i64 x.g, .int .i64 0, .int .i64 (rm G x.g)] := HM3.out.set 4 _
  have hn4 : At (wx.setCell ⟨w.heap.size + 1, 4, none⟩ (.int .i64 (rm G x.g))) w.heap.size 43 #[.int .i64 0, .int .i64 0, .int .i64 0, .int .i64 0, .int .i64 0] := HN3.out.far (p := ⟨w.heap.size + 1, 4, none⟩) (by simp) _
  have u0 := hm4.cell 0
  have u1 := hm4.cell 1
  have u2 := hm4.cell 2
  have u3 := hm4.cell 3
  have u4 := hm4.cell 4
  have t0 := hn4.cell 0
  have t1 := hn4.cell 1
  have t2 := hn4.cell 2
  have t3 := hn4.cell 3
  have t4 := hn4.cell 4
  have s0 := hn4.frozen 0
  have s1 := hn4.frozen 1
  have s2 := hn4.frozen 2
  have s3 := hn4.frozen 3
  have s4 := hn4.frozen 4
  simp only [List.getElem?_toArray, List.getElem?_cons_zero, List.getElem?_cons_succ] at u0 u1 u2 u3 u4 t0 t1 t2 t3 t4
  have HN4 := Lib.hid hn4
  have HO4 := Lib.hid (HO3.out.setCell (p := ⟨w.heap.size + 1, 4, none⟩) (fun h => by simp at h; omega) (.int .i64 (rm G x.g)))
  clear hm4 hn4
  go_wp2
  refine bodyPost_ret (v := .tuple #[lnV G x, .int .i64 0]) (results_row_tmp (p := 4) (u := 5) (ty := 43) rfl _ _ w.heap.size 43 #[.int .i64 x.s, .int .i64 x.w, .int .i64 x.g, .int .i64 0, .int .i64 (rm G x.g)] (0, 0) _ rfl (((((HN4.out.set 0 _).set 1 _).set 2 _).set 3 _).set 4 _) Try.underlying43 rfl rfl) rfl ?_
  exact ⟨by rw [HE.out.1, HE.out.2]; rfl, HO4.out.trans' (only_line _ _ _ _ _ _ _) (fun i hi e => by omega)⟩
end Go.Proofs.Ytlenjgofiocaaaa
