/- Lines: the document's lines: Lose, Open; what stays true, call by call. -/
import Derived.Test.YtlenjgofiocaaaaEE
namespace Go.Proofs.Ytlenjgofiocaaaa
open Go.RowKit

section
variable {l : List Ln} {op : Int}
theorem Inv.use (hI : Inv l op) (n : Int) : Inv (useM l n) op := by
  unfold useM
  split
  · rename_i hE
    obtain ⟨i, hi, rfl, hs⟩ := findE_zero hE
    rw [upd_nat hi]
    have hf := hI.f _ (List.getElem_mem hi)
    have ho := hI.o i hi
    rw [hs] at ho
    exact hI.set hi ⟨hf.g, hf.w, .inr (.inr (.inl rfl)), fun _ => (show (2 : Int) ≠ 0 by decide)⟩ ⟨fun h => absurd h (show (2 : Int) ≠ 1 by decide), fun h => absurd (ho.2 h) (by decide)⟩ (fun j hj => Iff.rfl) hI.b
  · exact hI
theorem Inv.rel (hI : Inv l op) (n : Int) : Inv (relM l n) op := by
  unfold relM
  split
  · rename_i hE
    obtain ⟨i, hi, rfl, hs⟩ := findE_zero hE
    rw [upd_nat hi]
    have hf := hI.f _ (List.getElem_mem hi)
    have ho := hI.o i hi
    rw [hs] at ho
    exact hI.set hi ⟨hf.g, hf.w, un_s _, un_z⟩ ⟨fun h => absurd h (un_one _), fun h => absurd (ho.2 h) (by decide)⟩ (fun j hj => Iff.rfl) hI.b
  · exact hI
theorem Inv.er (hI : Inv l op) (n : Int) : Inv (erM l n) op := by
  unfold erM
  split
  · rename_i hE
    obtain ⟨i, hi, rfl, hs⟩ := findE_zero hE
    rw [upd_nat hi]
    have hf := hI.f _ (List.getElem_mem hi)
    have hw := hf.w
    exact hI.set hi ⟨hf.g, (by show 0 ≤ min ((l[i]).w + 1) 2147483647 ∧ min ((l[i]).w + 1) 2147483647 ≤ 2147483647; omega), hf.s, hf.z⟩ (hI.o i hi) (fun j hj => Iff.rfl) hI.b
  · exact hI
theorem Inv.lose (hI : Inv l op) (n : Int) : Inv (loseM l n) op := by
  unfold loseM
  split
  · rename_i hE
    have hn : ¬ (n < 0 ∨ (l.length : Int) ≤ n) := fun h => by unfold loseE at hE; rw [if_pos h] at hE; cases hE
    obtain ⟨i, rfl⟩ : ∃ i : Nat, n = i := ⟨n.toNat, by omega⟩
    have hi : i < l.length := by omega
    have hg : (l[i]).g ≠ 0 := fun h => by unfold loseE at hE; rw [if_neg hn, at'_nat hi, if_pos h] at hE; cases hE
    rw [upd_nat hi]
    have hf := hI.f _ (List.getElem_mem hi)
    have ho := hI.o i hi
    have hgg := hf.g
    have hs' : (lost l[i]).s = 1 ↔ (l[i]).s = 1 := by
      show (if (l[i]).s = 0 then un ((l[i]).g - 1) else (l[i]).s) = 1 ↔ _
      split
      · rename_i h
        constructor
        · intro e; exact absurd e (un_one _)
        · intro e; omega
      · exact Iff.rfl
    refine hI.set hi ⟨?_, hf.w, ?_, ?_⟩ (hs'.trans ho) (fun j hj => Iff.rfl) hI.b
    · show 0 ≤ (l[i]).g - 1 ∧ (l[i]).g - 1 ≤ 8
      omega
    · show (if (l[i]).s = 0 then un ((l[i]).g - 1) else (l[i]).s) = 0 ∨ (if (l[i]).s = 0 then un ((l[i]).g - 1) else (l[i]).s) = 1 ∨ (if (l[i]).s = 0 then un ((l[i]).g - 1) else (l[i]).s) = 2 ∨ (if (l[i]).s = 0 then un ((l[i]).g - 1) else (l[i]).s) = 3
      split
      · exact un_s _
      · exact hf.s
    · intro e
      show (if (l[i]).s = 0 then un ((l[i]).g - 1) else (l[i]).s) ≠ 0
      split
      · exact un_z e
      · assumption
  · exact hI
theorem Inv.close {i : Nat} (hI : Inv l i) (hi : i < l.length) : Inv (l.set i { l[i] with s := 2 }) (-1) := by
  have hf := hI.f _ (List.getElem_mem hi)
  exact hI.set hi ⟨hf.g, hf.w, .inr (.inr (.inl rfl)), fun _ => (show (2 : Int) ≠ 0 by decide)⟩ (by constructor <;> intro h <;> simp at h <;> omega) (fun j hj => by constructor <;> intro h <;> omega) (.inl rfl)
theorem Inv.opened (hI : Inv l op) (hop : op < 0) {y : Ent l} (hb : bst (flt l 0 l.length) = some y) : Inv (l.set y.1.1 { y.1.2 with s := 1 }) (y.1.1 : Int) := by
  obtain ⟨hi, hx⟩ := List.getElem?_eq_some_iff.1 y.2
  have hs : y.1.2.s = 0 := bst_in y (bst_mem hb)
  have hf := hI.f _ (List.getElem_mem hi)
  rw [hx] at hf
  have hop' : op = -1 := by
    rcases hI.b with h | ⟨j, _, h⟩ <;> omega
  exact hI.set hi ⟨hf.g, hf.w, .inr (.inl rfl), fun _ => (show (1 : Int) ≠ 0 by decide)⟩ (by simp) (fun j hj => by constructor <;> intro h <;> omega) (.inr ⟨y.1.1, hi, rfl⟩)
end

set_option maxHeartbeats 2000000 in
theorem refLose_any (r off c rb : Nat) (G : Ge) (l : List Ln) (hl : gOk l) (n : Int) (w : World) (k : RAt w r G l off c rb) :
    Calls Try.prog 41 #[.pointer (some ⟨r, 0, none⟩), .int .i64 n] w fun e w' => e = .returned (.int .i64 (loseE l n)) ∧ RAt w' r G (loseM l n) off c rb ∧ Only (fun i => i = rb) w w' := by
  have c5 := k.st.cell 5
  simp only [List.getElem?_toArray, List.getElem?_cons_zero, List.getElem?_cons_succ] at c5
  by_cases hn : n < 0
  · have HE : Hid (loseE l n = 2) := Lib.hid (by unfold loseE; rw [if_pos (.inl hn)])
    have HM : Hid (loseM l n = l) := Lib.hid (by unfold loseM; rw [HE.out, if_neg (by decide)])
    have HK := Lib.hid k
    clear k hl
    go_enter Try.func41, Try.ntmps41
    go_wp2
    go_ret
    exact ⟨by rw [HE.out]; rfl, by rw [HM.out]; exact HK.out, Only.refl _ _⟩
  by_cases hn2 : (l.length : Int) ≤ n
  · have HE : Hid (loseE l n = 2) := Lib.hid (by unfold loseE; rw [if_pos (.inr hn2)])
    have HM : Hid (loseM l n = l) := Lib.hid (by unfold loseM; rw [HE.out, if_neg (by decide)])
    have HK := Lib.hid k
    clear k hl
    go_enter Try.func41, Try.ntmps41
    go_wp2
    go_ret
    exact ⟨by rw [HE.out]; rfl, by rw [HM.out]; exact HK.out, Only.refl _ _⟩
  obtain ⟨i, rfl⟩ : ∃ i : Nat, n = i := ⟨n.toNat, by omega⟩
  have hi : i < l.length := by omega
  have i0 : (0 : Int) ≤ i := by omega
  have i1 : (i : Int) < l.length := by omega
  have i4 : decide (l.length ≤ i) = false := decide_eq_false (by omega)
  have f2 : w.cell? ⟨rb, off + i * 5 + 2, none⟩ = some (.int .i64 (l[i]).g) := k.ln hi (j := 2) (by omega) rfl
  have y2 := k.fr (off + i * 5 + 2)
  have hg := hl _ (List.getElem_mem hi)
  have hg1 := hg.1
  have hg2 := hg.2
  by_cases hz : (l[i]).g = 0
  · have HE : Hid (loseE l i = 13) := Lib.hid (by unfold loseE; rw [if_neg (by omega), at'_nat hi, if_pos hz])
    have HM : Hid (loseM l i = l) := Lib.hid (by unfold loseM; rw [HE.out, if_neg (by decide)])
    have HK := Lib.hid k
    rw [hz] at f2
    clear k hl hg hn hn2 hz hg1 hg2
    go_enter Try.func41, Try.ntmps41
    go_wp2
    go_ret
    exact ⟨by rw [HE.out]; rfl, by rw [HM.out]; exact HK.out, Only.refl _ _⟩
  have HE : Hid (loseE l i = 0) := Lib.hid (by unfold loseE; rw [if_neg (by omega), at'_nat hi, if_neg hz])
  have HM : Hid (loseM l i = l.set i (lost l[i])) := Lib.hid (by unfold loseM; rw [HE.out, if_pos rfl, upd_nat hi])
  have hk1 := k.setGd hi ((l[i]).g - 1)
  have hi' : i < (l.set i { l[i] with g := (l[i]).g - 1 }).length := by simpa using hi
  have d5 : (w.setCell ⟨rb, off + i * 5 + 2, none⟩ (.int .i64 ((l[i]).g - 1))).cell? ⟨r, 5, none⟩ = some (.slice (some ⟨rb, off, none⟩) l.length c) := by
    have := hk1.st.cell 5
    rw [List.length_set] at this
    exact this
  have d2 : (w.setCell ⟨rb, off + i * 5 + 2, none⟩ (.int .i64 ((l[i]).g - 1))).cell? ⟨rb, off + i * 5 + 2, none⟩ = some (.int .i64 ((l[i]).g - 1)) := hk1.ln hi' (j := 2) (by omega) (by simp [rc5])
  have d0 : (w.setCell ⟨rb, off + i * 5 + 2, none⟩ (.int .i64 ((l[i]).g - 1))).cell? ⟨rb, off + i * 5, none⟩ = some (.int .i64 (l[i]).s) := hk1.ln hi' (j := 0) (by omega) (by simp [rc5])
  have y0 := hk1.fr (off + i * 5)
  have HK1 := Lib.hid hk1
  have HK2 := Lib.hid (fun z => hk1.setS hi' z)
  have HO1 := Lib.hid ((Only.refl (fun j => j = rb) w).setCell (p := ⟨rb, off + i * 5 + 2, none⟩) (fun _ => rfl) (.int .i64 ((l[i]).g - 1)))
  have ts2 : ((l[i]).g == 0) = false := beq_false_of_ne hz
  have hlen := k.len
  clear k hl hg hn hn2 hk1
  have HLO : Hid (lost l[i] = { l[i] with g := (l[i]).g - 1, s := if (l[i]).s = 0 then un ((l[i]).g - 1) else (l[i]).s }) := Lib.hid rfl
  by_cases hg1' : (l[i]).g - 1 = 0
  · by_cases hs : (l[i]).s = 0
    · have HL : Hid (lost l[i] = { l[i] with g := (l[i]).g - 1, s := 3 }) := Lib.hid (by rw [HLO.out, if_pos hs, hg1']; rfl)
      have t1 : ((l[i]).g - 1 == 0) = true := by simp [hg1']
      have t2 : ((l[i]).s == 0) = true := by simp [hs]
      clear hs hg1' hz
      generalize (l[i]).s = st at *
      generalize (l[i]).g = g at *
      go_enter Try.func41, Try.ntmps41
      go_wp2
      go_ret
      refine ⟨by rw [HE.out]; rfl, ?_, HO1.out.setCell (p := ⟨rb, off + i * 5, none⟩) (fun _ => rfl) _⟩
      rw [HM.out, HL.out]
      have := HK2.out 3
      simp only [List.set_set, List.getElem_set_self] at this
      exact this
    · have HL : Hid (lost l[i] = { l[i] with g := (l[i]).g - 1 }) := Lib.hid (by rw [HLO.out, if_neg hs])
      have t1 : ((l[i]).g - 1 == 0) = true := by simp [hg1']
      have t2 : ((l[i]).s == 0) = false := beq_false_of_ne hs
      clear hs hg1' hz
      generalize (l[i]).s = st at *
      generalize (l[i]).g = g at *
      go_enter Try.func41, Try.ntmps41
      go_wp2
      go_ret
      exact ⟨by rw [HE.out]; rfl, by rw [HM.out, HL.out]; exact HK1.out, HO1.out⟩
  · have HL : Hid (lost l[i] = { l[i] with g := (l[i]).g - 1 }) := Lib.hid (by
      rw [HLO.out]
      split
      · rename_i h
        have : un ((l[i]).g - 1) = (l[i]).s := by unfold un; rw [if_neg hg1', h]
        rw [this]
      · rfl)
    have t1 : ((l[i]).g - 1 == 0) = false := beq_false_of_ne hg1'
    clear hg1' hz
    generalize (l[i]).s = st at *
    generalize (l[i]).g = g at *
    go_enter Try.func41, Try.ntmps41
    go_wp2
    go_ret
    exact ⟨by rw [HE.out]; rfl, by rw [HM.out, HL.out]; exact HK1.out, HO1.out⟩

def ROpenP (r off c rb : Nat) (G : Ge) (l : List Ln) (w : World) (o : Option (Ent l)) (e : Ending) (w' : World) : Prop :=
  match o with
  | none => e = .returned (.tuple #[.int .i64 0, .int .i64 11]) ∧ Only (fun _ => False) w w'
  | some y => e = .returned (.tuple #[.int .i64 (y.1.1 : Int), .int .i64 0]) ∧ RAt w' r G (l.set y.1.1 { y.1.2 with s := 1 }) off c rb ∧ Only (fun i => i = rb) w w'

set_option maxHeartbeats 1000000 in
theorem refOpen_busy (r off c rb : Nat) (G : Ge) (l : List Ln) (op : Int) (hI : Inv l op) (hop : 0 ≤ op) (w : World) (k : RAt w r G l off c rb) :
    Calls Try.prog 37 #[.pointer (some ⟨r, 0, none⟩)] w fun e w' => e = .returned (.tuple #[.int .i64 0, .int .i64 13]) ∧ w' = w := by
  have HC := Lib.hid (refCurrent_any r off c rb G l op hI w k)
  clear hI k
  go_enter Try.func37, Try.ntmps37
  go_wp2_with (fail)
  refine HC.out.mono ?_
  rintro e w1 ⟨rfl, rfl⟩
  go_wp2
  go_ret2
  exact ⟨rfl, rfl⟩
set_option maxRecDepth 100000 in
set_option maxHeartbeats 8000000 in
theorem refOpen_any (r off c rb : Nat) (G : Ge) (l : List Ln) (op : Int) (hI : Inv l op) (hop : op < 0) (w : World) (k : RAt w r G l off c rb) :
    Calls Try.prog 37 #[.pointer (some ⟨r, 0, none⟩)] w (ROpenP r off c rb G l w (bst (flt l 0 l.length))) := by
  have HC := Lib.hid (refCurrent_any r off c rb G l op hI w k)
  have hlen := k.len
  have HK := Lib.hid k
  have op1 : decide (0 ≤ op) = false := decide_eq_false (by omega)
  clear hI k
  obtain ⟨n, hn⟩ : ∃ n, l.length = n := ⟨_, rfl⟩
  have HN := Lib.hid hn
  rw [hn] at hlen ⊢
  clear hn
  go_enter Try.func37, Try.ntmps37
  go_wp2_with (fail)
  refine HC.out.mono ?_
  rintro e w1 ⟨rfl, rfl⟩
  go_wp2_with (fail)
  go_loopw [4, 5] (fun v4 v5 wr => ∃ q : Nat, q ≤ n ∧ v5 = .int .i64 q ∧ v4 = .int .i64 (bI (bst (flt l 0 q))) ∧ Only (fun _ => False) w1 wr) (fun _ v5 wr => (n - intOf v5).toNat)
  case atStart => exact ⟨0, by omega, rfl, rfl, Only.refl _ _⟩
  case round =>
    obtain ⟨q, hq, rfl, rfl, hO⟩ := hrel
    have HO := Lib.hid hO
    have HKQ := Lib.hid (HK.out.quiet hO)
    have c5 := HKQ.out.st.cell 5
    simp only [List.getElem?_toArray, List.getElem?_cons_zero, List.getElem?_cons_succ] at c5
    rw [HN.out] at c5
    clear hO
    by_cases hqn : q < n
    · have q0 : (0 : Int) ≤ q := by omega
      have q1 : (q : Int) < n := by omega
      have hql : q < l.length := by rw [HN.out]; exact hqn
      obtain ⟨x, hx⟩ : ∃ x, l[q]? = some x := ⟨_, List.getElem?_eq_getElem hql⟩
      have hxe : l[q] = x := by rw [List.getElem?_eq_getElem hql] at hx; injection hx
      have f0 : wr.cell? ⟨rb, off + q * 5, none⟩ = some (.int .i64 x.s) := HKQ.out.ln hql (j := 0) (by omega) (by rw [hxe]; rfl)
      have f1 : wr.cell? ⟨rb, off + q * 5 + 1, none⟩ = some (.int .i64 x.w) := HKQ.out.ln hql (j := 1) (by omega) (by rw [hxe]; rfl)
      have HY := Lib.hid (fun h => flt_yes (st := 0) hx h)
      have HNO := Lib.hid (fun h => flt_no (st := 0) hx h)
      clear hxe
      by_cases hs : x.s = 0
      · have HYE := Lib.hid (HY.out hs)
        have s1 : (x.s == 0) = true := by simp [hs]
        clear HY HNO hs
        cases hb : bst (flt l 0 q) with
        | none =>
          have HNX : Hid (bst (flt l 0 (q + 1)) = some ⟨(q, x), hx⟩) := Lib.hid (by rw [HYE.out, bst_snoc, hb]; rfl)
          simp only [bI]
          clear hb
          go_wp2_with (fail)
          refine wp_region_held_drew (S := (fun W => W.cell? ⟨r, 5, none⟩ = some (.slice (some ⟨rb, off, none⟩) n c) ∧ W.cell? ⟨rb, off + q * 5, none⟩ = some (.int .i64 x.s))) (by kernel_rfl) ?_ (fun hHeld => ?_)
          · exact ⟨c5, f0⟩
          refine wpAnyH_take (i := 0) (oi := { dst := some 18, op := Op.move (Operand.tmp 0), type := 30, pos := "ref.go:83", after := #[], guard := none }) (v := ?_) rfl (by kernel_rfl) (by kernel_rfl) (by kernel_rfl) (fun _ _ _ h => h) (Or.inl ⟨by rfl, ?_⟩) (by assumption) ?_
          rotate_left
          · (intro w hSw; (try dsimp only at hSw); (try obtain ⟨hSa, hSb⟩ := hSw); go_simp; try with_reducible rfl)
          try simp only [Act.put, List.setIfInBounds_toArray, List.set_cons_zero, List.set_cons_succ]
          refine wpAnyH_take (i := 1) (oi := { dst := some 19, op := Op.nilCheck (Operand.tmp 18), type := 0, pos := "ref.go:83", after := #[{ on := 0, ground := Ground.data }], guard := none }) (v := ?_) rfl (by kernel_rfl) (by kernel_rfl) (by kernel_rfl) (fun _ _ _ h => h) (Or.inl ⟨by rfl, ?_⟩) (by assumption) ?_
          rotate_left
          · (intro w hSw; (try dsimp only at hSw); (try obtain ⟨hSa, hSb⟩ := hSw); go_simp; try with_reducible rfl)
          try simp only [Act.put, List.setIfInBounds_toArray, List.set_cons_zero, List.set_cons_succ]
          refine wpAnyH_take (i := 2) (oi := { dst := some 20, op := Op.fieldAddr 64 (Operand.tmp 19) 1, type := 0, pos := "ref.go:83", after := #[{ on := 1, ground := Ground.data }], guard := none }) (v := ?_) rfl (by kernel_rfl) (by kernel_rfl) (by kernel_rfl) (fun _ _ _ h => h) (Or.inl ⟨by rfl, ?_⟩) (by assumption) ?_
          rotate_left
          · (intro w hSw; (try dsimp only at hSw); (try obtain ⟨hSa, hSb⟩ := hSw); go_simp; try with_reducible rfl)
          try simp only [Act.put, List.setIfInBounds_toArray, List.set_cons_zero, List.set_cons_succ]
          refine wpAnyH_take (i := 3) (oi := { dst := some 21, op := Op.load 41 (Operand.tmp 20), type := 41, pos := "ref.go:83", after := #[{ on := 2, ground := Ground.data }], guard := none }) (v := ?_) rfl (by kernel_rfl) (by kernel_rfl) (by kernel_rfl) (fun _ _ _ h => h) (Or.inl ⟨by rfl, ?_⟩) (by assumption) ?_
          rotate_left
          · (intro w hSw; (try dsimp only at hSw); (try obtain ⟨hSa, hSb⟩ := hSw); go_simp; try with_reducible rfl)
          try simp only [Act.put, List.setIfInBounds_toArray, List.set_cons_zero, List.set_cons_succ]
          refine wpAnyH_take (i := 4) (oi := { dst := some 22, op := Op.move (Operand.tmp 5), type := 3, pos := "ref.go:83", after := #[], guard := none }) (v := ?_) rfl (by kernel_rfl) (by kernel_rfl) (by kernel_rfl) (fun _ _ _ h => h) (Or.inl ⟨by rfl, ?_⟩) (by assumption) ?_
          rotate_left
          · (intro w hSw; (try dsimp only at hSw); (try obtain ⟨hSa, hSb⟩ := hSw); go_simp; try with_reducible rfl)
          try simp only [Act.put, List.setIfInBounds_toArray, List.set_cons_zero, List.set_cons_succ]
          refine wpAnyH_take (i := 5) (oi := { dst := some 23, op := Op.indexAddr 41 (Operand.tmp 21) (Operand.tmp 22), type := 0, pos := "ref.go:83", after := #[{ on := 3, ground := Ground.data }, { on := 4, ground := Ground.data }], guard := none }) (v := ?_) rfl (by kernel_rfl) (by kernel_rfl) (by kernel_rfl) (fun _ _ _ h => h) (Or.inl ⟨by rfl, ?_⟩) (by assumption) ?_
          rotate_left
          · (intro w hSw; (try dsimp only at hSw); (try obtain ⟨hSa, hSb⟩ := hSw); go_simp; try with_reducible rfl)
          try simp only [Act.put, List.setIfInBounds_toArray, List.set_cons_zero, List.set_cons_succ]
          refine wpAnyH_take (i := 6) (oi := { dst := some 24, op := Op.fieldAddr 43 (Operand.tmp 23) 0, type := 0, pos := "ref.go:83", after := #[{ on := 5, ground := Ground.data }], guard := none }) (v := ?_) rfl (by kernel_rfl) (by kernel_rfl) (by kernel_rfl) (fun _ _ _ h => h) (Or.inl ⟨by rfl, ?_⟩) (by assumption) ?_
          rotate_left
          · (intro w hSw; (try dsimp only at hSw); (try obtain ⟨hSa, hSb⟩ := hSw); go_simp; try with_reducible rfl)
          try simp only [Act.put, List.setIfInBounds_toArray, List.set_cons_zero, List.set_cons_succ]
          refine wpAnyH_take (i := 7) (oi := { dst := some 25, op := Op.load 3 (Operand.tmp 24), type := 3, pos := "ref.go:83", after := #[{ on := 6, ground := Ground.data }], guard := none }) (v := ?_) rfl (by kernel_rfl) (by kernel_rfl) (by kernel_rfl) (fun _ _ _ h => h) (Or.inl ⟨by rfl, ?_⟩) (by assumption) ?_
          rotate_left
          · (intro w hSw; (try dsimp only at hSw); (try obtain ⟨hSa, hSb⟩ := hSw); go_simp; try with_reducible rfl)
          try simp only [Act.put, List.setIfInBounds_toArray, List.set_cons_zero, List.set_cons_succ]
          refine wpAnyH_take (i := 8) (oi := { dst := some 26, op := Op.binOp BinOp.eql 3 (Operand.tmp 25) (Operand.const (Value.int IntKind.i64 0)) 3, type := 4, pos := "ref.go:83", after := #[{ on := 7, ground := Ground.data }], guard := none }) (v := ?_) rfl (by kernel_rfl) (by kernel_rfl) (by kernel_rfl) (fun _ _ _ h => h) (Or.inl ⟨by rfl, ?_⟩) (by assumption) ?_
          rotate_left
          · (intro w hSw; (try dsimp only at hSw); (try obtain ⟨hSa, hSb⟩ := hSw); go_simp; try with_reducible rfl)
          try simp only [Act.put, List.setIfInBounds_toArray, List.set_cons_zero, List.set_cons_succ]
          refine wpAnyH_take (i := 9) (oi := { dst := some 27, op := Op.move (Operand.tmp 26), type := 4, pos := "ref.go:83", after := #[{ on := 8, ground := Ground.data }], guard := none }) (v := ?_) rfl (by kernel_rfl) (by kernel_rfl) (by kernel_rfl) (fun _ _ _ h => h) (Or.inl ⟨by rfl, ?_⟩) (by assumption) ?_
          rotate_left
          · (intro w hSw; (try dsimp only at hSw); (try obtain ⟨hSa, hSb⟩ := hSw); go_simp; try with_reducible rfl)
          try simp only [Act.put, List.setIfInBounds_toArray, List.set_cons_zero, List.set_cons_succ]
          refine wpAnyH_take (i := 10) (oi := { dst := some 28, op := Op.move (Operand.tmp 4), type := 3, pos := "ref.go:83", after := #[{ on := 9, ground := Ground.guard }], guard := some (9, true) }) (v := ?_) rfl (by kernel_rfl) (by kernel_rfl) (by kernel_rfl) (fun _ _ _ h => h) (Or.inl ⟨by rfl, ?_⟩) (by assumption) ?_
          rotate_left
          · (intro w hSw; (try dsimp only at hSw); (try obtain ⟨hSa, hSb⟩ := hSw); go_simp; try with_reducible rfl)
          try simp only [Act.put, List.setIfInBounds_toArray, List.set_cons_zero, List.set_cons_succ]
          refine wpAnyH_take (i := 11) (oi := { dst := some 29, op := Op.binOp BinOp.lss 3 (Operand.tmp 28) (Operand.const (Value.int IntKind.i64 0)) 3, type := 4, pos := "ref.go:83", after := #[{ on := 10, ground := Ground.data }, { on := 9, ground := Ground.guard }], guard := some (9, true) }) (v := ?_) rfl (by kernel_rfl) (by kernel_rfl) (by kernel_rfl) (fun _ _ _ h => h) (Or.inl ⟨by rfl, ?_⟩) (by assumption) ?_
          rotate_left
          · (intro w hSw; (try dsimp only at hSw); (try obtain ⟨hSa, hSb⟩ := hSw); go_simp; try with_reducible rfl)
          try simp only [Act.put, List.setIfInBounds_toArray, List.set_cons_zero, List.set_cons_succ]
          refine wpAnyH_take (i := 12) (oi := { dst := some 30, op := Op.move (Operand.tmp 29), type := 4, pos := "ref.go:83", after := #[{ on := 11, ground := Ground.data }, { on := 9, ground := Ground.chain }, { on := 9, ground := Ground.guard }], guard := some (9, true) }) (v := ?_) rfl (by kernel_rfl) (by kernel_rfl) (by kernel_rfl) (fun _ _ _ h => h) (Or.inl ⟨by rfl, ?_⟩) (by assumption) ?_
          rotate_left
          · (intro w hSw; (try dsimp only at hSw); (try obtain ⟨hSa, hSb⟩ := hSw); go_simp; try with_reducible rfl)
          try simp only [Act.put, List.setIfInBounds_toArray, List.set_cons_zero, List.set_cons_succ]
          refine wpAnyH_take (i := 13) (oi := { dst := some 31, op := Op.move (Operand.tmp 0), type := 30, pos := "ref.go:83", after := #[{ on := 12, ground := Ground.guard }], guard := some (12, false) }) (v := undef) rfl (by kernel_rfl) (by kernel_rfl) (by kernel_rfl) (fun _ _ _ h => h) (Or.inr ⟨by rfl, rfl⟩) (by assumption) ?_
          try simp only [Act.put, List.setIfInBounds_toArray, List.set_cons_zero, List.set_cons_succ]
          refine wpAnyH_take (i := 14) (oi := { dst := some 32, op := Op.nilCheck (Operand.tmp 31), type := 0, pos := "ref.go:83", after := #[{ on := 13, ground := Ground.data }, { on := 12, ground := Ground.guard }], guard := some (12, false) }) (v := undef) rfl (by kernel_rfl) (by kernel_rfl) (by kernel_rfl) (fun _ _ _ h => h) (Or.inr ⟨by rfl, rfl⟩) (by assumption) ?_
          try simp only [Act.put, List.setIfInBounds_toArray, List.set_cons_zero, List.set_cons_succ]
          refine wpAnyH_take (i := 15) (oi := { dst := some 33, op := Op.fieldAddr 64 (Operand.tmp 32) 1, type := 0, pos := "ref.go:83", after := #[{ on := 14, ground := Ground.data }, { on := 12, ground := Ground.guard }], guard := some (12, false) }) (v := undef) rfl (by kernel_rfl) (by kernel_rfl) (by kernel_rfl) (fun _ _ _ h => h) (Or.inr ⟨by rfl, rfl⟩) (by assumption) ?_
          try simp only [Act.put, List.setIfInBounds_toArray, List.set_cons_zero, List.set_cons_succ]
          refine wpAnyH_take (i := 16) (oi := { dst := some 34, op := Op.load 41 (Operand.tmp 33), type := 41, pos := "ref.go:83", after := #[{ on := 15, ground := Ground.data }, { on := 12, ground := Ground.guard }], guard := some (12, false) }) (v := undef) rfl (by kernel_rfl) (by kernel_rfl) (by kernel_rfl) (fun _ _ _ h => h) (Or.inr ⟨by rfl, rfl⟩) (by assumption) ?_
          try simp only [Act.put, List.setIfInBounds_toArray, List.set_cons_zero, List.set_cons_succ]
          refine wpAnyH_take (i := 17) (oi := { dst := some 35, op := Op.move (Operand.tmp 5), type := 3, pos := "ref.go:83", after := #[{ on := 12, ground := Ground.guard }], guard := some (12, false) }) (v := undef) rfl (by kernel_rfl) (by kernel_rfl) (by kernel_rfl) (fun _ _ _ h => h) (Or.inr ⟨by rfl, rfl⟩) (by assumption) ?_
          try simp only [Act.put, List.setIfInBounds_toArray, List.set_cons_zero, List.set_cons_succ]
          refine wpAnyH_take (i := 18) (oi := { dst := some 36, op := Op.indexAddr 41 (Operand.tmp 34) (Operand.tmp 35), type := 0, pos := "ref.go:83", after := #[{ on := 16, ground := Ground.data }, { on := 17, ground := Ground.data }, { on := 12, ground := Ground.guard }], guard := some (12, false) }) (v := undef) rfl (by kernel_rfl) (by kernel_rfl) (by kernel_rfl) (fun _ _ _ h => h) (Or.inr ⟨by rfl, rfl⟩) (by assumption) ?_
          try simp only [Act.put, List.setIfInBounds_toArray, List.set_cons_zero, List.set_cons_succ]
          refine wpAnyH_take (i := 19) (oi := { dst := some 37, op := Op.fieldAddr 43 (Operand.tmp 36) 1, type := 0, pos := "ref.go:83", after := #[{ on := 18, ground := Ground.data }, { on := 12, ground := Ground.guard }], guard := some (12, false) }) (v := undef) rfl (by kernel_rfl) (by kernel_rfl) (by kernel_rfl) (fun _ _ _ h => h) (Or.inr ⟨by rfl, rfl⟩) (by assumption) ?_
          try simp only [Act.put, List.setIfInBounds_toArray, List.set_cons_zero, List.set_cons_succ]
          refine wpAnyH_take (i := 20) (oi := { dst := some 38, op := Op.load 3 (Operand.tmp 37), type := 3, pos := "ref.go:83", after := #[{ on := 19, ground := Ground.data }, { on := 12, ground := Ground.guard }], guard := some (12, false) }) (v := undef) rfl (by kernel_rfl) (by kernel_rfl) (by kernel_rfl) (fun _ _ _ h => h) (Or.inr ⟨by rfl, rfl⟩) (by assumption) ?_
          try simp only [Act.put, List.setIfInBounds_toArray, List.set_cons_zero, List.set_cons_succ]
          refine wpAnyH_take (i := 21) (oi := { dst := some 39, op := Op.move (Operand.tmp 0), type := 30, pos := "ref.go:83", after := #[{ on := 12, ground := Ground.guard }], guard := some (12, false) }) (v := undef) rfl (by kernel_rfl) (by kernel_rfl) (by kernel_rfl) (fun _ _ _ h => h) (Or.inr ⟨by rfl, rfl⟩) (by assumption) ?_
          try simp only [Act.put, List.setIfInBounds_toArray, List.set_cons_zero, List.set_cons_succ]
          refine wpAnyH_take (i := 22) (oi := { dst := some 40, op := Op.nilCheck (Operand.tmp 39), type := 0, pos := "ref.go:83", after := #[{ on := 21, ground := Ground.data }, { on := 12, ground := Ground.guard }], guard := some (12, false) }) (v := undef) rfl (by kernel_rfl) (by kernel_rfl) (by kernel_rfl) (fun _ _ _ h => h) (Or.inr ⟨by rfl, rfl⟩) (by assumption) ?_
          try simp only [Act.put, List.setIfInBounds_toArray, List.set_cons_zero, List.set_cons_succ]
          refine wpAnyH_take (i := 23) (oi := { dst := some 41, op := Op.fieldAddr 64 (Operand.tmp 40) 1, type := 0, pos := "ref.go:83", after := #[{ on := 22, ground := Ground.data }, { on := 12, ground := Ground.guard }], guard := some (12, false) }) (v := undef) rfl (by kernel_rfl) (by kernel_rfl) (by kernel_rfl) (fun _ _ _ h => h) (Or.inr ⟨by rfl, rfl⟩) (by assumption) ?_
          try simp only [Act.put, List.setIfInBounds_toArray, List.set_cons_zero, List.set_cons_succ]
          refine wpAnyH_take (i := 24) (oi := { dst := some 42, op := Op.load 41 (Operand.tmp 41), type := 41, pos := "ref.go:83", after := #[{ on := 23, ground := Ground.data }, { on := 12, ground := Ground.guard }], guard := some (12, false) }) (v := undef) rfl (by kernel_rfl) (by kernel_rfl) (by kernel_rfl) (fun _ _ _ h => h) (Or.inr ⟨by rfl, rfl⟩) (by assumption) ?_
          try simp only [Act.put, List.setIfInBounds_toArray, List.set_cons_zero, List.set_cons_succ]
          refine wpAnyH_take (i := 25) (oi := { dst := some 43, op := Op.move (Operand.tmp 4), type := 3, pos := "ref.go:83", after := #[{ on := 12, ground := Ground.guard }], guard := some (12, false) }) (v := undef) rfl (by kernel_rfl) (by kernel_rfl) (by kernel_rfl) (fun _ _ _ h => h) (Or.inr ⟨by rfl, rfl⟩) (by assumption) ?_
          try simp only [Act.put, List.setIfInBounds_toArray, List.set_cons_zero, List.set_cons_succ]
          refine wpAnyH_take (i := 26) (oi := { dst := some 44, op := Op.indexAddr 41 (Operand.tmp 42) (Operand.tmp 43), type := 0, pos := "ref.go:83", after := #[{ on := 24, ground := Ground.data }, { on := 25, ground := Ground.data }, { on := 12, ground := Ground.guard }], guard := some (12, false) }) (v := undef) rfl (by kernel_rfl) (by kernel_rfl) (by kernel_rfl) (fun _ _ _ h => h) (Or.inr ⟨by rfl, rfl⟩) (by assumption) ?_
          try simp only [Act.put, List.setIfInBounds_toArray, List.set_cons_zero, List.set_cons_succ]
          refine wpAnyH_take (i := 27) (oi := { dst := some 45, op := Op.fieldAddr 43 (Operand.tmp 44) 1, type := 0, pos := "ref.go:83", after := #[{ on := 26, ground := Ground.data }, { on := 12, ground := Ground.guard }], guard := some (12, false) }) (v := undef) rfl (by kernel_rfl) (by kernel_rfl) (by kernel_rfl) (fun _ _ _ h => h) (Or.inr ⟨by rfl, rfl⟩) (by assumption) ?_
          try simp only [Act.put, List.setIfInBounds_toArray, List.set_cons_zero, List.set_cons_succ]
          refine wpAnyH_take (i := 28) (oi := { dst := some 46, op := Op.load 3 (Operand.tmp 45), type := 3, pos := "ref.go:83", after := #[{ on := 27, ground := Ground.data }, { on := 12, ground := Ground.guard }], guard := some (12, false) }) (v := undef) rfl (by kernel_rfl) (by kernel_rfl) (by kernel_rfl) (fun _ _ _ h => h) (Or.inr ⟨by rfl, rfl⟩) (by assumption) ?_
          try simp only [Act.put, List.setIfInBounds_toArray, List.set_cons_zero, List.set_cons_succ]
          refine wpAnyH_take (i := 29) (oi := { dst := some 47, op := Op.binOp BinOp.lss 3 (Operand.tmp 38) (Operand.tmp 46) 3, type := 4, pos := "ref.go:83", after := #[{ on := 20, ground := Ground.data }, { on := 28, ground := Ground.data }, { on := 12, ground := Ground.guard }], guard := some (12, false) }) (v := undef) rfl (by kernel_rfl) (by kernel_rfl) (by kernel_rfl) (fun _ _ _ h => h) (Or.inr ⟨by rfl, rfl⟩) (by assumption) ?_
          try simp only [Act.put, List.setIfInBounds_toArray, List.set_cons_zero, List.set_cons_succ]
          refine wpAnyH_take (i := 30) (oi := { dst := some 48, op := Op.pick (Operand.tmp 30) (Operand.const (Value.bool true)) (Operand.tmp 47), type := 4, pos := "ref.go:83", after := #[{ on := 12, ground := Ground.data }, { on := 29, ground := Ground.data }, { on := 9, ground := Ground.guard }], guard := some (9, true) }) (v := ?_) rfl (by kernel_rfl) (by kernel_rfl) (by kernel_rfl) (fun _ _ _ h => h) (Or.inl ⟨by rfl, ?_⟩) (by assumption) ?_
          rotate_left
          · (intro w hSw; (try dsimp only at hSw); (try obtain ⟨hSa, hSb⟩ := hSw); go_simp; try with_reducible rfl)
          try simp only [Act.put, List.setIfInBounds_toArray, List.set_cons_zero, List.set_cons_succ]
          refine wpAnyH_take (i := 31) (oi := { dst := some 49, op := Op.pick (Operand.tmp 27) (Operand.tmp 48) (Operand.const (Value.bool false)), type := 4, pos := "ref.go:83", after := #[{ on := 9, ground := Ground.data }, { on := 30, ground := Ground.data }], guard := none }) (v := ?_) rfl (by kernel_rfl) (by kernel_rfl) (by kernel_rfl) (fun _ _ _ h => h) (Or.inl ⟨by rfl, ?_⟩) (by assumption) ?_
          rotate_left
          · (intro w hSw; (try dsimp only at hSw); (try obtain ⟨hSa, hSb⟩ := hSw); go_simp; try with_reducible rfl)
          try simp only [Act.put, List.setIfInBounds_toArray, List.set_cons_zero, List.set_cons_succ]
          refine wpAnyH_done (by kernel_rfl) ?_ _
          go_wp2
          go_roundw
          case rel => exact ⟨q + 1, by omega, by simp, (by rw [HNX.out]; try rfl), HO.out.drew⟩
          case measure => simp [intOf]; omega
        | some y =>
          obtain ⟨hyl, hye⟩ := List.getElem?_eq_some_iff.1 y.2
          have d1 : wr.cell? ⟨rb, off + y.1.1 * 5 + 1, none⟩ = some (.int .i64 y.1.2.w) := HKQ.out.ln hyl (j := 1) (by omega) (by rw [hye]; rfl)
          have y0 : (0 : Int) ≤ y.1.1 := by omega
          have y1 : (y.1.1 : Int) < n := by have := HN.out; omega
          have y2 : decide ((y.1.1 : Int) < 0) = false := decide_eq_false (by omega)
          have y3 : ¬ (y.1.1 : Int) < 0 := by omega
          simp only [bI]
          by_cases hlt : x.w < y.1.2.w
          · have HNX : Hid (bst (flt l 0 (q + 1)) = some ⟨(q, x), hx⟩) := Lib.hid (by rw [HYE.out, bst_snoc, hb]; simp [bstep, hlt])
            have w1' : decide (x.w < y.1.2.w) = true := by simp [hlt]
            clear hb hlt hye
            go_wp2_with (fail)
            refine wp_region_held_drew (S := (fun W => (W.cell? ⟨r, 5, none⟩ = some (.slice (some ⟨rb, off, none⟩) n c) ∧ W.cell? ⟨rb, off + q * 5, none⟩ = some (.int .i64 x.s)) ∧ (W.cell? ⟨rb, off + q * 5 + 1, none⟩ = some (.int .i64 x.w) ∧ W.cell? ⟨rb, off + y.1.1 * 5 + 1, none⟩ = some (.int .i64 y.1.2.w)))) (by kernel_rfl) ?_ (fun hHeld => ?_)
            · exact ⟨⟨c5, f0⟩, f1, d1⟩
            refine wpAnyH_take (i := 0) (oi := { dst := some 18, op := Op.move (Operand.tmp 0), type := 30, pos := "ref.go:83", after := #[], guard := none }) (v := ?_) rfl (by kernel_rfl) (by kernel_rfl) (by kernel_rfl) (fun _ _ _ h => h) (Or.inl ⟨by rfl, ?_⟩) (by assumption) ?_
            rotate_left
            · (intro w hSw; (try dsimp only at hSw); (try obtain ⟨hSa, hSb⟩ := hSw); go_simp; try with_reducible rfl)
            try simp only [Act.put, List.setIfInBounds_toArray, List.set_cons_zero, List.set_cons_succ]
            refine wpAnyH_take (i := 1) (oi := { dst := some 19, op := Op.nilCheck (Operand.tmp 18), type := 0, pos := "ref.go:83", after := #[{ on := 0, ground := Ground.data }], guard := none }) (v := ?_) rfl (by kernel_rfl) (by kernel_rfl) (by kernel_rfl) (fun _ _ _ h => h) (Or.inl ⟨by rfl, ?_⟩) (by assumption) ?_
            rotate_left
            · (intro w hSw; (try dsimp only at hSw); (try obtain ⟨hSa, hSb⟩ := hSw); go_simp; try with_reducible rfl)
            try simp only [Act.put, List.setIfInBounds_toArray, List.set_cons_zero, List.set_cons_succ]
            refine wpAnyH_take (i := 2) (oi := { dst := some 20, op := Op.fieldAddr 64 (Operand.tmp 19) 1, type := 0, pos := "ref.go:83", after := #[{ on := 1, ground := Ground.data }], guard := none }) (v := ?_) rfl (by kernel_rfl) (by kernel_rfl) (by kernel_rfl) (fun _ _ _ h => h) (Or.inl ⟨by rfl, ?_⟩) (by assumption) ?_
            rotate_left
            · (intro w hSw; (try dsimp only at hSw); (try obtain ⟨hSa, hSb⟩ := hSw); go_simp; try with_reducible rfl)
            try simp only [Act.put, List.setIfInBounds_toArray, List.set_cons_zero, List.set_cons_succ]
            refine wpAnyH_take (i := 3) (oi := { dst := some 21, op := Op.load 41 (Operand.tmp 20), type := 41, pos := "ref.go:83", after := #[{ on := 2, ground := Ground.data }], guard := none }) (v := ?_) rfl (by kernel_rfl) (by kernel_rfl) (by kernel_rfl) (fun _ _ _ h => h) (Or.inl ⟨by rfl, ?_⟩) (by assumption) ?_
            rotate_left
            · (intro w hSw; (try dsimp only at hSw); (try obtain ⟨hSa, hSb⟩ := hSw); go_simp; try with_reducible rfl)
            try simp only [Act.put, List.setIfInBounds_toArray, List.set_cons_zero, List.set_cons_succ]
            refine wpAnyH_take (i := 4) (oi := { dst := some 22, op := Op.move (Operand.tmp 5), type := 3, pos := "ref.go:83", after := #[], guard := none }) (v := ?_) rfl (by kernel_rfl) (by kernel_rfl) (by kernel_rfl) (fun _ _ _ h => h) (Or.inl ⟨by rfl, ?_⟩) (by assumption) ?_
            rotate_left
            · (intro w hSw; (try dsimp only at hSw); (try obtain ⟨hSa, hSb⟩ := hSw); go_simp; try with_reducible rfl)
            try simp only [Act.put, List.setIfInBounds_toArray, List.set_cons_zero, List.set_cons_succ]
            refine wpAnyH_take (i := 5) (oi := { dst := some 23, op := Op.indexAddr 41 (Operand.tmp 21) (Operand.tmp 22), type := 0, pos := "ref.go:83", after := #[{ on := 3, ground := Ground.data }, { on := 4, ground := Ground.data }], guard := none }) (v := ?_) rfl (by kernel_rfl) (by kernel_rfl) (by kernel_rfl) (fun _ _ _ h => h) (Or.inl ⟨by rfl, ?_⟩) (by assumption) ?_
            rotate_left
            · (intro w hSw; (try dsimp only at hSw); (try obtain ⟨hSa, hSb⟩ := hSw); go_simp; try with_reducible rfl)
            try simp only [Act.put, List.setIfInBounds_toArray, List.set_cons_zero, List.set_cons_succ]
            refine wpAnyH_take (i := 6) (oi := { dst := some 24, op := Op.fieldAddr 43 (Operand.tmp 23) 0, type := 0, pos := "ref.go:83", after := #[{ on := 5, ground := Ground.data }], guard := none }) (v := ?_) rfl (by kernel_rfl) (by kernel_rfl) (by kernel_rfl) (fun _ _ _ h => h) (Or.inl ⟨by rfl, ?_⟩) (by assumption) ?_
            rotate_left
            · (intro w hSw; (try dsimp only at hSw); (try obtain ⟨hSa, hSb⟩ := hSw); go_simp; try with_reducible rfl)
            try simp only [Act.put, List.setIfInBounds_toArray, List.set_cons_zero, List.set_cons_succ]
            refine wpAnyH_take (i := 7) (oi := { dst := some 25, op := Op.load 3 (Operand.tmp 24), type := 3, pos := "ref.go:83", after := #[{ on := 6, ground := Ground.data }], guard := none }) (v := ?_) rfl (by kernel_rfl) (by kernel_rfl) (by kernel_rfl) (fun _ _ _ h => h) (Or.inl ⟨by rfl, ?_⟩) (by assumption) ?_
            rotate_left
            · (intro w hSw; (try dsimp only at hSw); (try obtain ⟨hSa, hSb⟩ := hSw); go_simp; try with_reducible rfl)
            try simp only [Act.put, List.setIfInBounds_toArray, List.set_cons_zero, List.set_cons_succ]
            refine wpAnyH_take (i := 8) (oi := { dst := some 26, op := Op.binOp BinOp.eql 3 (Operand.tmp 25) (Operand.const (Value.int IntKind.i64 0)) 3, type := 4, pos := "ref.go:83", after := #[{ on := 7, ground := Ground.data }], guard := none }) (v := ?_) rfl (by kernel_rfl) (by kernel_rfl) (by kernel_rfl) (fun _ _ _ h => h) (Or.inl ⟨by rfl, ?_⟩) (by assumption) ?_
            rotate_left
            · (intro w hSw; (try dsimp only at hSw); (try obtain ⟨hSa, hSb⟩ := hSw); go_simp; try with_reducible rfl)
            try simp only [Act.put, List.setIfInBounds_toArray, List.set_cons_zero, List.set_cons_succ]
            refine wpAnyH_take (i := 9) (oi := { dst := some 27, op := Op.move (Operand.tmp 26), type := 4, pos := "ref.go:83", after := #[{ on := 8, ground := Ground.data }], guard := none }) (v := ?_) rfl (by kernel_rfl) (by kernel_rfl) (by kernel_rfl) (fun _ _ _ h => h) (Or.inl ⟨by rfl, ?_⟩) (by assumption) ?_
            rotate_left
            · (intro w hSw; (try dsimp only at hSw); (try obtain ⟨hSa, hSb⟩ := hSw); go_simp; try with_reducible rfl)
            try simp only [Act.put, List.setIfInBounds_toArray, List.set_cons_zero, List.set_cons_succ]
            refine wpAnyH_take (i := 10) (oi := { dst := some 28, op := Op.move (Operand.tmp 4), type := 3, pos := "ref.go:83", after := #[{ on := 9, ground := Ground.guard }], guard := some (9, true) }) (v := ?_) rfl (by kernel_rfl) (by kernel_rfl) (by kernel_rfl) (fun _ _ _ h => h) (Or.inl ⟨by rfl, ?_⟩) (by assumption) ?_
            rotate_left
            · (intro w hSw; (try dsimp only at hSw); (try obtain ⟨hSa, hSb⟩ := hSw); go_simp; try with_reducible rfl)
            try simp only [Act.put, List.setIfInBounds_toArray, List.set_cons_zero, List.set_cons_succ]
            refine wpAnyH_take (i := 11) (oi := { dst := some 29, op := Op.binOp BinOp.lss 3 (Operand.tmp 28) (Operand.const (Value.int IntKind.i64 0)) 3, type := 4, pos := "ref.go:83", after := #[{ on := 10, ground := Ground.data }, { on := 9, ground := Ground.guard }], guard := some (9, true) }) (v := ?_) rfl (by kernel_rfl) (by kernel_rfl) (by kernel_rfl) (fun _ _ _ h => h) (Or.inl ⟨by rfl, ?_⟩) (by assumption) ?_
            rotate_left
            · (intro w hSw; (try dsimp only at hSw); (try obtain ⟨hSa, hSb⟩ := hSw); go_simp; try with_reducible rfl)
            try simp only [Act.put, List.setIfInBounds_toArray, List.set_cons_zero, List.set_cons_succ]
            refine wpAnyH_take (i := 12) (oi := { dst := some 30, op := Op.move (Operand.tmp 29), type := 4, pos := "ref.go:83", after := #[{ on := 11, ground := Ground.data }, { on := 9, ground := Ground.chain }, { on := 9, ground := Ground.guard }], guard := some (9, true) }) (v := ?_) rfl (by kernel_rfl) (by kernel_rfl) (by kernel_rfl) (fun _ _ _ h => h) (Or.inl ⟨by rfl, ?_⟩) (by assumption) ?_
            rotate_left
            · (intro w hSw; (try dsimp only at hSw); (try obtain ⟨hSa, hSb⟩ := hSw); go_simp; try with_reducible rfl)
            try simp only [Act.put, List.setIfInBounds_toArray, List.set_cons_zero, List.set_cons_succ]
            refine wpAnyH_take (i := 13) (oi := { dst := some 31, op := Op.move (Operand.tmp 0), type := 30, pos := "ref.go:83", after := #[{ on := 12, ground := Ground.guard }], guard := some (12, false) }) (v := ?_) rfl (by kernel_rfl) (by kernel_rfl) (by kernel_rfl) (fun _ _ _ h => h) (Or.inl ⟨by rfl, ?_⟩) (by assumption) ?_
            rotate_left
            · (intro w hSw; (try dsimp only at hSw); (try obtain ⟨hSa, hSb⟩ := hSw); go_simp; try with_reducible rfl)
            try simp only [Act.put, List.setIfInBounds_toArray, List.set_cons_zero, List.set_cons_succ]
            refine wpAnyH_take (i := 14) (oi := { dst := some 32, op := Op.nilCheck (Operand.tmp 31), type := 0, pos := "ref.go:83", after := #[{ on := 13, ground := Ground.data }, { on := 12, ground := Ground.guard }], guard := some (12, false) }) (v := ?_) rfl (by kernel_rfl) (by kernel_rfl) (by kernel_rfl) (fun _ _ _ h => h) (Or.inl ⟨by rfl, ?_⟩) (by assumption) ?_
            rotate_left
            · (intro w hSw; (try dsimp only at hSw); (try obtain ⟨hSa, hSb⟩ := hSw); go_simp; try with_reducible rfl)
            try simp only [Act.put, List.setIfInBounds_toArray, List.set_cons_zero, List.set_cons_succ]
            refine wpAnyH_take (i := 15) (oi := { dst := some 33, op := Op.fieldAddr 64 (Operand.tmp 32) 1, type := 0, pos := "ref.go:83", after := #[{ on := 14, ground := Ground.data }, { on := 12, ground := Ground.guard }], guard := some (12, false) }) (v := ?_) rfl (by kernel_rfl) (by kernel_rfl) (by kernel_rfl) (fun _ _ _ h => h) (Or.inl ⟨by rfl, ?_⟩) (by assumption) ?_
            rotate_left
            · (intro w hSw; (try dsimp only at hSw); (try obtain ⟨hSa, hSb⟩ := hSw); go_simp; try with_reducible rfl)
            try simp only [Act.put, List.setIfInBounds_toArray, List.set_cons_zero, List.set_cons_succ]
            refine wpAnyH_take (i := 16) (oi := { dst := some 34, op := Op.load 41 (Operand.tmp 33), type := 41, pos := "ref.go:83", after := #[{ on := 15, ground := Ground.data }, { on := 12, ground := Ground.guard }], guard := some (12, false) }) (v := ?_) rfl (by kernel_rfl) (by kernel_rfl) (by kernel_rfl) (fun _ _ _ h => h) (Or.inl ⟨by rfl, ?_⟩) (by assumption) ?_
            rotate_left
            · (intro w hSw; (try dsimp only at hSw); (try obtain ⟨hSa, hSb⟩ := hSw); go_simp; try with_reducible rfl)
            try simp only [Act.put, List.setIfInBounds_toArray, List.set_cons_zero, List.set_cons_succ]
            refine wpAnyH_take (i := 17) (oi := { dst := some 35, op := Op.move (Operand.tmp 5), type := 3, pos := "ref.go:83", after := #[{ on := 12, ground := Ground.guard }], guard := some (12, false) }) (v := ?_) rfl (by kernel_rfl) (by kernel_rfl) (by kernel_rfl) (fun _ _ _ h => h) (Or.inl ⟨by rfl, ?_⟩) (by assumption) ?_
            rotate_left
            · (intro w hSw; (try dsimp only at hSw); (try obtain ⟨hSa, hSb⟩ := hSw); go_simp; try with_reducible rfl)
            try simp only [Act.put, List.setIfInBounds_toArray, List.set_cons_zero, List.set_cons_succ]
            refine wpAnyH_take (i := 18) (oi := { dst := some 36, op := Op.indexAddr 41 (Operand.tmp 34) (Operand.tmp 35), type := 0, pos := "ref.go:83", after := #[{ on := 16, ground := Ground.data }, { on := 17, ground := Ground.data }, { on := 12, ground := Ground.guard }], guard := some (12, false) }) (v := ?_) rfl (by kernel_rfl) (by kernel_rfl) (by kernel_rfl) (fun _ _ _ h => h) (Or.inl ⟨by rfl, ?_⟩) (by assumption) ?_
            rotate_left
            · (intro w hSw; (try dsimp only at hSw); (try obtain ⟨hSa, hSb⟩ := hSw); go_simp; try with_reducible rfl)
            try simp only [Act.put, List.setIfInBounds_toArray, List.set_cons_zero, List.set_cons_succ]
            refine wpAnyH_take (i := 19) (oi := { dst := some 37, op := Op.fieldAddr 43 (Operand.tmp 36) 1, type := 0, pos := "ref.go:83", after := #[{ on := 18, ground := Ground.data }, { on := 12, ground := Ground.guard }], guard := some (12, false) }) (v := ?_) rfl (by kernel_rfl) (by kernel_rfl) (by kernel_rfl) (fun _ _ _ h => h) (Or.inl ⟨by rfl, ?_⟩) (by assumption) ?_
            rotate_left
            · (intro w hSw; (try dsimp only at hSw); (try obtain ⟨hSa, hSb⟩ := hSw); go_simp; try with_reducible rfl)
            try simp only [Act.put, List.setIfInBounds_toArray, List.set_cons_zero, List.set_cons_succ]
            refine wpAnyH_take (i := 20) (oi := { dst := some 38, op := Op.load 3 (Operand.tmp 37), type := 3, pos := "ref.go:83", after := #[{ on := 19, ground := Ground.data }, { on := 12, ground := Ground.guard }], guard := some (12, false) }) (v := ?_) rfl (by kernel_rfl) (by kernel_rfl) (by kernel_rfl) (fun _ _ _ h => h) (Or.inl ⟨by rfl, ?_⟩) (by assumption) ?_
            rotate_left
            · (intro w hSw; (try dsimp only at hSw); (try obtain ⟨hSa, hSb⟩ := hSw); go_simp; try with_reducible rfl)
            try simp only [Act.put, List.setIfInBounds_toArray, List.set_cons_zero, List.set_cons_succ]
            refine wpAnyH_take (i := 21) (oi := { dst := some 39, op := Op.move (Operand.tmp 0), type := 30, pos := "ref.go:83", after := #[{ on := 12, ground := Ground.guard }], guard := some (12, false) }) (v := ?_) rfl (by kernel_rfl) (by kernel_rfl) (by kernel_rfl) (fun _ _ _ h => h) (Or.inl ⟨by rfl, ?_⟩) (by assumption) ?_
            rotate_left
            · (intro w hSw; (try dsimp only at hSw); (try obtain ⟨hSa, hSb⟩ := hSw); go_simp; try with_reducible rfl)
            try simp only [Act.put, List.setIfInBounds_toArray, List.set_cons_zero, List.set_cons_succ]
            refine wpAnyH_take (i := 22) (oi := { dst := some 40, op := Op.nilCheck (Operand.tmp 39), type := 0, pos := "ref.go:83", after := #[{ on := 21, ground := Ground.data }, { on := 12, ground := Ground.guard }], guard := some (12, false) }) (v := ?_) rfl (by kernel_rfl) (by kernel_rfl) (by kernel_rfl) (fun _ _ _ h => h) (Or.inl ⟨by rfl, ?_⟩) (by assumption) ?_
            rotate_left
            · (intro w hSw; (try dsimp only at hSw); (try obtain ⟨hSa, hSb⟩ := hSw); go_simp; try with_reducible rfl)
            try simp only [Act.put, List.setIfInBounds_toArray, List.set_cons_zero, List.set_cons_succ]
            refine wpAnyH_take (i := 23) (oi := { dst := some 41, op := Op.fieldAddr 64 (Operand.tmp 40) 1, type := 0, pos := "ref.go:83", after := #[{ on := 22, ground := Ground.data }, { on := 12, ground := Ground.guard }], guard := some (12, false) }) (v := ?_) rfl (by kernel_rfl) (by kernel_rfl) (by kernel_rfl) (fun _ _ _ h => h) (Or.inl ⟨by rfl, ?_⟩) (by assumption) ?_
            rotate_left
            · (intro w hSw; (try dsimp only at hSw); (try obtain ⟨hSa, hSb⟩ := hSw); go_simp; try with_reducible rfl)
            try simp only [Act.put, List.setIfInBounds_toArray, List.set_cons_zero, List.set_cons_succ]
            refine wpAnyH_take (i := 24) (oi := { dst := some 42, op := Op.load 41 (Operand.tmp 41), type := 41, pos := "ref.go:83", after := #[{ on := 23, ground := Ground.data }, { on := 12, ground := Ground.guard }], guard := some (12, false) }) (v := ?_) rfl (by kernel_rfl) (by kernel_rfl) (by kernel_rfl) (fun _ _ _ h => h) (Or.inl ⟨by rfl, ?_⟩) (by assumption) ?_
            rotate_left
            · (intro w hSw; (try dsimp only at hSw); (try obtain ⟨hSa, hSb⟩ := hSw); go_simp; try with_reducible rfl)
            try simp only [Act.put, List.setIfInBounds_toArray, List.set_cons_zero, List.set_cons_succ]
            refine wpAnyH_take (i := 25) (oi := { dst := some 43, op := Op.move (Operand.tmp 4), type := 3, pos := "ref.go:83", after := #[{ on := 12, ground := Ground.guard }], guard := some (12, false) }) (v := ?_) rfl (by kernel_rfl) (by kernel_rfl) (by kernel_rfl) (fun _ _ _ h => h) (Or.inl ⟨by rfl, ?_⟩) (by assumption) ?_
            rotate_left
            · (intro w hSw; (try dsimp only at hSw); (try obtain ⟨hSa, hSb⟩ := hSw); go_simp; try with_reducible rfl)
            try simp only [Act.put, List.setIfInBounds_toArray, List.set_cons_zero, List.set_cons_succ]
            refine wpAnyH_take (i := 26) (oi := { dst := some 44, op := Op.indexAddr 41 (Operand.tmp 42) (Operand.tmp 43), type := 0, pos := "ref.go:83", after := #[{ on := 24, ground := Ground.data }, { on := 25, ground := Ground.data }, { on := 12, ground := Ground.guard }], guard := some (12, false) }) (v := ?_) rfl (by kernel_rfl) (by kernel_rfl) (by kernel_rfl) (fun _ _ _ h => h) (Or.inl ⟨by rfl, ?_⟩) (by assumption) ?_
            rotate_left
            · (intro w hSw; (try dsimp only at hSw); (try obtain ⟨hSa, hSb⟩ := hSw); go_simp; try with_reducible rfl)
            try simp only [Act.put, List.setIfInBounds_toArray, List.set_cons_zero, List.set_cons_succ]
            refine wpAnyH_take (i := 27) (oi := { dst := some 45, op := Op.fieldAddr 43 (Operand.tmp 44) 1, type := 0, pos := "ref.go:83", after := #[{ on := 26, ground := Ground.data }, { on := 12, ground := Ground.guard }], guard := some (12, false) }) (v := ?_) rfl (by kernel_rfl) (by kernel_rfl) (by kernel_rfl) (fun _ _ _ h => h) (Or.inl ⟨by rfl, ?_⟩) (by assumption) ?_
            rotate_left
            · (intro w hSw; (try dsimp only at hSw); (try obtain ⟨hSa, hSb⟩ := hSw); go_simp; try with_reducible rfl)
            try simp only [Act.put, List.setIfInBounds_toArray, List.set_cons_zero, List.set_cons_succ]
            refine wpAnyH_take (i := 28) (oi := { dst := some 46, op := Op.load 3 (Operand.tmp 45), type := 3, pos := "ref.go:83", after := #[{ on := 27, ground := Ground.data }, { on := 12, ground := Ground.guard }], guard := some (12, false) }) (v := ?_) rfl (by kernel_rfl) (by kernel_rfl) (by kernel_rfl) (fun _ _ _ h => h) (Or.inl ⟨by rfl, ?_⟩) (by assumption) ?_
            rotate_left
            · (intro w hSw; (try dsimp only at hSw); (try obtain ⟨hSa, hSb⟩ := hSw); go_simp; try with_reducible rfl)
            try simp only [Act.put, List.setIfInBounds_toArray, List.set_cons_zero, List.set_cons_succ]
            refine wpAnyH_take (i := 29) (oi := { dst := some 47, op := Op.binOp BinOp.lss 3 (Operand.tmp 38) (Operand.tmp 46) 3, type := 4, pos := "ref.go:83", after := #[{ on := 20, ground := Ground.data }, { on := 28, ground := Ground.data }, { on := 12, ground := Ground.guard }], guard := some (12, false) }) (v := ?_) rfl (by kernel_rfl) (by kernel_rfl) (by kernel_rfl) (fun _ _ _ h => h) (Or.inl ⟨by rfl, ?_⟩) (by assumption) ?_
            rotate_left
            · (intro w hSw; (try dsimp only at hSw); (try obtain ⟨hSa, hSb⟩ := hSw); go_simp; try with_reducible rfl)
            try simp only [Act.put, List.setIfInBounds_toArray, List.set_cons_zero, List.set_cons_succ]
            refine wpAnyH_take (i := 30) (oi := { dst := some 48, op := Op.pick (Operand.tmp 30) (Operand.const (Value.bool true)) (Operand.tmp 47), type := 4, pos := "ref.go:83", after := #[{ on := 12, ground := Ground.data }, { on := 29, ground := Ground.data }, { on := 9, ground := Ground.guard }], guard := some (9, true) }) (v := ?_) rfl (by kernel_rfl) (by kernel_rfl) (by kernel_rfl) (fun _ _ _ h => h) (Or.inl ⟨by rfl, ?_⟩) (by assumption) ?_
            rotate_left
            · (intro w hSw; (try dsimp only at hSw); (try obtain ⟨hSa, hSb⟩ := hSw); go_simp; try with_reducible rfl)
            try simp only [Act.put, List.setIfInBounds_toArray, List.set_cons_zero, List.set_cons_succ]
            refine wpAnyH_take (i := 31) (oi := { dst := some 49, op := Op.pick (Operand.tmp 27) (Operand.tmp 48) (Operand.const (Value.bool false)), type := 4, pos := "ref.go:83", after := #[{ on := 9, ground := Ground.data }, { on := 30, ground := Ground.data }], guard := none }) (v := ?_) rfl (by kernel_rfl) (by kernel_rfl) (by kernel_rfl) (fun _ _ _ h => h) (Or.inl ⟨by rfl, ?_⟩) (by assumption) ?_
            rotate_left
            · (intro w hSw; (try dsimp only at hSw); (try obtain ⟨hSa, hSb⟩ := hSw); go_simp; try with_reducible rfl)
            try simp only [Act.put, List.setIfInBounds_toArray, List.set_cons_zero, List.set_cons_succ]
            refine wpAnyH_done (by kernel_rfl) ?_ _
            go_wp2
            go_roundw
            case rel => exact ⟨q + 1, by omega, by simp, (by rw [HNX.out]; try rfl), HO.out.drew⟩
            case measure => simp [intOf]; omega
          · have HNX : Hid (bst (flt l 0 (q + 1)) = some y) := Lib.hid (by rw [HYE.out, bst_snoc, hb]; simp [bstep, hlt])
            have w1' : decide (x.w < y.1.2.w) = false := decide_eq_false hlt
            clear hb hlt hye
            go_wp2_with (fail)
            refine wp_region_held_drew (S := (fun W => (W.cell? ⟨r, 5, none⟩ = some (.slice (some ⟨rb, off, none⟩) n c) ∧ W.cell? ⟨rb, off + q * 5, none⟩ = some (.int .i64 x.s)) ∧ (W.cell? ⟨rb, off + q * 5 + 1, none⟩ = some (.int .i64 x.w) ∧ W.cell? ⟨rb, off + y.1.1 * 5 + 1, none⟩ = some (.int .i64 y.1.2.w)))) (by kernel_rfl) ?_ (fun hHeld => ?_)
            · exact ⟨⟨c5, f0⟩, f1, d1⟩
            refine wpAnyH_take (i := 0) (oi := { dst := some 18, op := Op.move (Operand.tmp 0), type := 30, pos := "ref.go:83", after := #[], guard := none }) (v := ?_) rfl (by kernel_rfl) (by kernel_rfl) (by kernel_rfl) (fun _ _ _ h => h) (Or.inl ⟨by rfl, ?_⟩) (by assumption) ?_
            rotate_left
            · (intro w hSw; (try dsimp only at hSw); (try obtain ⟨hSa, hSb⟩ := hSw); go_simp; try with_reducible rfl)
            try simp only [Act.put, List.setIfInBounds_toArray, List.set_cons_zero, List.set_cons_succ]
            refine wpAnyH_take (i := 1) (oi := { dst := some 19, op := Op.nilCheck (Operand.tmp 18), type := 0, pos := "ref.go:83", after := #[{ on := 0, ground := Ground.data }], guard := none }) (v := ?_) rfl (by kernel_rfl) (by kernel_rfl) (by kernel_rfl) (fun _ _ _ h => h) (Or.inl ⟨by rfl, ?_⟩) (by assumption) ?_
            rotate_left
            · (intro w hSw; (try dsimp only at hSw); (try obtain ⟨hSa, hSb⟩ := hSw); go_simp; try with_reducible rfl)
            try simp only [Act.put, List.setIfInBounds_toArray, List.set_cons_zero, List.set_cons_succ]
            refine wpAnyH_take (i := 2) (oi := { dst := some 20, op := Op.fieldAddr 64 (Operand.tmp 19) 1, type := 0, pos := "ref.go:83", after := #[{ on := 1, ground := Ground.data }], guard := none }) (v := ?_) rfl (by kernel_rfl) (by kernel_rfl) (by kernel_rfl) (fun _ _ _ h => h) (Or.inl ⟨by rfl, ?_⟩) (by assumption) ?_
            rotate_left
            · (intro w hSw; (try dsimp only at hSw); (try obtain ⟨hSa, hSb⟩ := hSw); go_simp; try with_reducible rfl)
            try simp only [Act.put, List.setIfInBounds_toArray, List.set_cons_zero, List.set_cons_succ]
            refine wpAnyH_take (i := 3) (oi := { dst := some 21, op := Op.load 41 (Operand.tmp 20), type := 41, pos := "ref.go:83", after := #[{ on := 2, ground := Ground.data }], guard := none }) (v := ?_) rfl (by kernel_rfl) (by kernel_rfl) (by kernel_rfl) (fun _ _ _ h => h) (Or.inl ⟨by rfl, ?_⟩) (by assumption) ?_
            rotate_left
            · (intro w hSw; (try dsimp only at hSw); (try obtain ⟨hSa, hSb⟩ := hSw); go_simp; try with_reducible rfl)
            try simp only [Act.put, List.setIfInBounds_toArray, List.set_cons_zero, List.set_cons_succ]
            refine wpAnyH_take (i := 4) (oi := { dst := some 22, op := Op.move (Operand.tmp 5), type := 3, pos := "ref.go:83", after := #[], guard := none }) (v := ?_) rfl (by kernel_rfl) (by kernel_rfl) (by kernel_rfl) (fun _ _ _ h => h) (Or.inl ⟨by rfl, ?_⟩) (by assumption) ?_
            rotate_left
            · (intro w hSw; (try dsimp only at hSw); (try obtain ⟨hSa, hSb⟩ := hSw); go_simp; try with_reducible rfl)
            try simp only [Act.put, List.setIfInBounds_toArray, List.set_cons_zero, List.set_cons_succ]
            refine wpAnyH_take (i := 5) (oi := { dst := some 23, op := Op.indexAddr 41 (Operand.tmp 21) (Operand.tmp 22), type := 0, pos := "ref.go:83", after := #[{ on := 3, ground := Ground.data }, { on := 4, ground := Ground.data }], guard := none }) (v := ?_) rfl (by kernel_rfl) (by kernel_rfl) (by kernel_rfl) (fun _ _ _ h => h) (Or.inl ⟨by rfl, ?_⟩) (by assumption) ?_
            rotate_left
            · (intro w hSw; (try dsimp only at hSw); (try obtain ⟨hSa, hSb⟩ := hSw); go_simp; try with_reducible rfl)
            try simp only [Act.put, List.setIfInBounds_toArray, List.set_cons_zero, List.set_cons_succ]
            refine wpAnyH_take (i := 6) (oi := { dst := some 24, op := Op.fieldAddr 43 (Operand.tmp 23) 0, type := 0, pos := "ref.go:83", after := #[{ on := 5, ground := Ground.data }], guard := none }) (v := ?_) rfl (by kernel_rfl) (by kernel_rfl) (by kernel_rfl) (fun _ _ _ h => h) (Or.inl ⟨by rfl, ?_⟩) (by assumption) ?_
            rotate_left
            · (intro w hSw; (try dsimp only at hSw); (try obtain ⟨hSa, hSb⟩ := hSw); go_simp; try with_reducible rfl)
            try simp only [Act.put, List.setIfInBounds_toArray, List.set_cons_zero, List.set_cons_succ]
            refine wpAnyH_take (i := 7) (oi := { dst := some 25, op := Op.load 3 (Operand.tmp 24), type := 3, pos := "ref.go:83", after := #[{ on := 6, ground := Ground.data }], guard := none }) (v := ?_) rfl (by kernel_rfl) (by kernel_rfl) (by kernel_rfl) (fun _ _ _ h => h) (Or.inl ⟨by rfl, ?_⟩) (by assumption) ?_
            rotate_left
            · (intro w hSw; (try dsimp only at hSw); (try obtain ⟨hSa, hSb⟩ := hSw); go_simp; try with_reducible rfl)
            try simp only [Act.put, List.setIfInBounds_toArray, List.set_cons_zero, List.set_cons_succ]
            refine wpAnyH_take (i := 8) (oi := { dst := some 26, op := Op.binOp BinOp.eql 3 (Operand.tmp 25) (Operand.const (Value.int IntKind.i64 0)) 3, type := 4, pos := "ref.go:83", after := #[{ on := 7, ground := Ground.data }], guard := none }) (v := ?_) rfl (by kernel_rfl) (by kernel_rfl) (by kernel_rfl) (fun _ _ _ h => h) (Or.inl ⟨by rfl, ?_⟩) (by assumption) ?_
            rotate_left
            · (intro w hSw; (try dsimp only at hSw); (try obtain ⟨hSa, hSb⟩ := hSw); go_simp; try with_reducible rfl)
            try simp only [Act.put, List.setIfInBounds_toArray, List.set_cons_zero, List.set_cons_succ]
            refine wpAnyH_take (i := 9) (oi := { dst := some 27, op := Op.move (Operand.tmp 26), type := 4, pos := "ref.go:83", after := #[{ on := 8, ground := Ground.data }], guard := none }) (v := ?_) rfl (by kernel_rfl) (by kernel_rfl) (by kernel_rfl) (fun _ _ _ h => h) (Or.inl ⟨by rfl, ?_⟩) (by assumption) ?_
            rotate_left
            · (intro w hSw; (try dsimp only at hSw); (try obtain ⟨hSa, hSb⟩ := hSw); go_simp; try with_reducible rfl)
            try simp only [Act.put, List.setIfInBounds_toArray, List.set_cons_zero, List.set_cons_succ]
            refine wpAnyH_take (i := 10) (oi := { dst := some 28, op := Op.move (Operand.tmp 4), type := 3, pos := "ref.go:83", after := #[{ on := 9, ground := Ground.guard }], guard := some (9, true) }) (v := ?_) rfl (by kernel_rfl) (by kernel_rfl) (by kernel_rfl) (fun _ _ _ h => h) (Or.inl ⟨by rfl, ?_⟩) (by assumption) ?_
            rotate_left
            · (intro w hSw; (try dsimp only at hSw); (try obtain ⟨hSa, hSb⟩ := hSw); go_simp; try with_reducible rfl)
            try simp only [Act.put, List.setIfInBounds_toArray, List.set_cons_zero, List.set_cons_succ]
            refine wpAnyH_take (i := 11) (oi := { dst := some 29, op := Op.binOp BinOp.lss 3 (Operand.tmp 28) (Operand.const (Value.int IntKind.i64 0)) 3, type := 4, pos := "ref.go:83", after := #[{ on := 10, ground := Ground.data }, { on := 9, ground := Ground.guard }], guard := some (9, true) }) (v := ?_) rfl (by kernel_rfl) (by kernel_rfl) (by kernel_rfl) (fun _ _ _ h => h) (Or.inl ⟨by rfl, ?_⟩) (by assumption) ?_
            rotate_left
            · (intro w hSw; (try dsimp only at hSw); (try obtain ⟨hSa, hSb⟩ := hSw); go_simp; try with_reducible rfl)
            try simp only [Act.put, List.setIfInBounds_toArray, List.set_cons_zero, List.set_cons_succ]
            refine wpAnyH_take (i := 12) (oi := { dst := some 30, op := Op.move (Operand.tmp 29), type := 4, pos := "ref.go:83", after := #[{ on := 11, ground := Ground.data }, { on := 9, ground := Ground.chain }, { on := 9, ground := Ground.guard }], guard := some (9, true) }) (v := ?_) rfl (by kernel_rfl) (by kernel_rfl) (by kernel_rfl) (fun _ _ _ h => h) (Or.inl ⟨by rfl, ?_⟩) (by assumption) ?_
            rotate_left
            · (intro w hSw; (try dsimp only at hSw); (try obtain ⟨hSa, hSb⟩ := hSw); go_simp; try with_reducible rfl)
            try simp only [Act.put, List.setIfInBounds_toArray, List.set_cons_zero, List.set_cons_succ]
            refine wpAnyH_take (i := 13) (oi := { dst := some 31, op := Op.move (Operand.tmp 0), type := 30, pos := "ref.go:83", after := #[{ on := 12, ground := Ground.guard }], guard := some (12, false) }) (v := ?_) rfl (by kernel_rfl) (by kernel_rfl) (by kernel_rfl) (fun _ _ _ h => h) (Or.inl ⟨by rfl, ?_⟩) (by assumption) ?_
            rotate_left
            · (intro w hSw; (try dsimp only at hSw); (try obtain ⟨hSa, hSb⟩ := hSw); go_simp; try with_reducible rfl)
            try simp only [Act.put, List.setIfInBounds_toArray, List.set_cons_zero, List.set_cons_succ]
            refine wpAnyH_take (i := 14) (oi := { dst := some 32, op := Op.nilCheck (Operand.tmp 31), type := 0, pos := "ref.go:83", after := #[{ on := 13, ground := Ground.data }, { on := 12, ground := Ground.guard }], guard := some (12, false) }) (v := ?_) rfl (by kernel_rfl) (by kernel_rfl) (by kernel_rfl) (fun _ _ _ h => h) (Or.inl ⟨by rfl, ?_⟩) (by assumption) ?_
            rotate_left
            · (intro w hSw; (try dsimp only at hSw); (try obtain ⟨hSa, hSb⟩ := hSw); go_simp; try with_reducible rfl)
            try simp only [Act.put, List.setIfInBounds_toArray, List.set_cons_zero, List.set_cons_succ]
            refine wpAnyH_take (i := 15) (oi := { dst := some 33, op := Op.fieldAddr 64 (Operand.tmp 32) 1, type := 0, pos := "ref.go:83", after := #[{ on := 14, ground := Ground.data }, { on := 12, ground := Ground.guard }], guard := some (12, false) }) (v := ?_) rfl (by kernel_rfl) (by kernel_rfl) (by kernel_rfl) (fun _ _ _ h => h) (Or.inl ⟨by rfl, ?_⟩) (by assumption) ?_
            rotate_left
            · (intro w hSw; (try dsimp only at hSw); (try obtain ⟨hSa, hSb⟩ := hSw); go_simp; try with_reducible rfl)
            try simp only [Act.put, List.setIfInBounds_toArray, List.set_cons_zero, List.set_cons_succ]
            refine wpAnyH_take (i := 16) (oi := { dst := some 34, op := Op.load 41 (Operand.tmp 33), type := 41, pos := "ref.go:83", after := #[{ on := 15, ground := Ground.data }, { on := 12, ground := Ground.guard }], guard := some (12, false) }) (v := ?_) rfl (by kernel_rfl) (by kernel_rfl) (by kernel_rfl) (fun _ _ _ h => h) (Or.inl ⟨by rfl, ?_⟩) (by assumption) ?_
            rotate_left
            · (intro w hSw; (try dsimp only at hSw); (try obtain ⟨hSa, hSb⟩ := hSw); go_simp; try with_reducible rfl)
            try simp only [Act.put, List.setIfInBounds_toArray, List.set_cons_zero, List.set_cons_succ]
            refine wpAnyH_take (i := 17) (oi := { dst := some 35, op := Op.move (Operand.tmp 5), type := 3, pos := "ref.go:83", after := #[{ on := 12, ground := Ground.guard }], guard := some (12, false) }) (v := ?_) rfl (by kernel_rfl) (by kernel_rfl) (by kernel_rfl) (fun _ _ _ h => h) (Or.inl ⟨by rfl, ?_⟩) (by assumption) ?_
            rotate_left
            · (intro w hSw; (try dsimp only at hSw); (try obtain ⟨hSa, hSb⟩ := hSw); go_simp; try with_reducible rfl)
            try simp only [Act.put, List.setIfInBounds_toArray, List.set_cons_zero, List.set_cons_succ]
            refine wpAnyH_take (i := 18) (oi := { dst := some 36, op := Op.indexAddr 41 (Operand.tmp 34) (Operand.tmp 35), type := 0, pos := "ref.go:83", after := #[{ on := 16, ground := Ground.data }, { on := 17, ground := Ground.data }, { on := 12, ground := Ground.guard }], guard := some (12, false) }) (v := ?_) rfl (by kernel_rfl) (by kernel_rfl) (by kernel_rfl) (fun _ _ _ h => h) (Or.inl ⟨by rfl, ?_⟩) (by assumption) ?_
            rotate_left
            · (intro w hSw; (try dsimp only at hSw); (try obtain ⟨hSa, hSb⟩ := hSw); go_simp; try with_reducible rfl)
            try simp only [Act.put, List.setIfInBounds_toArray, List.set_cons_zero, List.set_cons_succ]
            refine wpAnyH_take (i := 19) (oi := { dst := some 37, op := Op.fieldAddr 43 (Operand.tmp 36) 1, type := 0, pos := "ref.go:83", after := #[{ on := 18, ground := Ground.data }, { on := 12, ground := Ground.guard }], guard := some (12, false) }) (v := ?_) rfl (by kernel_rfl) (by kernel_rfl) (by kernel_rfl) (fun _ _ _ h => h) (Or.inl ⟨by rfl, ?_⟩) (by assumption) ?_
            rotate_left
            · (intro w hSw; (try dsimp only at hSw); (try obtain ⟨hSa, hSb⟩ := hSw); go_simp; try with_reducible rfl)
            try simp only [Act.put, List.setIfInBounds_toArray, List.set_cons_zero, List.set_cons_succ]
            refine wpAnyH_take (i := 20) (oi := { dst := some 38, op := Op.load 3 (Operand.tmp 37), type := 3, pos := "ref.go:83", after := #[{ on := 19, ground := Ground.data }, { on := 12, ground := Ground.guard }], guard := some (12, false) }) (v := ?_) rfl (by kernel_rfl) (by kernel_rfl) (by kernel_rfl) (fun _ _ _ h => h) (Or.inl ⟨by rfl, ?_⟩) (by assumption) ?_
            rotate_left
            · (intro w hSw; (try dsimp only at hSw); (try obtain ⟨hSa, hSb⟩ := hSw); go_simp; try with_reducible rfl)
            try simp only [Act.put, List.setIfInBounds_toArray, List.set_cons_zero, List.set_cons_succ]
            refine wpAnyH_take (i := 21) (oi := { dst := some 39, op := Op.move (Operand.tmp 0), type := 30, pos := "ref.go:83", after := #[{ on := 12, ground := Ground.guard }], guard := some (12, false) }) (v := ?_) rfl (by kernel_rfl) (by kernel_rfl) (by kernel_rfl) (fun _ _ _ h => h) (Or.inl ⟨by rfl, ?_⟩) (by assumption) ?_
            rotate_left
            · (intro w hSw; (try dsimp only at hSw); (try obtain ⟨hSa, hSb⟩ := hSw); go_simp; try with_reducible rfl)
            try simp only [Act.put, List.setIfInBounds_toArray, List.set_cons_zero, List.set_cons_succ]
            refine wpAnyH_take (i := 22) (oi := { dst := some 40, op := Op.nilCheck (Operand.tmp 39), type := 0, pos := "ref.go:83", after := #[{ on := 21, ground := Ground.data }, { on := 12, ground := Ground.guard }], guard := some (12, false) }) (v := ?_) rfl (by kernel_rfl) (by kernel_rfl) (by kernel_rfl) (fun _ _ _ h => h) (Or.inl ⟨by rfl, ?_⟩) (by assumption) ?_
            rotate_left
            · (intro w hSw; (try dsimp only at hSw); (try obtain ⟨hSa, hSb⟩ := hSw); go_simp; try with_reducible rfl)
            try simp only [Act.put, List.setIfInBounds_toArray, List.set_cons_zero, List.set_cons_succ]
            refine wpAnyH_take (i := 23) (oi := { dst := some 41, op := Op.fieldAddr 64 (Operand.tmp 40) 1, type := 0, pos := "ref.go:83", after := #[{ on := 22, ground := Ground.data }, { on := 12, ground := Ground.guard }], guard := some (12, false) }) (v := ?_) rfl (by kernel_rfl) (by kernel_rfl) (by kernel_rfl) (fun _ _ _ h => h) (Or.inl ⟨by rfl, ?_⟩) (by assumption) ?_
            rotate_left
            · (intro w hSw; (try dsimp only at hSw); (try obtain ⟨hSa, hSb⟩ := hSw); go_simp; try with_reducible rfl)
            try simp only [Act.put, List.setIfInBounds_toArray, List.set_cons_zero, List.set_cons_succ]
            refine wpAnyH_take (i := 24) (oi := { dst := some 42, op := Op.load 41 (Operand.tmp 41), type := 41, pos := "ref.go:83", after := #[{ on := 23, ground := Ground.data }, { on := 12, ground := Ground.guard }], guard := some (12, false) }) (v := ?_) rfl (by kernel_rfl) (by kernel_rfl) (by kernel_rfl) (fun _ _ _ h => h) (Or.inl ⟨by rfl, ?_⟩) (by assumption) ?_
            rotate_left
            · (intro w hSw; (try dsimp only at hSw); (try obtain ⟨hSa, hSb⟩ := hSw); go_simp; try with_reducible rfl)
            try simp only [Act.put, List.setIfInBounds_toArray, List.set_cons_zero, List.set_cons_succ]
            refine wpAnyH_take (i := 25) (oi := { dst := some 43, op := Op.move (Operand.tmp 4), type := 3, pos := "ref.go:83", after := #[{ on := 12, ground := Ground.guard }], guard := some (12, false) }) (v := ?_) rfl (by kernel_rfl) (by kernel_rfl) (by kernel_rfl) (fun _ _ _ h => h) (Or.inl ⟨by rfl, ?_⟩) (by assumption) ?_
            rotate_left
            · (intro w hSw; (try dsimp only at hSw); (try obtain ⟨hSa, hSb⟩ := hSw); go_simp; try with_reducible rfl)
            try simp only [Act.put, List.setIfInBounds_toArray, List.set_cons_zero, List.set_cons_succ]
            refine wpAnyH_take (i := 26) (oi := { dst := some 44, op := Op.indexAddr 41 (Operand.tmp 42) (Operand.tmp 43), type := 0, pos := "ref.go:83", after := #[{ on := 24, ground := Ground.data }, { on := 25, ground := Ground.data }, { on := 12, ground := Ground.guard }], guard := some (12, false) }) (v := ?_) rfl (by kernel_rfl) (by kernel_rfl) (by kernel_rfl) (fun _ _ _ h => h) (Or.inl ⟨by rfl, ?_⟩) (by assumption) ?_
            rotate_left
            · (intro w hSw; (try dsimp only at hSw); (try obtain ⟨hSa, hSb⟩ := hSw); go_simp; try with_reducible rfl)
            try simp only [Act.put, List.setIfInBounds_toArray, List.set_cons_zero, List.set_cons_succ]
            refine wpAnyH_take (i := 27) (oi := { dst := some 45, op := Op.fieldAddr 43 (Operand.tmp 44) 1, type := 0, pos := "ref.go:83", after := #[{ on := 26, ground := Ground.data }, { on := 12, ground := Ground.guard }], guard := some (12, false) }) (v := ?_) rfl (by kernel_rfl) (by kernel_rfl) (by kernel_rfl) (fun _ _ _ h => h) (Or.inl ⟨by rfl, ?_⟩) (by assumption) ?_
            rotate_left
            · (intro w hSw; (try dsimp only at hSw); (try obtain ⟨hSa, hSb⟩ := hSw); go_simp; try with_reducible rfl)
            try simp only [Act.put, List.setIfInBounds_toArray, List.set_cons_zero, List.set_cons_succ]
            refine wpAnyH_take (i := 28) (oi := { dst := some 46, op := Op.load 3 (Operand.tmp 45), type := 3, pos := "ref.go:83", after := #[{ on := 27, ground := Ground.data }, { on := 12, ground := Ground.guard }], guard := some (12, false) }) (v := ?_) rfl (by kernel_rfl) (by kernel_rfl) (by kernel_rfl) (fun _ _ _ h => h) (Or.inl ⟨by rfl, ?_⟩) (by assumption) ?_
            rotate_left
            · (intro w hSw; (try dsimp only at hSw); (try obtain ⟨hSa, hSb⟩ := hSw); go_simp; try with_reducible rfl)
            try simp only [Act.put, List.setIfInBounds_toArray, List.set_cons_zero, List.set_cons_succ]
            refine wpAnyH_take (i := 29) (oi := { dst := some 47, op := Op.binOp BinOp.lss 3 (Operand.tmp 38) (Operand.tmp 46) 3, type := 4, pos := "ref.go:83", after := #[{ on := 20, ground := Ground.data }, { on := 28, ground := Ground.data }, { on := 12, ground := Ground.guard }], guard := some (12, false) }) (v := ?_) rfl (by kernel_rfl) (by kernel_rfl) (by kernel_rfl) (fun _ _ _ h => h) (Or.inl ⟨by rfl, ?_⟩) (by assumption) ?_
            rotate_left
            · (intro w hSw; (try dsimp only at hSw); (try obtain ⟨hSa, hSb⟩ := hSw); go_simp; try with_reducible rfl)
            try simp only [Act.put, List.setIfInBounds_toArray, List.set_cons_zero, List.set_cons_succ]
            refine wpAnyH_take (i := 30) (oi := { dst := some 48, op := Op.pick (Operand.tmp 30) (Operand.const (Value.bool true)) (Operand.tmp 47), type := 4, pos := "ref.go:83", after := #[{ on := 12, ground := Ground.data }, { on := 29, ground := Ground.data }, { on := 9, ground := Ground.guard }], guard := some (9, true) }) (v := ?_) rfl (by kernel_rfl) (by kernel_rfl) (by kernel_rfl) (fun _ _ _ h => h) (Or.inl ⟨by rfl, ?_⟩) (by assumption) ?_
            rotate_left
            · (intro w hSw; (try dsimp only at hSw); (try obtain ⟨hSa, hSb⟩ := hSw); go_simp; try with_reducible rfl)
            try simp only [Act.put, List.setIfInBounds_toArray, List.set_cons_zero, List.set_cons_succ]
            refine wpAnyH_take (i := 31) (oi := { dst := some 49, op := Op.pick (Operand.tmp 27) (Operand.tmp 48) (Operand.const (Value.bool false)), type := 4, pos := "ref.go:83", after := #[{ on := 9, ground := Ground.data }, { on := 30, ground := Ground.data }], guard := none }) (v := ?_) rfl (by kernel_rfl) (by kernel_rfl) (by kernel_rfl) (fun _ _ _ h => h) (Or.inl ⟨by rfl, ?_⟩) (by assumption) ?_
            rotate_left
            · (intro w hSw; (try dsimp only at hSw); (try obtain ⟨hSa, hSb⟩ := hSw); go_simp; try with_reducible rfl)
            try simp only [Act.put, List.setIfInBounds_toArray, List.set_cons_zero, List.set_cons_succ]
            refine wpAnyH_done (by kernel_rfl) ?_ _
            go_wp2
            go_roundw
            case rel => exact ⟨q + 1, by omega, by simp, (by rw [HNX.out]; try rfl), HO.out.drew⟩
            case measure => simp [intOf]; omega
      · have HNE := Lib.hid (HNO.out hs)
        have s1 : (x.s == 0) = false := beq_false_of_ne hs
        clear HY HNO hs
        obtain ⟨bq, hbq⟩ : ∃ bq, bI (bst (flt l 0 q)) = bq := ⟨_, rfl⟩
        rw [hbq]
        have HBQ := Lib.hid hbq
        clear hbq
        go_wp2_with (fail)
        refine wp_region_held_drew (S := (fun W => W.cell? ⟨r, 5, none⟩ = some (.slice (some ⟨rb, off, none⟩) n c) ∧ W.cell? ⟨rb, off + q * 5, none⟩ = some (.int .i64 x.s))) (by kernel_rfl) ?_ (fun hHeld => ?_)
        · exact ⟨c5, f0⟩
        refine wpAnyH_take (i := 0) (oi := { dst := some 18, op := Op.move (Operand.tmp 0), type := 30, pos := "ref.go:83", after := #[], guard := none }) (v := ?_) rfl (by kernel_rfl) (by kernel_rfl) (by kernel_rfl) (fun _ _ _ h => h) (Or.inl ⟨by rfl, ?_⟩) (by assumption) ?_
        rotate_left
        · (intro w hSw; (try dsimp only at hSw); (try obtain ⟨hSa, hSb⟩ := hSw); go_simp; try with_reducible rfl)
        try simp only [Act.put, List.setIfInBounds_toArray, List.set_cons_zero, List.set_cons_succ]
        refine wpAnyH_take (i := 1) (oi := { dst := some 19, op := Op.nilCheck (Operand.tmp 18), type := 0, pos := "ref.go:83", after := #[{ on := 0, ground := Ground.data }], guard := none }) (v := ?_) rfl (by kernel_rfl) (by kernel_rfl) (by kernel_rfl) (fun _ _ _ h => h) (Or.inl ⟨by rfl, ?_⟩) (by assumption) ?_
        rotate_left
        · (intro w hSw; (try dsimp only at hSw); (try obtain ⟨hSa, hSb⟩ := hSw); go_simp; try with_reducible rfl)
        try simp only [Act.put, List.setIfInBounds_toArray, List.set_cons_zero, List.set_cons_succ]
        refine wpAnyH_take (i := 2) (oi := { dst := some 20, op := Op.fieldAddr 64 (Operand.tmp 19) 1, type := 0, pos := "ref.go:83", after := #[{ on := 1, ground := Ground.data }], guard := none }) (v := ?_) rfl (by kernel_rfl) (by kernel_rfl) (by kernel_rfl) (fun _ _ _ h => h) (Or.inl ⟨by rfl, ?_⟩) (by assumption) ?_
        rotate_left
        · (intro w hSw; (try dsimp only at hSw); (try obtain ⟨hSa, hSb⟩ := hSw); go_simp; try with_reducible rfl)
        try simp only [Act.put, List.setIfInBounds_toArray, List.set_cons_zero, List.set_cons_succ]
        refine wpAnyH_take (i := 3) (oi := { dst := some 21, op := Op.load 41 (Operand.tmp 20), type := 41, pos := "ref.go:83", after := #[{ on := 2, ground := Ground.data }], guard := none }) (v := ?_) rfl (by kernel_rfl) (by kernel_rfl) (by kernel_rfl) (fun _ _ _ h => h) (Or.inl ⟨by rfl, ?_⟩) (by assumption) ?_
        rotate_left
        · (intro w hSw; (try dsimp only at hSw); (try obtain ⟨hSa, hSb⟩ := hSw); go_simp; try with_reducible rfl)
        try simp only [Act.put, List.setIfInBounds_toArray, List.set_cons_zero, List.set_cons_succ]
        refine wpAnyH_take (i := 4) (oi := { dst := some 22, op := Op.move (Operand.tmp 5), type := 3, pos := "ref.go:83", after := #[], guard := none }) (v := ?_) rfl (by kernel_rfl) (by kernel_rfl) (by kernel_rfl) (fun _ _ _ h => h) (Or.inl ⟨by rfl, ?_⟩) (by assumption) ?_
        rotate_left
        · (intro w hSw; (try dsimp only at hSw); (try obtain ⟨hSa, hSb⟩ := hSw); go_simp; try with_reducible rfl)
        try simp only [Act.put, List.setIfInBounds_toArray, List.set_cons_zero, List.set_cons_succ]
        refine wpAnyH_take (i := 5) (oi := { dst := some 23, op := Op.indexAddr 41 (Operand.tmp 21) (Operand.tmp 22), type := 0, pos := "ref.go:83", after := #[{ on := 3, ground := Ground.data }, { on := 4, ground := Ground.data }], guard := none }) (v := ?_) rfl (by kernel_rfl) (by kernel_rfl) (by kernel_rfl) (fun _ _ _ h => h) (Or.inl ⟨by rfl, ?_⟩) (by assumption) ?_
        rotate_left
        · (intro w hSw; (try dsimp only at hSw); (try obtain ⟨hSa, hSb⟩ := hSw); go_simp; try with_reducible rfl)
        try simp only [Act.put, List.setIfInBounds_toArray, List.set_cons_zero, List.set_cons_succ]
        refine wpAnyH_take (i := 6) (oi := { dst := some 24, op := Op.fieldAddr 43 (Operand.tmp 23) 0, type := 0, pos := "ref.go:83", after := #[{ on := 5, ground := Ground.data }], guard := none }) (v := ?_) rfl (by kernel_rfl) (by kernel_rfl) (by kernel_rfl) (fun _ _ _ h => h) (Or.inl ⟨by rfl, ?_⟩) (by assumption) ?_
        rotate_left
        · (intro w hSw; (try dsimp only at hSw); (try obtain ⟨hSa, hSb⟩ := hSw); go_simp; try with_reducible rfl)
        try simp only [Act.put, List.setIfInBounds_toArray, List.set_cons_zero, List.set_cons_succ]
        refine wpAnyH_take (i := 7) (oi := { dst := some 25, op := Op.load 3 (Operand.tmp 24), type := 3, pos := "ref.go:83", after := #[{ on := 6, ground := Ground.data }], guard := none }) (v := ?_) rfl (by kernel_rfl) (by kernel_rfl) (by kernel_rfl) (fun _ _ _ h => h) (Or.inl ⟨by rfl, ?_⟩) (by assumption) ?_
        rotate_left
        · (intro w hSw; (try dsimp only at hSw); (try obtain ⟨hSa, hSb⟩ := hSw); go_simp; try with_reducible rfl)
        try simp only [Act.put, List.setIfInBounds_toArray, List.set_cons_zero, List.set_cons_succ]
        refine wpAnyH_take (i := 8) (oi := { dst := some 26, op := Op.binOp BinOp.eql 3 (Operand.tmp 25) (Operand.const (Value.int IntKind.i64 0)) 3, type := 4, pos := "ref.go:83", after := #[{ on := 7, ground := Ground.data }], guard := none }) (v := ?_) rfl (by kernel_rfl) (by kernel_rfl) (by kernel_rfl) (fun _ _ _ h => h) (Or.inl ⟨by rfl, ?_⟩) (by assumption) ?_
        rotate_left
        · (intro w hSw; (try dsimp only at hSw); (try obtain ⟨hSa, hSb⟩ := hSw); go_simp; try with_reducible rfl)
        try simp only [Act.put, List.setIfInBounds_toArray, List.set_cons_zero, List.set_cons_succ]
        refine wpAnyH_take (i := 9) (oi := { dst := some 27, op := Op.move (Operand.tmp 26), type := 4, pos := "ref.go:83", after := #[{ on := 8, ground := Ground.data }], guard := none }) (v := ?_) rfl (by kernel_rfl) (by kernel_rfl) (by kernel_rfl) (fun _ _ _ h => h) (Or.inl ⟨by rfl, ?_⟩) (by assumption) ?_
        rotate_left
        · (intro w hSw; (try dsimp only at hSw); (try obtain ⟨hSa, hSb⟩ := hSw); go_simp; try with_reducible rfl)
        try simp only [Act.put, List.setIfInBounds_toArray, List.set_cons_zero, List.set_cons_succ]
        refine wpAnyH_take (i := 10) (oi := { dst := some 28, op := Op.move (Operand.tmp 4), type := 3, pos := "ref.go:83", after := #[{ on := 9, ground := Ground.guard }], guard := some (9, true) }) (v := undef) rfl (by kernel_rfl) (by kernel_rfl) (by kernel_rfl) (fun _ _ _ h => h) (Or.inr ⟨by rfl, rfl⟩) (by assumption) ?_
        try simp only [Act.put, List.setIfInBounds_toArray, List.set_cons_zero, List.set_cons_succ]
        refine wpAnyH_take (i := 11) (oi := { dst := some 29, op := Op.binOp BinOp.lss 3 (Operand.tmp 28) (Operand.const (Value.int IntKind.i64 0)) 3, type := 4, pos := "ref.go:83", after := #[{ on := 10, ground := Ground.data }, { on := 9, ground := Ground.guard }], guard := some (9, true) }) (v := undef) rfl (by kernel_rfl) (by kernel_rfl) (by kernel_rfl) (fun _ _ _ h => h) (Or.inr ⟨by rfl, rfl⟩) (by assumption) ?_
        try simp only [Act.put, List.setIfInBounds_toArray, List.set_cons_zero, List.set_cons_succ]
        refine wpAnyH_take (i := 12) (oi := { dst := some 30, op := Op.move (Operand.tmp 29), type := 4, pos := "ref.go:83", after := #[{ on := 11, ground := Ground.data }, { on := 9, ground := Ground.chain }, { on := 9, ground := Ground.guard }], guard := some (9, true) }) (v := undef) rfl (by kernel_rfl) (by kernel_rfl) (by kernel_rfl) (fun _ _ _ h => h) (Or.inr ⟨by rfl, rfl⟩) (by assumption) ?_
        try simp only [Act.put, List.setIfInBounds_toArray, List.set_cons_zero, List.set_cons_succ]
        refine wpAnyH_take (i := 13) (oi := { dst := some 31, op := Op.move (Operand.tmp 0), type := 30, pos := "ref.go:83", after := #[{ on := 12, ground := Ground.guard }], guard := some (12, false) }) (v := undef) rfl (by kernel_rfl) (by kernel_rfl) (by kernel_rfl) (fun _ _ _ h => h) (Or.inr ⟨by rfl, rfl⟩) (by assumption) ?_
        try simp only [Act.put, List.setIfInBounds_toArray, List.set_cons_zero, List.set_cons_succ]
        refine wpAnyH_take (i := 14) (oi := { dst := some 32, op := Op.nilCheck (Operand.tmp 31), type := 0, pos := "ref.go:83", after := #[{ on := 13, ground := Ground.data }, { on := 12, ground := Ground.guard }], guard := some (12, false) }) (v := undef) rfl (by kernel_rfl) (by kernel_rfl) (by kernel_rfl) (fun _ _ _ h => h) (Or.inr ⟨by rfl, rfl⟩) (by assumption) ?_
        try simp only [Act.put, List.setIfInBounds_toArray, List.set_cons_zero, List.set_cons_succ]
        refine wpAnyH_take (i := 15) (oi := { dst := some 33, op := Op.fieldAddr 64 (Operand.tmp 32) 1, type := 0, pos := "ref.go:83", after := #[{ on := 14, ground := Ground.data }, { on := 12, ground := Ground.guard }], guard := some (12, false) }) (v := undef) rfl (by kernel_rfl) (by kernel_rfl) (by kernel_rfl) (fun _ _ _ h => h) (Or.inr ⟨by rfl, rfl⟩) (by assumption) ?_
        try simp only [Act.put, List.setIfInBounds_toArray, List.set_cons_zero, List.set_cons_succ]
        refine wpAnyH_take (i := 16) (oi := { dst := some 34, op := Op.load 41 (Operand.tmp 33), type := 41, pos := "ref.go:83", after := #[{ on := 15, ground := Ground.data }, { on := 12, ground := Ground.guard }], guard := some (12, false) }) (v := undef) rfl (by kernel_rfl) (by kernel_rfl) (by kernel_rfl) (fun _ _ _ h => h) (Or.inr ⟨by rfl, rfl⟩) (by assumption) ?_
        try simp only [Act.put, List.setIfInBounds_toArray, List.set_cons_zero, List.set_cons_succ]
        refine wpAnyH_take (i := 17) (oi := { dst := some 35, op := Op.move (Operand.tmp 5), type := 3, pos := "ref.go:83", after := #[{ on := 12, ground := Ground.guard }], guard := some (12, false) }) (v := undef) rfl (by kernel_rfl) (by kernel_rfl) (by kernel_rfl) (fun _ _ _ h => h) (Or.inr ⟨by rfl, rfl⟩) (by assumption) ?_
        try simp only [Act.put, List.setIfInBounds_toArray, List.set_cons_zero, List.set_cons_succ]
        refine wpAnyH_take (i := 18) (oi := { dst := some 36, op := Op.indexAddr 41 (Operand.tmp 34) (Operand.tmp 35), type := 0, pos := "ref.go:83", after := #[{ on := 16, ground := Ground.data }, { on := 17, ground := Ground.data }, { on := 12, ground := Ground.guard }], guard := some (12, false) }) (v := undef) rfl (by kernel_rfl) (by kernel_rfl) (by kernel_rfl) (fun _ _ _ h => h) (Or.inr ⟨by rfl, rfl⟩) (by assumption) ?_
        try simp only [Act.put, List.setIfInBounds_toArray, List.set_cons_zero, List.set_cons_succ]
        refine wpAnyH_take (i := 19) (oi := { dst := some 37, op := Op.fieldAddr 43 (Operand.tmp 36) 1, type := 0, pos := "ref.go:83", after := #[{ on := 18, ground := Ground.data }, { on := 12, ground := Ground.guard }], guard := some (12, false) }) (v := undef) rfl (by kernel_rfl) (by kernel_rfl) (by kernel_rfl) (fun _ _ _ h => h) (Or.inr ⟨by rfl, rfl⟩) (by assumption) ?_
        try simp only [Act.put, List.setIfInBounds_toArray, List.set_cons_zero, List.set_cons_succ]
        refine wpAnyH_take (i := 20) (oi := { dst := some 38, op := Op.load 3 (Operand.tmp 37), type := 3, pos := "ref.go:83", after := #[{ on := 19, ground := Ground.data }, { on := 12, ground := Ground.guard }], guard := some (12, false) }) (v := undef) rfl (by kernel_rfl) (by kernel_rfl) (by kernel_rfl) (fun _ _ _ h => h) (Or.inr ⟨by rfl, rfl⟩) (by assumption) ?_
        try simp only [Act.put, List.setIfInBounds_toArray, List.set_cons_zero, List.set_cons_succ]
        refine wpAnyH_take (i := 21) (oi := { dst := some 39, op := Op.move (Operand.tmp 0), type := 30, pos := "ref.go:83", after := #[{ on := 12, ground := Ground.guard }], guard := some (12, false) }) (v := undef) rfl (by kernel_rfl) (by kernel_rfl) (by kernel_rfl) (fun _ _ _ h => h) (Or.inr ⟨by rfl, rfl⟩) (by assumption) ?_
        try simp only [Act.put, List.setIfInBounds_toArray, List.set_cons_zero, List.set_cons_succ]
        refine wpAnyH_take (i := 22) (oi := { dst := some 40, op := Op.nilCheck (Operand.tmp 39), type := 0, pos := "ref.go:83", after := #[{ on := 21, ground := Ground.data }, { on := 12, ground := Ground.guard }], guard := some (12, false) }) (v := undef) rfl (by kernel_rfl) (by kernel_rfl) (by kernel_rfl) (fun _ _ _ h => h) (Or.inr ⟨by rfl, rfl⟩) (by assumption) ?_
        try simp only [Act.put, List.setIfInBounds_toArray, List.set_cons_zero, List.set_cons_succ]
        refine wpAnyH_take (i := 23) (oi := { dst := some 41, op := Op.fieldAddr 64 (Operand.tmp 40) 1, type := 0, pos := "ref.go:83", after := #[{ on := 22, ground := Ground.data }, { on := 12, ground := Ground.guard }], guard := some (12, false) }) (v := undef) rfl (by kernel_rfl) (by kernel_rfl) (by kernel_rfl) (fun _ _ _ h => h) (Or.inr ⟨by rfl, rfl⟩) (by assumption) ?_
        try simp only [Act.put, List.setIfInBounds_toArray, List.set_cons_zero, List.set_cons_succ]
        refine wpAnyH_take (i := 24) (oi := { dst := some 42, op := Op.load 41 (Operand.tmp 41), type := 41, pos := "ref.go:83", after := #[{ on := 23, ground := Ground.data }, { on := 12, ground := Ground.guard }], guard := some (12, false) }) (v := undef) rfl (by kernel_rfl) (by kernel_rfl) (by kernel_rfl) (fun _ _ _ h => h) (Or.inr ⟨by rfl, rfl⟩) (by assumption) ?_
        try simp only [Act.put, List.setIfInBounds_toArray, List.set_cons_zero, List.set_cons_succ]
        refine wpAnyH_take (i := 25) (oi := { dst := some 43, op := Op.move (Operand.tmp 4), type := 3, pos := "ref.go:83", after := #[{ on := 12, ground := Ground.guard }], guard := some (12, false) }) (v := undef) rfl (by kernel_rfl) (by kernel_rfl) (by kernel_rfl) (fun _ _ _ h => h) (Or.inr ⟨by rfl, rfl⟩) (by assumption) ?_
        try simp only [Act.put, List.setIfInBounds_toArray, List.set_cons_zero, List.set_cons_succ]
        refine wpAnyH_take (i := 26) (oi := { dst := some 44, op := Op.indexAddr 41 (Operand.tmp 42) (Operand.tmp 43), type := 0, pos := "ref.go:83", after := #[{ on := 24, ground := Ground.data }, { on := 25, ground := Ground.data }, { on := 12, ground := Ground.guard }], guard := some (12, false) }) (v := undef) rfl (by kernel_rfl) (by kernel_rfl) (by kernel_rfl) (fun _ _ _ h => h) (Or.inr ⟨by rfl, rfl⟩) (by assumption) ?_
        try simp only [Act.put, List.setIfInBounds_toArray, List.set_cons_zero, List.set_cons_succ]
        refine wpAnyH_take (i := 27) (oi := { dst := some 45, op := Op.fieldAddr 43 (Operand.tmp 44) 1, type := 0, pos := "ref.go:83", after := #[{ on := 26, ground := Ground.data }, { on := 12, ground := Ground.guard }], guard := some (12, false) }) (v := undef) rfl (by kernel_rfl) (by kernel_rfl) (by kernel_rfl) (fun _ _ _ h => h) (Or.inr ⟨by rfl, rfl⟩) (by assumption) ?_
        try simp only [Act.put, List.setIfInBounds_toArray, List.set_cons_zero, List.set_cons_succ]
        refine wpAnyH_take (i := 28) (oi := { dst := some 46, op := Op.load 3 (Operand.tmp 45), type := 3, pos := "ref.go:83", after := #[{ on := 27, ground := Ground.data }, { on := 12, ground := Ground.guard }], guard := some (12, false) }) (v := undef) rfl (by kernel_rfl) (by kernel_rfl) (by kernel_rfl) (fun _ _ _ h => h) (Or.inr ⟨by rfl, rfl⟩) (by assumption) ?_
        try simp only [Act.put, List.setIfInBounds_toArray, List.set_cons_zero, List.set_cons_succ]
        refine wpAnyH_take (i := 29) (oi := { dst := some 47, op := Op.binOp BinOp.lss 3 (Operand.tmp 38) (Operand.tmp 46) 3, type := 4, pos := "ref.go:83", after := #[{ on := 20, ground := Ground.data }, { on := 28, ground := Ground.data }, { on := 12, ground := Ground.guard }], guard := some (12, false) }) (v := undef) rfl (by kernel_rfl) (by kernel_rfl) (by kernel_rfl) (fun _ _ _ h => h) (Or.inr ⟨by rfl, rfl⟩) (by assumption) ?_
        try simp only [Act.put, List.setIfInBounds_toArray, List.set_cons_zero, List.set_cons_succ]
        refine wpAnyH_take (i := 30) (oi := { dst := some 48, op := Op.pick (Operand.tmp 30) (Operand.const (Value.bool true)) (Operand.tmp 47), type := 4, pos := "ref.go:83", after := #[{ on := 12, ground := Ground.data }, { on := 29, ground := Ground.data }, { on := 9, ground := Ground.guard }], guard := some (9, true) }) (v := undef) rfl (by kernel_rfl) (by kernel_rfl) (by kernel_rfl) (fun _ _ _ h => h) (Or.inr ⟨by rfl, rfl⟩) (by assumption) ?_
        try simp only [Act.put, List.setIfInBounds_toArray, List.set_cons_zero, List.set_cons_succ]
        refine wpAnyH_take (i := 31) (oi := { dst := some 49, op := Op.pick (Operand.tmp 27) (Operand.tmp 48) (Operand.const (Value.bool false)), type := 4, pos := "ref.go:83", after := #[{ on := 9, ground := Ground.data }, { on := 30, ground := Ground.data }], guard := none }) (v := ?_) rfl (by kernel_rfl) (by kernel_rfl) (by kernel_rfl) (fun _ _ _ h => h) (Or.inl ⟨by rfl, ?_⟩) (by assumption) ?_
        rotate_left
        · (intro w hSw; (try dsimp only at hSw); (try obtain ⟨hSa, hSb⟩ := hSw); go_simp; try with_reducible rfl)
        try simp only [Act.put, List.setIfInBounds_toArray, List.set_cons_zero, List.set_cons_succ]
        refine wpAnyH_done (by kernel_rfl) ?_ _
        go_wp2
        go_roundw
        case rel => exact ⟨q + 1, by omega, by simp, by rw [HNE.out, HBQ.out], HO.out.drew⟩
        case measure => simp [intOf]; omega
    · obtain rfl : q = n := by omega
      have q1 : ¬ (q : Int) < q := by omega
      cases hb : bst (flt l 0 q) with
      | none =>
        have HBT := Lib.hid hb
        simp only [bI]
        clear hb
        go_wp2
        go_ret2
        rw [HBT.out]
        exact ⟨rfl, HO.out⟩
      | some y =>
        obtain ⟨hyl, hye⟩ := List.getElem?_eq_some_iff.1 y.2
        have f0 : wr.cell? ⟨rb, off + y.1.1 * 5, none⟩ = some (.int .i64 y.1.2.s) := HKQ.out.ln hyl (j := 0) (by omega) (by rw [hye]; rfl)
        have y0 : (0 : Int) ≤ y.1.1 := by omega
        have y1 : (y.1.1 : Int) < q := by have := HN.out; omega
        have y2 : decide ((y.1.1 : Int) < 0) = false := decide_eq_false (by omega)
        have y3 : ¬ (y.1.1 : Int) < 0 := by omega
        have yf := HKQ.out.fr (off + y.1.1 * 5)
        have hks := HKQ.out.setS hyl 1
        rw [hye] at hks
        have HKS := Lib.hid hks
        have HBT := Lib.hid hb
        simp only [bI]
        clear hb hks hye
        go_wp2
        go_ret2
        rw [HBT.out]
        exact ⟨rfl, HKS.out, (HO.out.mono (T := fun i => i = rb) (fun _ _ h => h.elim)).setCell (p := ⟨rb, off + y.1.1 * 5, none⟩) (fun _ => rfl) _⟩
end Go.Proofs.Ytlenjgofiocaaaa
