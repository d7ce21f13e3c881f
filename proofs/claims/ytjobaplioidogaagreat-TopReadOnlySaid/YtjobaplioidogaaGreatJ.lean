/- Top: plan.New, nand.New, Plan. -/
import Derived.Test.YtjobaplioidogaaGreatH
import Derived.Deep.DeepCutAuto
import Derived.Deep.CutBlock
import Derived.Outline
namespace Go.Proofs.YtjobaplioidogaaGreat
open Go.RowKit

def bv (l : List Int) : List Value := l.map (Value.int .u8)
theorem bv_one (l : List Int) : ∀ u ∈ bv l, u.oneCell' = true := by
  intro u hu
  obtain ⟨z, _, rfl⟩ := List.mem_map.1 hu
  rfl

/-- A plan of so many bytes that nobody has asked yet. -/
def PlanP (n : Nat) (w : World) (e : Ending) (w' : World) : Prop :=
  ∃ (pp : Nat) (A : Option Addr) (c : Nat), e = .returned (.pointer (some ⟨pp, 0, none⟩)) ∧ At w' pp 171 #[.slice A n c, .int .i64 0] ∧ w.heap.size ≤ pp ∧ Only (fun _ => False) w w'

set_option maxRecDepth 100000 in
set_option maxHeartbeats 2000000 in
theorem plan_any (l : List Int) (A : Option Addr) (c gs : Nat) (w : World) (hr : Rd w gs A (bv l)) (hl : l.length ≤ 1000000) :
    Calls Tryz.prog 38 #[.slice A l.length c] w (PlanP l.length w) := by
  obtain ⟨i0, hi⟩ : ∃ i, Tryz.prog.info? 5 = some i := ⟨_, rfl⟩
  have hz0 : i0.zero = some (.int .u8 0) := by cases hi; rfl
  have hz1 : i0.size = 1 := by cases hi; rfl
  have hz2 : i0.bytes = 1 := by cases hi; rfl
  have hO := (Only.refl (fun _ => False) w).alloc (.cells #[] 5)
  have HOWN := Lib.hid (ownsRow_fresh w 5 1)
  have HR := Lib.hid (hr.only hO id)
  have HO := Lib.hid hO
  have HI := Lib.hid (And.intro hi (And.intro hz0 (And.intro hz1 hz2)))
  clear hr hO hi hz0 hz1 hz2
  unfold PlanP
  go_enter Tryz.func38, Tryz.ntmps38
  go_wp2_with (at_builtin; go_loud (refine wpList_append_src _ rfl (.tmp 3) (.tmp 4) 27 rfl w.heap.size 5 i0 (.int .u8 0) 1 1 Tryz.underlying27 HI.out.1 HI.out.2.1 HI.out.2.2.1 HI.out.2.2.2 rfl (by decide) (.slice (some ⟨w.heap.size, 0, none⟩) 0 0) 0 [] rfl HOWN.out gs A l.length c (bv l) rfl (by simp [bv]) HR.out (bv_one l) (by unfold maxLen; omega) (by omega) (by simp) ?_); intro A1 c1 w2 hc1 hown1 hg1 hat; have HG := Lib.hid (Only.of_grown hg1); clear hown1 hg1 hat hc1)
  have HO2 := HO.out.trans' HG.out (S := fun _ => False) (fun i hi h => by simp [Value.ownBlock] at h; omega)
  have hsz := HO2.size
  go_ret
  refine ⟨w2.heap.size, A1, c1, by simp, ?_, hsz, HO2.alloc _⟩
  have := At.new w2 171 #[.slice A1 (0 + l.length) c1, .int .i64 0]
  simpa using this

/-- So many blocks, each retired if it is told so. -/
def mkBs (n : Nat) (bad : List Int) : List Bk := (List.range n).map (fun i : Nat => ⟨0, 0, decide ((i : Int) ∈ bad)⟩)
theorem mkBs_len (n : Nat) (bad : List Int) : (mkBs n bad).length = n := by simp [mkBs]
theorem mkBs_nil (n : Nat) : mkBs n [] = List.replicate n ⟨0, 0, false⟩ := by
  apply List.ext_getElem?
  intro i
  by_cases h : i < n
  · simp [mkBs, h]
  · rw [List.getElem?_eq_none (by simp [mkBs]; omega), List.getElem?_eq_none (by simp; omega)]
theorem zero_get (n i : Nat) (h : i < n * 3) : (bcs (List.replicate n ⟨0, 0, false⟩))[i]? = (Bk.cells ⟨0, 0, false⟩)[i % 3]? := by
  have h1 : i / 3 < n := Nat.div_lt_of_lt_mul (by omega)
  have h2 : i % 3 < 3 := Nat.mod_lt _ (by omega)
  have := bcs_get (List.replicate n ⟨0, 0, false⟩) (i / 3) (i % 3) (by simpa using h1) h2
  rw [show i / 3 * 3 + i % 3 = i from Nat.div_add_mod' i 3] at this
  rw [this]
  simp
set_option maxRecDepth 100000 in
theorem make_blocks (n : Nat) (hn : n ≤ 1000) (w : World) : (Instr.makeSlice 92 (.int .i64 (n : Int)) (.int .i64 (n : Int))).run Tryz.prog w = .ok (.slice (some ⟨w.heap.size, 0, none⟩) n n) (w.alloc (.cells (bcs (mkBs n [])).toArray 99)) := by
  obtain ⟨i0, hi⟩ : ∃ i, Tryz.prog.info? 99 = some i := ⟨_, rfl⟩
  have hz0 : i0.zero = some (.agg #[.int .i64 0, .int .i64 0, .bool false]) := by cases hi; rfl
  have hr := run_make (P := Tryz.prog) w 92 99 i0 _ Tryz.underlying92 hi hz0 .i64 .i64 n n (by omega) (by omega) (by cases hi; show (24 : Int) * (n : Int) ≤ _; omega) (by omega)
  rw [hr, mkBs_nil]
  have e : madeCells (Value.agg #[.int .i64 0, .int .i64 0, .bool false]).cells (((n : Int)).toNat * i0.size) = (bcs (List.replicate n ⟨0, 0, false⟩)).toArray := by
    have hsz : i0.size = 3 := by cases hi; rfl
    rw [hsz]
    apply Array.ext'
    apply List.ext_getElem?
    intro i
    by_cases hin : i < n * 3
    · rw [show (bcs (List.replicate n ⟨0, 0, false⟩)).toArray.toList = bcs (List.replicate n ⟨0, 0, false⟩) from rfl, zero_get n i hin]
      have hlt : i % 3 < 3 := Nat.mod_lt _ (by omega)
      have e1 : (madeCells (Value.agg #[.int .i64 0, .int .i64 0, .bool false]).cells (((n : Int)).toNat * 3)).toList[i]? = some ((#[Value.int .i64 0, .int .i64 0, .bool false] : Array Value)[i % 3]!) := by
        have hin' : i < ((n : Int)).toNat * 3 := by simpa using hin
        rw [Array.getElem?_toList]
        unfold madeCells
        rw [Array.getElem?_map, Array.getElem?_range, if_pos hin']
        rfl
      rw [e1]
      generalize i % 3 = r at hlt
      have hr : r = 0 ∨ r = 1 ∨ r = 2 := by omega
      rcases hr with rfl | rfl | rfl <;> rfl
    · rw [List.getElem?_eq_none (by simp [madeCells]; omega), List.getElem?_eq_none (by simp [bcs_len]; omega)]
  rw [e]
  simp
theorem map_at {w : World} {b : Nat} {o : Obj} (h : w.heap[b]? = some o) {w' : World} {S : Nat → Prop} (k : Only S w w') (hb : ¬ S b) : w'.heap[b]? = some o := (k.block b (Array.getElem?_eq_some_iff.1 h).1 hb).trans h
theorem map_new (w : World) (g : Nat) (h : g = w.heap.size) : (w.alloc (.map #[] 0)).heap[g]? = some (.map #[] 0) := by
  subst h
  show (w.heap.push _)[w.heap.size]? = _
  simp

/-- Retiring one more. -/
theorem mkBs_set (n : Nat) (bad : List Int) (z : Nat) (hz : z < n) : (mkBs n bad).set z { (mkBs n bad)[z]'(by rw [mkBs_len]; exact hz) with r := true } = mkBs n (bad ++ [(z : Int)]) := by
  apply List.ext_getElem?
  intro i
  rw [List.getElem?_set]
  by_cases h : z = i
  · subst h; simp [mkBs, hz]
  · rw [if_neg h]
    by_cases hi : i < n
    · have : ¬ (i : Int) = z := by omega
      simp [mkBs, hi, this]
    · rw [List.getElem?_eq_none (by simp [mkBs]; omega), List.getElem?_eq_none (by simp [mkBs]; omega)]
theorem bcs_set (l : List Bk) (q : Nat) (hq : q < l.length) : (bcs l).set (q * 3 + 2) (.bool true) = bcs (l.set q { l[q] with r := true }) := by
  apply List.ext_getElem?
  intro i
  rw [List.getElem?_set]
  by_cases h : q * 3 + 2 = i
  · subst h
    rw [if_pos rfl, if_pos (by rw [bcs_len]; omega)]
    have := bcs_get (l.set q { l[q] with r := true }) q 2 (by simpa using hq) (by omega)
    rw [this]
    simp [Bk.cells]
  · rw [if_neg h]
    by_cases hi : i < l.length * 3
    · have h1 : i / 3 < l.length := Nat.div_lt_of_lt_mul (by omega)
      have h2 : i % 3 < 3 := Nat.mod_lt _ (by omega)
      have e1 := bcs_get l (i / 3) (i % 3) h1 h2
      have e2 := bcs_get (l.set q { l[q] with r := true }) (i / 3) (i % 3) (by simpa using h1) h2
      rw [show i / 3 * 3 + i % 3 = i from Nat.div_add_mod' i 3] at e1 e2
      rw [e1, e2]
      by_cases hq' : q = i / 3
      · subst hq'
        simp only [List.getElem_set_self]
        have : i % 3 ≠ 2 := fun e => h (by have := Nat.div_add_mod' i 3; omega)
        generalize i % 3 = r at *
        have hr : r = 0 ∨ r = 1 := by omega
        rcases hr with rfl | rfl <;> rfl
      · rw [List.getElem_set_ne hq']
    · rw [List.getElem?_eq_none (by rw [bcs_len]; omega), List.getElem?_eq_none (by rw [bcs_len]; simp; omega)]

theorem NAt.retire {w : World} {d gb mp pp n : Nat} {G : Ge} {bad : List Int} {es : Array MapEntry} {ck : Nat} (k : NAt w d gb mp pp G (mkBs n bad) es ck) (z : Nat) (hz : z < n) :
    NAt (w.setCell ⟨gb, z * 3 + 2, none⟩ (.bool true)) d gb mp pp G (mkBs n (bad ++ [(z : Int)])) es ck := by
  have hne : d ≠ gb := k.st.ne k.row (by decide)
  have hmg : mp ≠ gb := fun e => by have h1 := k.mp; have h2 : w.heap[gb]? = _ := k.row; rw [e, h2] at h1; cases h1
  have o := (Only.refl (fun i => i = gb) w).setCell (p := ⟨gb, z * 3 + 2, none⟩) (fun _ => rfl) (.bool true)
  refine ⟨by have := k.st.only o hne; rw [mkBs_len] at this ⊢; exact this, ?_, map_at k.mp o hmg, k.is, by have := k.len; rw [mkBs_len] at this ⊢; exact this⟩
  have hs := k.row.set (z * 3 + 2) (.bool true)
  have e : (bcs (mkBs n bad)).toArray.setIfInBounds (z * 3 + 2) (.bool true) = (bcs (mkBs n (bad ++ [(z : Int)]))).toArray := by
    rw [List.setIfInBounds_toArray, bcs_set _ z (by rw [mkBs_len]; exact hz), mkBs_set n bad z hz]
  rwa [e] at hs

set_option maxRecDepth 100000 in
set_option maxHeartbeats 8000000 in
theorem nand_walk (G : Ge) (hI : G.Is) (bad : List Int) (A : Option Addr) (c0 gs : Nat) (w : World) (hr : Rd w gs A (bad.map (Value.int .i64))) (hb100 : bad.length ≤ 100) :
    Calls Tryz.prog 17 #[G.val, .slice A bad.length c0] w fun e w' =>
      ((∀ z ∈ bad, 0 ≤ z ∧ z < G.u * G.b) ∧ ∃ d gb mp pp, e = .returned (.tuple #[.pointer (some ⟨d, 0, none⟩), .int .i64 0]) ∧ NAt w' d gb mp pp G (mkBs (G.u * G.b).toNat bad) #[] 0 ∧ (∃ Ap cp, At w' pp 171 #[.slice Ap 0 cp, .int .i64 0]) ∧ (w.heap.size ≤ d ∧ w.heap.size ≤ gb ∧ w.heap.size ≤ mp ∧ w.heap.size ≤ pp) ∧ Only (fun _ => False) w w') ∨
      ((∃ z ∈ bad, z < 0 ∨ G.u * G.b ≤ z) ∧ e = .returned (.tuple #[.pointer none, .int .i64 1]) ∧ Only (fun _ => False) w w') := by
  have HRG := Lib.hid (fun W => right_any G hI.wf W)
  have HU := Lib.hid (fun W => units_any G hI W)
  have HPN := Lib.hid (fun W => plan_any [] none 0 0 W (.inl rfl) (by simp))
  rw [hI.ok] at HRG
  have hub0 := mul_bd (m := 8) (n := 64) hI.u hI.b
  obtain ⟨n, hn⟩ : ∃ n : Nat, G.u * G.b = n := ⟨(G.u * G.b).toNat, by have : 1 ≤ G.u * G.b := hub0.1; omega⟩
  have hub : 1 ≤ G.u * G.b ∧ G.u * G.b ≤ 512 := hub0
  clear hub0
  rw [hn] at hub ⊢
  have HMK := Lib.hid (fun W => make_blocks n (by omega) W)
  have HN := Lib.hid hn
  have HII := Lib.hid hI
  have HR := Lib.hid hr
  have HB := Lib.hid (At.new w 23 #[.int .i64 G.c, .int .i64 G.l, .int .i64 G.b, .int .i64 G.p, .int .i64 G.s])
  have HO0 := Lib.hid ((Only.refl (fun _ => False) w).alloc (.cells #[.int .i64 G.c, .int .i64 G.l, .int .i64 G.b, .int .i64 G.p, .int .i64 G.s] 23))
  have hs0 : (w.alloc (.cells #[.int .i64 G.c, .int .i64 G.l, .int .i64 G.b, .int .i64 G.p, .int .i64 G.s] 23)).heap.size = w.heap.size + 1 := by simp
  unfold Ge.val at *
  have e1 : IntKind.i64.wrap (G.u * G.b) = (n : Int) := by rw [hn]; exact IntWalk.i64_in _ (by omega)
  have e1' : wrap64 (G.u * G.b) = (n : Int) := by rw [← IntWalk.i64_left]; exact e1
  have e2 : IntKind.i64.wrap (n : Int) = (n : Int) := IntWalk.i64_in _ (by omega)
  have e2' : wrap64 (n : Int) = (n : Int) := by rw [← IntWalk.i64_left]; exact e2
  have hmk : ∀ W : World, (Instr.makeMap 93 none).run Tryz.prog W = .ok (.map (some W.heap.size)) (W.alloc (.map #[] 0)) := fun W => rfl
  have HMM := Lib.hid hmk
  clear hI hr hmk hs0 e1 e1' e2 e2' hn
  simp only [Int.toNat_natCast]
  go_enter Tryz.func17, Tryz.ntmps17
  go_wp2_with (fail)
  refine (HRG.out _).mono ?_
  rintro e w1 ⟨rfl, hO⟩
  have HO1 := Lib.hid (HO0.out.trans hO)
  have HB1 := Lib.hid (HB.out.only hO id)
  clear hO HO0 HB
  go_upto_region 3 with (fail)
  go_cut [6] (fun v6 wy => ∃ d gb mp pp Ap cp, v6 = .pointer (some ⟨d, 0, none⟩) ∧ NAt wy d gb mp pp G (mkBs n []) #[] 0 ∧ At wy pp 171 #[.slice Ap 0 cp, .int .i64 0] ∧ (w.heap.size ≤ d ∧ w.heap.size ≤ gb ∧ w.heap.size ≤ mp ∧ w.heap.size ≤ pp) ∧ Only (fun _ => False) w wy)
  case first =>
    have e1 : IntKind.i64.wrap (G.u * G.b) = (n : Int) := by rw [HN.out]; exact IntWalk.i64_in _ (by omega)
    have e1' : wrap64 (G.u * G.b) = (n : Int) := by rw [← IntWalk.i64_left]; exact e1
    have e2 : IntKind.i64.wrap (n : Int) = (n : Int) := IntWalk.i64_in _ (by omega)
    have e2' : wrap64 (n : Int) = (n : Int) := by rw [← IntWalk.i64_left]; exact e2
    have e3 := HN.out
    refine wp_region_held_drew (S := (fun W => (W.cell? ⟨w.heap.size, 0, none⟩ = some (.int .i64 G.c) ∧ W.cell? ⟨w.heap.size, 1, none⟩ = some (.int .i64 G.l)) ∧ (W.cell? ⟨w.heap.size, 2, none⟩ = some (.int .i64 G.b) ∧ W.cell? ⟨w.heap.size, 3, none⟩ = some (.int .i64 G.p)) ∧ W.cell? ⟨w.heap.size, 4, none⟩ = some (.int .i64 G.s))) (by kernel_rfl) ?_ (fun hHeld => ?_)
    · exact ⟨⟨HB1.out.cell 0, HB1.out.cell 1⟩, ⟨HB1.out.cell 2, HB1.out.cell 3⟩, HB1.out.cell 4⟩
    refine wpAnyH_take (i := 0) (oi := { dst := some 12, op := Op.load 23 (Operand.tmp 2), type := 23, pos := "nand.go:43", after := #[], guard := none }) (v := ?_) rfl (by kernel_rfl) (by kernel_rfl) (by kernel_rfl) (fun _ _ _ h => h) (Or.inl ⟨by rfl, ?_⟩) (by assumption) ?_
    rotate_left
    · (intro w hSw; (try dsimp only at hSw); (try obtain ⟨hSa, hSb⟩ := hSw); go_simp; try with_reducible rfl)
    try simp only [Act.put, List.setIfInBounds_toArray, List.set_cons_zero, List.set_cons_succ]
    refine wpAnyH_take (i := 2) (oi := { dst := some 14, op := Op.load 23 (Operand.tmp 2), type := 23, pos := "nand.go:43", after := #[], guard := none }) (v := ?_) rfl (by kernel_rfl) (by kernel_rfl) (by kernel_rfl) (fun _ _ _ h => h) (Or.inl ⟨by rfl, ?_⟩) (by assumption) ?_
    rotate_left
    · (intro w hSw; (try dsimp only at hSw); (try obtain ⟨hSa, hSb⟩ := hSw); go_simp; try with_reducible rfl)
    try simp only [Act.put, List.setIfInBounds_toArray, List.set_cons_zero, List.set_cons_succ]
    refine wpAnyH_take (i := 4) (oi := { dst := some 16, op := Op.fieldAddr 23 (Operand.tmp 2) 2, type := 0, pos := "nand.go:43", after := #[], guard := none }) (v := ?_) rfl (by kernel_rfl) (by kernel_rfl) (by kernel_rfl) (fun _ _ _ h => h) (Or.inl ⟨by rfl, ?_⟩) (by assumption) ?_
    rotate_left
    · (intro w hSw; (try dsimp only at hSw); (try obtain ⟨hSa, hSb⟩ := hSw); go_simp; try with_reducible rfl)
    try simp only [Act.put, List.setIfInBounds_toArray, List.set_cons_zero, List.set_cons_succ]
    refine wpAnyH_take (i := 5) (oi := { dst := some 17, op := Op.load 3 (Operand.tmp 16), type := 3, pos := "nand.go:43", after := #[{ on := 4, ground := Ground.data }], guard := none }) (v := ?_) rfl (by kernel_rfl) (by kernel_rfl) (by kernel_rfl) (fun _ _ _ h => h) (Or.inl ⟨by rfl, ?_⟩) (by assumption) ?_
    rotate_left
    · (intro w hSw; (try dsimp only at hSw); (try obtain ⟨hSa, hSb⟩ := hSw); go_simp; try with_reducible rfl)
    try simp only [Act.put, List.setIfInBounds_toArray, List.set_cons_zero, List.set_cons_succ]
    refine wpAnyH_ready (rs := [1, 8]) (by kernel_rfl) (by simp) ?_
    refine AllReadyH.cons (o := { dst := some 13, op := Op.call { callee := Callee.value (Operand.func 38), args := #[Operand.const (Value.slice none 0 0)], argTypes := #[27] }, type := 91, pos := "nand.go:43", after := #[], guard := none }) rfl (fun K hK => ?_) (AllReadyH.cons (o := { dst := some 20, op := Op.makeMap 93 none, type := 93, pos := "nand.go:43", after := #[], guard := none }) rfl (fun K hK => ?_) AllReadyH.nil)
    · skip
      go_simp
      refine (HPN.out _).mono ?_
      rintro e wwq1 ⟨pp, Ap, cp, rfl, hp, hpl, hO⟩
      have hOd := (Only.refl (fun _ => False) _).drew.trans hO
      have HBq1 := Lib.hid (HB1.out.only hOd id)
      have HOq1 := Lib.hid (HO1.out.trans hOd)
      have HPPq1 := Lib.hid hp
      have HPLq1 : Hid (w.heap.size ≤ pp) := Lib.hid (by have h1 := HO1.out.size; have h2 : (w1.drew).heap.size ≤ pp := hpl; first | omega | (have h3 : (w1.drew).heap.size = w1.heap.size := rfl; omega))
      clear hO hp hpl hOd
      try simp only []
      refine hK.out _ _ ?_ (fun hHeld => ?_)
      · exact ⟨⟨HBq1.out.cell 0, HBq1.out.cell 1⟩, ⟨HBq1.out.cell 2, HBq1.out.cell 3⟩, HBq1.out.cell 4⟩
      clear hK K
      try simp only [Act.put, List.setIfInBounds_toArray, List.set_cons_zero, List.set_cons_succ]
      refine wpAnyH_ready (rs := [3, 8]) (by kernel_rfl) (by simp) ?_
      refine AllReadyH.cons (o := { dst := some 15, op := Op.call { callee := Callee.value (Operand.func 39), args := #[Operand.tmp 14], argTypes := #[23] }, type := 3, pos := "nand.go:43", after := #[{ on := 2, ground := Ground.data }, { on := 1, ground := Ground.chain }], guard := none }) rfl (fun K hK => ?_) (AllReadyH.cons (o := { dst := some 20, op := Op.makeMap 93 none, type := 93, pos := "nand.go:43", after := #[], guard := none }) rfl (fun K hK => ?_) AllReadyH.nil)
      · skip
        go_simp
        refine (HU.out _).mono ?_
        rintro e wwq2 ⟨rfl, hO⟩
        have HBq2 := Lib.hid (HBq1.out.only hO id)
        have HOq2 := Lib.hid (HOq1.out.trans hO)
        have HPPq2 := Lib.hid (HPPq1.out.only hO id)
        have HPLq2 := HPLq1
        clear hO
        try simp only []
        refine hK.out _ _ ?_ (fun hHeld => ?_)
        · exact ⟨⟨HBq2.out.cell 0, HBq2.out.cell 1⟩, ⟨HBq2.out.cell 2, HBq2.out.cell 3⟩, HBq2.out.cell 4⟩
        clear hK K
        try simp only [Act.put, List.setIfInBounds_toArray, List.set_cons_zero, List.set_cons_succ]
        refine wpAnyH_take (i := 6) (oi := { dst := some 18, op := Op.binOp BinOp.mul 3 (Operand.tmp 15) (Operand.tmp 17) 3, type := 3, pos := "nand.go:43", after := #[{ on := 3, ground := Ground.data }, { on := 5, ground := Ground.data }], guard := none }) (v := ?_) rfl (by kernel_rfl) (by kernel_rfl) (by kernel_rfl) (fun _ _ _ h => h) (Or.inl ⟨by rfl, ?_⟩) (by assumption) ?_
        rotate_left
        · (intro w hSw; (try dsimp only at hSw); (try obtain ⟨hSa, hSb⟩ := hSw); go_simp; try with_reducible rfl)
        try simp only [Act.put, List.setIfInBounds_toArray, List.set_cons_zero, List.set_cons_succ]
        refine wpAnyH_ready (rs := [7, 8]) (by kernel_rfl) (by simp) ?_
        refine AllReadyH.cons (o := { dst := some 19, op := Op.makeSlice 92 (Operand.tmp 18) (Operand.tmp 18), type := 92, pos := "nand.go:43", after := #[{ on := 6, ground := Ground.data }, { on := 6, ground := Ground.data }], guard := none }) rfl (fun K hK => ?_) (AllReadyH.cons (o := { dst := some 20, op := Op.makeMap 93 none, type := 93, pos := "nand.go:43", after := #[], guard := none }) rfl (fun K hK => ?_) AllReadyH.nil)
        · skip
          have hmk := HMK.out
          go_simp
          clear hmk
          have hO := (Only.refl (fun _ => False) wwq2).alloc (.cells (bcs (mkBs n [])).toArray 99)
          have HBq3 := Lib.hid (HBq2.out.only hO id)
          have HOq3 := Lib.hid (HOq2.out.trans hO)
          have HPPq3 := Lib.hid (HPPq2.out.only hO id)
          have HPLq3 := HPLq2
          have HGBq3 := Lib.hid (At.new' (w := wwq2) (g := wwq2.heap.size) (by first | rfl | simp) 99 (bcs (mkBs n [])).toArray)
          have HGL : Hid (w.heap.size ≤ wwq2.heap.size) := Lib.hid (by have h := HOq2.out.size; first | exact h | (simp at h; omega))
          clear hO
          refine hK.out _ _ ?_ (fun hHeld => ?_)
          · exact ⟨⟨HBq3.out.cell 0, HBq3.out.cell 1⟩, ⟨HBq3.out.cell 2, HBq3.out.cell 3⟩, HBq3.out.cell 4⟩
          clear hK K
          try simp only [Act.put, List.setIfInBounds_toArray, List.set_cons_zero, List.set_cons_succ]
          refine wpAnyH_ready (rs := [8]) (by kernel_rfl) (by simp) ?_
          refine AllReadyH.cons (o := { dst := some 20, op := Op.makeMap 93 none, type := 93, pos := "nand.go:43", after := #[], guard := none }) rfl (fun K hK => ?_) AllReadyH.nil
          have hmm := HMM.out
          go_simp
          clear hmm
          have hO := (Only.refl (fun _ => False) (wwq2.alloc (.cells (bcs (mkBs n [])).toArray 99))).alloc (.map #[] 0)
          have HBq4 := Lib.hid (HBq3.out.only hO id)
          have HOq4 := Lib.hid (HOq3.out.trans hO)
          have HPPq4 := Lib.hid (HPPq3.out.only hO id)
          have HPLq4 := HPLq3
          have HGBq4 := Lib.hid (HGBq3.out.only hO id)
          have HMPq4 := Lib.hid (map_new ((wwq2.alloc (.cells (bcs (mkBs n [])).toArray 99))) (wwq2.heap.size + 1) (by first | rfl | simp))
          have HML : Hid (w.heap.size ≤ wwq2.heap.size + 1) := Lib.hid (by have h := HOq3.out.size; first | exact h | (simp at h; omega))
          clear hO
          refine hK.out _ _ ?_ (fun hHeld => ?_)
          · exact ⟨⟨HBq4.out.cell 0, HBq4.out.cell 1⟩, ⟨HBq4.out.cell 2, HBq4.out.cell 3⟩, HBq4.out.cell 4⟩
          clear hK K
          try simp only [Act.put, List.setIfInBounds_toArray, List.set_cons_zero, List.set_cons_succ]
          refine wpAnyH_take (i := 9) (oi := { dst := some 21, op := Op.build 95 #[(1, Operand.tmp 12), (2, Operand.tmp 13), (3, Operand.tmp 19), (4, Operand.tmp 20)], type := 95, pos := "nand.go:43", after := #[{ on := 0, ground := Ground.data }, { on := 1, ground := Ground.data }, { on := 7, ground := Ground.data }, { on := 8, ground := Ground.data }], guard := none }) (v := ?_) rfl (by kernel_rfl) (by kernel_rfl) (by kernel_rfl) (fun _ _ _ h => h) (Or.inl ⟨by rfl, ?_⟩) (by assumption) ?_
          rotate_left
          · (intro w hSw; (try dsimp only at hSw); (try obtain ⟨hSa, hSb⟩ := hSw); go_simp; try with_reducible rfl)
          try simp only [Act.put, List.setIfInBounds_toArray, List.set_cons_zero, List.set_cons_succ]
          refine wpAnyH_ready (rs := [10]) (by kernel_rfl) (by simp) ?_
          refine AllReadyH.cons (o := { dst := some 22, op := Op.box 95 (Operand.tmp 21), type := 33, pos := "nand.go:43", after := #[{ on := 9, ground := Ground.data }], guard := none }) rfl (fun K hK => ?_) AllReadyH.nil
          go_simp
          have hO := (Only.refl (fun _ => False) ((wwq2.alloc (.cells (bcs (mkBs n [])).toArray 99)).alloc (.map #[] 0))).alloc (.cells #[.bool false, .int .i64 G.c, .int .i64 G.l, .int .i64 G.b, .int .i64 G.p, .int .i64 G.s, .pointer (some ⟨pp, 0, none⟩), .slice (some ⟨wwq2.heap.size, 0, none⟩) n n, .map (some (wwq2.heap.size + 1)), .int .i64 0] 95)
          have HBq4x := Lib.hid (HBq4.out.only hO id)
          have HOq4x := Lib.hid (HOq4.out.trans hO)
          have HPPq4x := Lib.hid (HPPq4.out.only hO id)
          have HPLq4x := HPLq4
          have HGBq4x := Lib.hid (HGBq4.out.only hO id)
          have HMPq4x := Lib.hid (map_at HMPq4.out hO id)
          have HXq4x := Lib.hid (At.new' (w := ((wwq2.alloc (.cells (bcs (mkBs n [])).toArray 99)).alloc (.map #[] 0))) (g := wwq2.heap.size + 1 + 1) (by first | rfl | simp) 95 #[.bool false, .int .i64 G.c, .int .i64 G.l, .int .i64 G.b, .int .i64 G.p, .int .i64 G.s, .pointer (some ⟨pp, 0, none⟩), .slice (some ⟨wwq2.heap.size, 0, none⟩) n n, .map (some (wwq2.heap.size + 1)), .int .i64 0])
          have HXL : Hid (w.heap.size ≤ wwq2.heap.size + 1 + 1) := Lib.hid (by have h := HOq4.out.size; first | exact h | (simp at h; omega))
          clear hO
          refine hK.out _ _ ?_ (fun hHeld => ?_)
          · exact ⟨⟨HBq4x.out.cell 0, HBq4x.out.cell 1⟩, ⟨HBq4x.out.cell 2, HBq4x.out.cell 3⟩, HBq4x.out.cell 4⟩
          clear hK K
          try simp only [Act.put, List.setIfInBounds_toArray, List.set_cons_zero, List.set_cons_succ]
          refine wpAnyH_take (i := 11) (oi := { dst := some 6, op := Op.assign (Operand.tmp 22), type := 33, pos := "nand.go:43", after := #[{ on := 10, ground := Ground.data }, { on := 3, ground := Ground.chain }, { on := 0, ground := Ground.phase }, { on := 1, ground := Ground.phase }, { on := 2, ground := Ground.phase }, { on := 3, ground := Ground.phase }, { on := 4, ground := Ground.phase }, { on := 5, ground := Ground.phase }, { on := 6, ground := Ground.phase }, { on := 7, ground := Ground.phase }, { on := 8, ground := Ground.phase }, { on := 9, ground := Ground.phase }, { on := 10, ground := Ground.phase }], guard := none }) (v := ?_) rfl (by kernel_rfl) (by kernel_rfl) (by kernel_rfl) (fun _ _ _ h => h) (Or.inl ⟨by rfl, ?_⟩) (by assumption) ?_
          rotate_left
          · (intro w hSw; (try dsimp only at hSw); (try obtain ⟨hSa, hSb⟩ := hSw); go_simp; try with_reducible rfl)
          try simp only [Act.put, List.setIfInBounds_toArray, List.set_cons_zero, List.set_cons_succ]
          refine wpAnyH_done (by kernel_rfl) ?_ _
          go_wp2_with (fail)
          go_meet
          exact ⟨wwq2.heap.size + 1 + 1, wwq2.heap.size, wwq2.heap.size + 1, pp, Ap, cp, rfl, ⟨by rw [mkBs_len]; exact HXq4x.out, HGBq4x.out, HMPq4x.out, HII.out, by rw [mkBs_len, HN.out]⟩, HPPq4x.out, ⟨HXL.out, HGL.out, HML.out, HPLq4x.out⟩, HOq4x.out⟩
        · skip
          have hmm := HMM.out
          go_simp
          clear hmm
          have hO := (Only.refl (fun _ => False) wwq2).alloc (.map #[] 0)
          have HBq5 := Lib.hid (HBq2.out.only hO id)
          have HOq5 := Lib.hid (HOq2.out.trans hO)
          have HPPq5 := Lib.hid (HPPq2.out.only hO id)
          have HPLq5 := HPLq2
          have HMPq5 := Lib.hid (map_new (wwq2) (wwq2.heap.size) (by first | rfl | simp))
          have HML : Hid (w.heap.size ≤ wwq2.heap.size) := Lib.hid (by have h := HOq2.out.size; first | exact h | (simp at h; omega))
          clear hO
          refine hK.out _ _ ?_ (fun hHeld => ?_)
          · exact ⟨⟨HBq5.out.cell 0, HBq5.out.cell 1⟩, ⟨HBq5.out.cell 2, HBq5.out.cell 3⟩, HBq5.out.cell 4⟩
          clear hK K
          try simp only [Act.put, List.setIfInBounds_toArray, List.set_cons_zero, List.set_cons_succ]
          refine wpAnyH_ready (rs := [7]) (by kernel_rfl) (by simp) ?_
          refine AllReadyH.cons (o := { dst := some 19, op := Op.makeSlice 92 (Operand.tmp 18) (Operand.tmp 18), type := 92, pos := "nand.go:43", after := #[{ on := 6, ground := Ground.data }, { on := 6, ground := Ground.data }], guard := none }) rfl (fun K hK => ?_) AllReadyH.nil
          have hmk := HMK.out
          go_simp
          clear hmk
          have hO := (Only.refl (fun _ => False) (wwq2.alloc (.map #[] 0))).alloc (.cells (bcs (mkBs n [])).toArray 99)
          have HBq6 := Lib.hid (HBq5.out.only hO id)
          have HOq6 := Lib.hid (HOq5.out.trans hO)
          have HPPq6 := Lib.hid (HPPq5.out.only hO id)
          have HPLq6 := HPLq5
          have HMPq6 := Lib.hid (map_at HMPq5.out hO id)
          have HGBq6 := Lib.hid (At.new' (w := (wwq2.alloc (.map #[] 0))) (g := wwq2.heap.size + 1) (by first | rfl | simp) 99 (bcs (mkBs n [])).toArray)
          have HGL : Hid (w.heap.size ≤ wwq2.heap.size + 1) := Lib.hid (by have h := HOq5.out.size; first | exact h | (simp at h; omega))
          clear hO
          refine hK.out _ _ ?_ (fun hHeld => ?_)
          · exact ⟨⟨HBq6.out.cell 0, HBq6.out.cell 1⟩, ⟨HBq6.out.cell 2, HBq6.out.cell 3⟩, HBq6.out.cell 4⟩
          clear hK K
          try simp only [Act.put, List.setIfInBounds_toArray, List.set_cons_zero, List.set_cons_succ]
          refine wpAnyH_take (i := 9) (oi := { dst := some 21, op := Op.build 95 #[(1, Operand.tmp 12), (2, Operand.tmp 13), (3, Operand.tmp 19), (4, Operand.tmp 20)], type := 95, pos := "nand.go:43", after := #[{ on := 0, ground := Ground.data }, { on := 1, ground := Ground.data }, { on := 7, ground := Ground.data }, { on := 8, ground := Ground.data }], guard := none }) (v := ?_) rfl (by kernel_rfl) (by kernel_rfl) (by kernel_rfl) (fun _ _ _ h => h) (Or.inl ⟨by rfl, ?_⟩) (by assumption) ?_
          rotate_left
          · (intro w hSw; (try dsimp only at hSw); (try obtain ⟨hSa, hSb⟩ := hSw); go_simp; try with_reducible rfl)
          try simp only [Act.put, List.setIfInBounds_toArray, List.set_cons_zero, List.set_cons_succ]
          refine wpAnyH_ready (rs := [10]) (by kernel_rfl) (by simp) ?_
          refine AllReadyH.cons (o := { dst := some 22, op := Op.box 95 (Operand.tmp 21), type := 33, pos := "nand.go:43", after := #[{ on := 9, ground := Ground.data }], guard := none }) rfl (fun K hK => ?_) AllReadyH.nil
          go_simp
          have hO := (Only.refl (fun _ => False) ((wwq2.alloc (.map #[] 0)).alloc (.cells (bcs (mkBs n [])).toArray 99))).alloc (.cells #[.bool false, .int .i64 G.c, .int .i64 G.l, .int .i64 G.b, .int .i64 G.p, .int .i64 G.s, .pointer (some ⟨pp, 0, none⟩), .slice (some ⟨wwq2.heap.size + 1, 0, none⟩) n n, .map (some (wwq2.heap.size)), .int .i64 0] 95)
          have HBq6x := Lib.hid (HBq6.out.only hO id)
          have HOq6x := Lib.hid (HOq6.out.trans hO)
          have HPPq6x := Lib.hid (HPPq6.out.only hO id)
          have HPLq6x := HPLq6
          have HGBq6x := Lib.hid (HGBq6.out.only hO id)
          have HMPq6x := Lib.hid (map_at HMPq6.out hO id)
          have HXq6x := Lib.hid (At.new' (w := ((wwq2.alloc (.map #[] 0)).alloc (.cells (bcs (mkBs n [])).toArray 99))) (g := wwq2.heap.size + 1 + 1) (by first | rfl | simp) 95 #[.bool false, .int .i64 G.c, .int .i64 G.l, .int .i64 G.b, .int .i64 G.p, .int .i64 G.s, .pointer (some ⟨pp, 0, none⟩), .slice (some ⟨wwq2.heap.size + 1, 0, none⟩) n n, .map (some (wwq2.heap.size)), .int .i64 0])
          have HXL : Hid (w.heap.size ≤ wwq2.heap.size + 1 + 1) := Lib.hid (by have h := HOq6.out.size; first | exact h | (simp at h; omega))
          clear hO
          refine hK.out _ _ ?_ (fun hHeld => ?_)
          · exact ⟨⟨HBq6x.out.cell 0, HBq6x.out.cell 1⟩, ⟨HBq6x.out.cell 2, HBq6x.out.cell 3⟩, HBq6x.out.cell 4⟩
          clear hK K
          try simp only [Act.put, List.setIfInBounds_toArray, List.set_cons_zero, List.set_cons_succ]
          refine wpAnyH_take (i := 11) (oi := { dst := some 6, op := Op.assign (Operand.tmp 22), type := 33, pos := "nand.go:43", after := #[{ on := 10, ground := Ground.data }, { on := 3, ground := Ground.chain }, { on := 0, ground := Ground.phase }, { on := 1, ground := Ground.phase }, { on := 2, ground := Ground.phase }, { on := 3, ground := Ground.phase }, { on := 4, ground := Ground.phase }, { on := 5, ground := Ground.phase }, { on := 6, ground := Ground.phase }, { on := 7, ground := Ground.phase }, { on := 8, ground := Ground.phase }, { on := 9, ground := Ground.phase }, { on := 10, ground := Ground.phase }], guard := none }) (v := ?_) rfl (by kernel_rfl) (by kernel_rfl) (by kernel_rfl) (fun _ _ _ h => h) (Or.inl ⟨by rfl, ?_⟩) (by assumption) ?_
          rotate_left
          · (intro w hSw; (try dsimp only at hSw); (try obtain ⟨hSa, hSb⟩ := hSw); go_simp; try with_reducible rfl)
          try simp only [Act.put, List.setIfInBounds_toArray, List.set_cons_zero, List.set_cons_succ]
          refine wpAnyH_done (by kernel_rfl) ?_ _
          go_wp2_with (fail)
          go_meet
          exact ⟨wwq2.heap.size + 1 + 1, wwq2.heap.size + 1, wwq2.heap.size, pp, Ap, cp, rfl, ⟨by rw [mkBs_len]; exact HXq6x.out, HGBq6x.out, HMPq6x.out, HII.out, by rw [mkBs_len, HN.out]⟩, HPPq6x.out, ⟨HXL.out, HGL.out, HML.out, HPLq6x.out⟩, HOq6x.out⟩
      · skip
        have hmm := HMM.out
        go_simp
        clear hmm
        have hO := (Only.refl (fun _ => False) wwq1).alloc (.map #[] 0)
        have HBq7 := Lib.hid (HBq1.out.only hO id)
        have HOq7 := Lib.hid (HOq1.out.trans hO)
        have HPPq7 := Lib.hid (HPPq1.out.only hO id)
        have HPLq7 := HPLq1
        have HMPq7 := Lib.hid (map_new (wwq1) (wwq1.heap.size) (by first | rfl | simp))
        have HML : Hid (w.heap.size ≤ wwq1.heap.size) := Lib.hid (by have h := HOq1.out.size; first | exact h | (simp at h; omega))
        clear hO
        refine hK.out _ _ ?_ (fun hHeld => ?_)
        · exact ⟨⟨HBq7.out.cell 0, HBq7.out.cell 1⟩, ⟨HBq7.out.cell 2, HBq7.out.cell 3⟩, HBq7.out.cell 4⟩
        clear hK K
        try simp only [Act.put, List.setIfInBounds_toArray, List.set_cons_zero, List.set_cons_succ]
        refine wpAnyH_ready (rs := [3]) (by kernel_rfl) (by simp) ?_
        refine AllReadyH.cons (o := { dst := some 15, op := Op.call { callee := Callee.value (Operand.func 39), args := #[Operand.tmp 14], argTypes := #[23] }, type := 3, pos := "nand.go:43", after := #[{ on := 2, ground := Ground.data }, { on := 1, ground := Ground.chain }], guard := none }) rfl (fun K hK => ?_) AllReadyH.nil
        go_simp
        refine (HU.out _).mono ?_
        rintro e wwq8 ⟨rfl, hO⟩
        have HBq8 := Lib.hid (HBq7.out.only hO id)
        have HOq8 := Lib.hid (HOq7.out.trans hO)
        have HPPq8 := Lib.hid (HPPq7.out.only hO id)
        have HPLq8 := HPLq7
        have HMPq8 := Lib.hid (map_at HMPq7.out hO id)
        clear hO
        try simp only []
        refine hK.out _ _ ?_ (fun hHeld => ?_)
        · exact ⟨⟨HBq8.out.cell 0, HBq8.out.cell 1⟩, ⟨HBq8.out.cell 2, HBq8.out.cell 3⟩, HBq8.out.cell 4⟩
        clear hK K
        try simp only [Act.put, List.setIfInBounds_toArray, List.set_cons_zero, List.set_cons_succ]
        refine wpAnyH_take (i := 6) (oi := { dst := some 18, op := Op.binOp BinOp.mul 3 (Operand.tmp 15) (Operand.tmp 17) 3, type := 3, pos := "nand.go:43", after := #[{ on := 3, ground := Ground.data }, { on := 5, ground := Ground.data }], guard := none }) (v := ?_) rfl (by kernel_rfl) (by kernel_rfl) (by kernel_rfl) (fun _ _ _ h => h) (Or.inl ⟨by rfl, ?_⟩) (by assumption) ?_
        rotate_left
        · (intro w hSw; (try dsimp only at hSw); (try obtain ⟨hSa, hSb⟩ := hSw); go_simp; try with_reducible rfl)
        try simp only [Act.put, List.setIfInBounds_toArray, List.set_cons_zero, List.set_cons_succ]
        refine wpAnyH_ready (rs := [7]) (by kernel_rfl) (by simp) ?_
        refine AllReadyH.cons (o := { dst := some 19, op := Op.makeSlice 92 (Operand.tmp 18) (Operand.tmp 18), type := 92, pos := "nand.go:43", after := #[{ on := 6, ground := Ground.data }, { on := 6, ground := Ground.data }], guard := none }) rfl (fun K hK => ?_) AllReadyH.nil
        have hmk := HMK.out
        go_simp
        clear hmk
        have hO := (Only.refl (fun _ => False) wwq8).alloc (.cells (bcs (mkBs n [])).toArray 99)
        have HBq9 := Lib.hid (HBq8.out.only hO id)
        have HOq9 := Lib.hid (HOq8.out.trans hO)
        have HPPq9 := Lib.hid (HPPq8.out.only hO id)
        have HPLq9 := HPLq8
        have HMPq9 := Lib.hid (map_at HMPq8.out hO id)
        have HGBq9 := Lib.hid (At.new' (w := wwq8) (g := wwq8.heap.size) (by first | rfl | simp) 99 (bcs (mkBs n [])).toArray)
        have HGL : Hid (w.heap.size ≤ wwq8.heap.size) := Lib.hid (by have h := HOq8.out.size; first | exact h | (simp at h; omega))
        clear hO
        refine hK.out _ _ ?_ (fun hHeld => ?_)
        · exact ⟨⟨HBq9.out.cell 0, HBq9.out.cell 1⟩, ⟨HBq9.out.cell 2, HBq9.out.cell 3⟩, HBq9.out.cell 4⟩
        clear hK K
        try simp only [Act.put, List.setIfInBounds_toArray, List.set_cons_zero, List.set_cons_succ]
        refine wpAnyH_take (i := 9) (oi := { dst := some 21, op := Op.build 95 #[(1, Operand.tmp 12), (2, Operand.tmp 13), (3, Operand.tmp 19), (4, Operand.tmp 20)], type := 95, pos := "nand.go:43", after := #[{ on := 0, ground := Ground.data }, { on := 1, ground := Ground.data }, { on := 7, ground := Ground.data }, { on := 8, ground := Ground.data }], guard := none }) (v := ?_) rfl (by kernel_rfl) (by kernel_rfl) (by kernel_rfl) (fun _ _ _ h => h) (Or.inl ⟨by rfl, ?_⟩) (by assumption) ?_
        rotate_left
        · (intro w hSw; (try dsimp only at hSw); (try obtain ⟨hSa, hSb⟩ := hSw); go_simp; try with_reducible rfl)
        try simp only [Act.put, List.setIfInBounds_toArray, List.set_cons_zero, List.set_cons_succ]
        refine wpAnyH_ready (rs := [10]) (by kernel_rfl) (by simp) ?_
        refine AllReadyH.cons (o := { dst := some 22, op := Op.box 95 (Operand.tmp 21), type := 33, pos := "nand.go:43", after := #[{ on := 9, ground := Ground.data }], guard := none }) rfl (fun K hK => ?_) AllReadyH.nil
        go_simp
        have hO := (Only.refl (fun _ => False) (wwq8.alloc (.cells (bcs (mkBs n [])).toArray 99))).alloc (.cells #[.bool false, .int .i64 G.c, .int .i64 G.l, .int .i64 G.b, .int .i64 G.p, .int .i64 G.s, .pointer (some ⟨pp, 0, none⟩), .slice (some ⟨wwq8.heap.size, 0, none⟩) n n, .map (some (wwq1.heap.size)), .int .i64 0] 95)
        have HBq9x := Lib.hid (HBq9.out.only hO id)
        have HOq9x := Lib.hid (HOq9.out.trans hO)
        have HPPq9x := Lib.hid (HPPq9.out.only hO id)
        have HPLq9x := HPLq9
        have HGBq9x := Lib.hid (HGBq9.out.only hO id)
        have HMPq9x := Lib.hid (map_at HMPq9.out hO id)
        have HXq9x := Lib.hid (At.new' (w := (wwq8.alloc (.cells (bcs (mkBs n [])).toArray 99))) (g := wwq8.heap.size + 1) (by first | rfl | simp) 95 #[.bool false, .int .i64 G.c, .int .i64 G.l, .int .i64 G.b, .int .i64 G.p, .int .i64 G.s, .pointer (some ⟨pp, 0, none⟩), .slice (some ⟨wwq8.heap.size, 0, none⟩) n n, .map (some (wwq1.heap.size)), .int .i64 0])
        have HXL : Hid (w.heap.size ≤ wwq8.heap.size + 1) := Lib.hid (by have h := HOq9.out.size; first | exact h | (simp at h; omega))
        clear hO
        refine hK.out _ _ ?_ (fun hHeld => ?_)
        · exact ⟨⟨HBq9x.out.cell 0, HBq9x.out.cell 1⟩, ⟨HBq9x.out.cell 2, HBq9x.out.cell 3⟩, HBq9x.out.cell 4⟩
        clear hK K
        try simp only [Act.put, List.setIfInBounds_toArray, List.set_cons_zero, List.set_cons_succ]
        refine wpAnyH_take (i := 11) (oi := { dst := some 6, op := Op.assign (Operand.tmp 22), type := 33, pos := "nand.go:43", after := #[{ on := 10, ground := Ground.data }, { on := 3, ground := Ground.chain }, { on := 0, ground := Ground.phase }, { on := 1, ground := Ground.phase }, { on := 2, ground := Ground.phase }, { on := 3, ground := Ground.phase }, { on := 4, ground := Ground.phase }, { on := 5, ground := Ground.phase }, { on := 6, ground := Ground.phase }, { on := 7, ground := Ground.phase }, { on := 8, ground := Ground.phase }, { on := 9, ground := Ground.phase }, { on := 10, ground := Ground.phase }], guard := none }) (v := ?_) rfl (by kernel_rfl) (by kernel_rfl) (by kernel_rfl) (fun _ _ _ h => h) (Or.inl ⟨by rfl, ?_⟩) (by assumption) ?_
        rotate_left
        · (intro w hSw; (try dsimp only at hSw); (try obtain ⟨hSa, hSb⟩ := hSw); go_simp; try with_reducible rfl)
        try simp only [Act.put, List.setIfInBounds_toArray, List.set_cons_zero, List.set_cons_succ]
        refine wpAnyH_done (by kernel_rfl) ?_ _
        go_wp2_with (fail)
        go_meet
        exact ⟨wwq8.heap.size + 1, wwq8.heap.size, wwq1.heap.size, pp, Ap, cp, rfl, ⟨by rw [mkBs_len]; exact HXq9x.out, HGBq9x.out, HMPq9x.out, HII.out, by rw [mkBs_len, HN.out]⟩, HPPq9x.out, ⟨HXL.out, HGL.out, HML.out, HPLq9x.out⟩, HOq9x.out⟩
    · skip
      have hmm := HMM.out
      go_simp
      clear hmm
      have hO := (Only.refl (fun _ => False) w1).drew.alloc (.map #[] 0)
      have HBq10 := Lib.hid (HB1.out.only hO id)
      have HOq10 := Lib.hid (HO1.out.trans hO)
      have HMPq10 := Lib.hid (map_new (w1.drew) (w1.heap.size) (by first | rfl | simp))
      have HML : Hid (w.heap.size ≤ w1.heap.size) := Lib.hid (by have h := HO1.out.size; first | exact h | (simp at h; omega))
      clear hO
      refine hK.out _ _ ?_ (fun hHeld => ?_)
      · exact ⟨⟨HBq10.out.cell 0, HBq10.out.cell 1⟩, ⟨HBq10.out.cell 2, HBq10.out.cell 3⟩, HBq10.out.cell 4⟩
      clear hK K
      try simp only [Act.put, List.setIfInBounds_toArray, List.set_cons_zero, List.set_cons_succ]
      refine wpAnyH_ready (rs := [1]) (by kernel_rfl) (by simp) ?_
      refine AllReadyH.cons (o := { dst := some 13, op := Op.call { callee := Callee.value (Operand.func 38), args := #[Operand.const (Value.slice none 0 0)], argTypes := #[27] }, type := 91, pos := "nand.go:43", after := #[], guard := none }) rfl (fun K hK => ?_) AllReadyH.nil
      go_simp
      refine (HPN.out _).mono ?_
      rintro e wwq11 ⟨pp, Ap, cp, rfl, hp, hpl, hO⟩
      have hOd := hO
      have HBq11 := Lib.hid (HBq10.out.only hOd id)
      have HOq11 := Lib.hid (HOq10.out.trans hOd)
      have HMPq11 := Lib.hid (map_at HMPq10.out hOd id)
      have HPPq11 := Lib.hid hp
      have HPLq11 : Hid (w.heap.size ≤ pp) := Lib.hid (by have h1 := HOq10.out.size; have h2 : ((w1.drew.alloc (.map #[] 0))).heap.size ≤ pp := hpl; first | omega | (have h3 : ((w1.drew.alloc (.map #[] 0))).heap.size = (w1.drew.alloc (.map #[] 0)).heap.size := rfl; omega))
      clear hO hp hpl hOd
      try simp only []
      refine hK.out _ _ ?_ (fun hHeld => ?_)
      · exact ⟨⟨HBq11.out.cell 0, HBq11.out.cell 1⟩, ⟨HBq11.out.cell 2, HBq11.out.cell 3⟩, HBq11.out.cell 4⟩
      clear hK K
      try simp only [Act.put, List.setIfInBounds_toArray, List.set_cons_zero, List.set_cons_succ]
      refine wpAnyH_ready (rs := [3]) (by kernel_rfl) (by simp) ?_
      refine AllReadyH.cons (o := { dst := some 15, op := Op.call { callee := Callee.value (Operand.func 39), args := #[Operand.tmp 14], argTypes := #[23] }, type := 3, pos := "nand.go:43", after := #[{ on := 2, ground := Ground.data }, { on := 1, ground := Ground.chain }], guard := none }) rfl (fun K hK => ?_) AllReadyH.nil
      go_simp
      refine (HU.out _).mono ?_
      rintro e wwq12 ⟨rfl, hO⟩
      have HBq12 := Lib.hid (HBq11.out.only hO id)
      have HOq12 := Lib.hid (HOq11.out.trans hO)
      have HPPq12 := Lib.hid (HPPq11.out.only hO id)
      have HPLq12 := HPLq11
      have HMPq12 := Lib.hid (map_at HMPq11.out hO id)
      clear hO
      try simp only []
      refine hK.out _ _ ?_ (fun hHeld => ?_)
      · exact ⟨⟨HBq12.out.cell 0, HBq12.out.cell 1⟩, ⟨HBq12.out.cell 2, HBq12.out.cell 3⟩, HBq12.out.cell 4⟩
      clear hK K
      try simp only [Act.put, List.setIfInBounds_toArray, List.set_cons_zero, List.set_cons_succ]
      refine wpAnyH_take (i := 6) (oi := { dst := some 18, op := Op.binOp BinOp.mul 3 (Operand.tmp 15) (Operand.tmp 17) 3, type := 3, pos := "nand.go:43", after := #[{ on := 3, ground := Ground.data }, { on := 5, ground := Ground.data }], guard := none }) (v := ?_) rfl (by kernel_rfl) (by kernel_rfl) (by kernel_rfl) (fun _ _ _ h => h) (Or.inl ⟨by rfl, ?_⟩) (by assumption) ?_
      rotate_left
      · (intro w hSw; (try dsimp only at hSw); (try obtain ⟨hSa, hSb⟩ := hSw); go_simp; try with_reducible rfl)
      try simp only [Act.put, List.setIfInBounds_toArray, List.set_cons_zero, List.set_cons_succ]
      refine wpAnyH_ready (rs := [7]) (by kernel_rfl) (by simp) ?_
      refine AllReadyH.cons (o := { dst := some 19, op := Op.makeSlice 92 (Operand.tmp 18) (Operand.tmp 18), type := 92, pos := "nand.go:43", after := #[{ on := 6, ground := Ground.data }, { on := 6, ground := Ground.data }], guard := none }) rfl (fun K hK => ?_) AllReadyH.nil
      have hmk := HMK.out
      go_simp
      clear hmk
      have hO := (Only.refl (fun _ => False) wwq12).alloc (.cells (bcs (mkBs n [])).toArray 99)
      have HBq13 := Lib.hid (HBq12.out.only hO id)
      have HOq13 := Lib.hid (HOq12.out.trans hO)
      have HPPq13 := Lib.hid (HPPq12.out.only hO id)
      have HPLq13 := HPLq12
      have HMPq13 := Lib.hid (map_at HMPq12.out hO id)
      have HGBq13 := Lib.hid (At.new' (w := wwq12) (g := wwq12.heap.size) (by first | rfl | simp) 99 (bcs (mkBs n [])).toArray)
      have HGL : Hid (w.heap.size ≤ wwq12.heap.size) := Lib.hid (by have h := HOq12.out.size; first | exact h | (simp at h; omega))
      clear hO
      refine hK.out _ _ ?_ (fun hHeld => ?_)
      · exact ⟨⟨HBq13.out.cell 0, HBq13.out.cell 1⟩, ⟨HBq13.out.cell 2, HBq13.out.cell 3⟩, HBq13.out.cell 4⟩
      clear hK K
      try simp only [Act.put, List.setIfInBounds_toArray, List.set_cons_zero, List.set_cons_succ]
      refine wpAnyH_take (i := 9) (oi := { dst := some 21, op := Op.build 95 #[(1, Operand.tmp 12), (2, Operand.tmp 13), (3, Operand.tmp 19), (4, Operand.tmp 20)], type := 95, pos := "nand.go:43", after := #[{ on := 0, ground := Ground.data }, { on := 1, ground := Ground.data }, { on := 7, ground := Ground.data }, { on := 8, ground := Ground.data }], guard := none }) (v := ?_) rfl (by kernel_rfl) (by kernel_rfl) (by kernel_rfl) (fun _ _ _ h => h) (Or.inl ⟨by rfl, ?_⟩) (by assumption) ?_
      rotate_left
      · (intro w hSw; (try dsimp only at hSw); (try obtain ⟨hSa, hSb⟩ := hSw); go_simp; try with_reducible rfl)
      try simp only [Act.put, List.setIfInBounds_toArray, List.set_cons_zero, List.set_cons_succ]
      refine wpAnyH_ready (rs := [10]) (by kernel_rfl) (by simp) ?_
      refine AllReadyH.cons (o := { dst := some 22, op := Op.box 95 (Operand.tmp 21), type := 33, pos := "nand.go:43", after := #[{ on := 9, ground := Ground.data }], guard := none }) rfl (fun K hK => ?_) AllReadyH.nil
      go_simp
      have hO := (Only.refl (fun _ => False) (wwq12.alloc (.cells (bcs (mkBs n [])).toArray 99))).alloc (.cells #[.bool false, .int .i64 G.c, .int .i64 G.l, .int .i64 G.b, .int .i64 G.p, .int .i64 G.s, .pointer (some ⟨pp, 0, none⟩), .slice (some ⟨wwq12.heap.size, 0, none⟩) n n, .map (some (w1.heap.size)), .int .i64 0] 95)
      have HBq13x := Lib.hid (HBq13.out.only hO id)
      have HOq13x := Lib.hid (HOq13.out.trans hO)
      have HPPq13x := Lib.hid (HPPq13.out.only hO id)
      have HPLq13x := HPLq13
      have HGBq13x := Lib.hid (HGBq13.out.only hO id)
      have HMPq13x := Lib.hid (map_at HMPq13.out hO id)
      have HXq13x := Lib.hid (At.new' (w := (wwq12.alloc (.cells (bcs (mkBs n [])).toArray 99))) (g := wwq12.heap.size + 1) (by first | rfl | simp) 95 #[.bool false, .int .i64 G.c, .int .i64 G.l, .int .i64 G.b, .int .i64 G.p, .int .i64 G.s, .pointer (some ⟨pp, 0, none⟩), .slice (some ⟨wwq12.heap.size, 0, none⟩) n n, .map (some (w1.heap.size)), .int .i64 0])
      have HXL : Hid (w.heap.size ≤ wwq12.heap.size + 1) := Lib.hid (by have h := HOq13.out.size; first | exact h | (simp at h; omega))
      clear hO
      refine hK.out _ _ ?_ (fun hHeld => ?_)
      · exact ⟨⟨HBq13x.out.cell 0, HBq13x.out.cell 1⟩, ⟨HBq13x.out.cell 2, HBq13x.out.cell 3⟩, HBq13x.out.cell 4⟩
      clear hK K
      try simp only [Act.put, List.setIfInBounds_toArray, List.set_cons_zero, List.set_cons_succ]
      refine wpAnyH_take (i := 11) (oi := { dst := some 6, op := Op.assign (Operand.tmp 22), type := 33, pos := "nand.go:43", after := #[{ on := 10, ground := Ground.data }, { on := 3, ground := Ground.chain }, { on := 0, ground := Ground.phase }, { on := 1, ground := Ground.phase }, { on := 2, ground := Ground.phase }, { on := 3, ground := Ground.phase }, { on := 4, ground := Ground.phase }, { on := 5, ground := Ground.phase }, { on := 6, ground := Ground.phase }, { on := 7, ground := Ground.phase }, { on := 8, ground := Ground.phase }, { on := 9, ground := Ground.phase }, { on := 10, ground := Ground.phase }], guard := none }) (v := ?_) rfl (by kernel_rfl) (by kernel_rfl) (by kernel_rfl) (fun _ _ _ h => h) (Or.inl ⟨by rfl, ?_⟩) (by assumption) ?_
      rotate_left
      · (intro w hSw; (try dsimp only at hSw); (try obtain ⟨hSa, hSb⟩ := hSw); go_simp; try with_reducible rfl)
      try simp only [Act.put, List.setIfInBounds_toArray, List.set_cons_zero, List.set_cons_succ]
      refine wpAnyH_done (by kernel_rfl) ?_ _
      go_wp2_with (fail)
      go_meet
      exact ⟨wwq12.heap.size + 1, wwq12.heap.size, w1.heap.size, pp, Ap, cp, rfl, ⟨by rw [mkBs_len]; exact HXq13x.out, HGBq13x.out, HMPq13x.out, HII.out, by rw [mkBs_len, HN.out]⟩, HPPq13x.out, ⟨HXL.out, HGL.out, HML.out, HPLq13x.out⟩, HOq13x.out⟩
  case rest =>
  obtain ⟨d, gb, mp, pp, Ap, cp, rfl, hk, hpp, hge, hO⟩ := hcut
  have HK := Lib.hid hk
  have HP := Lib.hid hpp
  have HGE := Lib.hid hge
  have HO := Lib.hid hO
  obtain ⟨wS, hwS⟩ : ∃ wS, wS = wc := ⟨_, rfl⟩
  subst hwS
  obtain ⟨N, hN⟩ : ∃ N, bad.length = N := ⟨_, rfl⟩
  have HNB := Lib.hid hN
  rw [hN] at hb100 ⊢
  clear hk hpp hge hO hN HRG HU HPN HMK HMM HB1 HO1
  go_wp2_with (fail)
  go_loopw [8, 25] (fun v8 v25 wr => ∃ i : Nat, i ≤ N ∧ v25 = .int .i64 i ∧ NAt wr d gb mp pp G (mkBs n (bad.take i)) #[] 0 ∧ (∀ z ∈ bad.take i, 0 ≤ z ∧ z < (n : Int)) ∧ At wr pp 171 #[.slice Ap 0 cp, .int .i64 0] ∧ Only (fun _ => False) w wr) (fun _ v25 _ => (N - intOf v25).toNat)
  case atStart => exact ⟨0, by omega, rfl, HK.out, fun z hz => by simp at hz, HP.out, HO.out⟩
  case round =>
    obtain ⟨i, hi, rfl, hk, hall, hpp, hO⟩ := hrel
    have HKi := Lib.hid hk
    have HAL := Lib.hid hall
    have HPi := Lib.hid hpp
    have HOi := Lib.hid hO
    clear hk hall hpp hO HK HP HO
    by_cases hin : i < N
    · have i1 : (i : Int) < N := by omega
      have i0 : (0 : Int) ≤ i := by omega
      have hib : i < bad.length := by rw [HNB.out]; exact hin
      have hbl : bad.map (Value.int .i64) ≠ [] := by
        intro e
        have h := congrArg List.length e
        simp at h
        rw [h] at hib
        simp at hib
      obtain ⟨off, rfl, _, hcb⟩ := (HR.out.only HOi.out id).at hbl
      clear hbl
      have hz0 := hcb i (.int .i64 bad[i]) (by simp [hib])
      have HTK : Hid (bad.take (i + 1) = bad.take i ++ [bad[i]]) := Lib.hid (by rw [List.take_add_one, List.getElem?_eq_getElem hib]; rfl)
      have HMEM : Hid (bad[i] ∈ bad) := Lib.hid (List.getElem_mem hib)
      generalize bad[i] = z at *
      have c7 := HKi.out.st.cell 7
      simp only [List.getElem?_toArray, List.getElem?_cons_zero, List.getElem?_cons_succ, mkBs_len] at c7
      clear hcb
      by_cases hzb : z < 0 ∨ (n : Int) ≤ z
      · have HZB := Lib.hid hzb
        have hzb : z < 0 ∨ (¬ z < 0 ∧ (n : Int) ≤ z) := by omega
        rcases hzb with h | ⟨h, h'⟩
        · have d1 : decide (z < 0) = true := by simp [h]
          go_wp2
          go_ret2
          exact .inr ⟨⟨z, HMEM.out, HZB.out⟩, rfl, HOi.out⟩
        · have d1 : decide (z < 0) = false := decide_eq_false h
          have d2 : decide ((n : Int) ≤ z) = true := by simp [h']
          go_wp2
          go_ret2
          exact .inr ⟨⟨z, HMEM.out, HZB.out⟩, rfl, HOi.out⟩
      · obtain ⟨q, rfl⟩ : ∃ q : Nat, z = q := ⟨z.toNat, by omega⟩
        have hq : q < n := by omega
        have d1 : decide ((q : Int) < 0) = false := decide_eq_false (by omega)
        have d2 : decide ((n : Int) ≤ q) = false := decide_eq_false (by omega)
        have d2' : decide (n ≤ q) = false := decide_eq_false (by omega)
        have q0 : (0 : Int) ≤ q := by omega
        have q1 : (q : Int) < n := by omega
        have y := HKi.out.cell q 2 (by rw [mkBs_len]; exact hq) (by omega)
        simp only [Bk.cells, List.getElem?_cons_zero, List.getElem?_cons_succ] at y
        have yf := HKi.out.row.frozen (q * 3 + 2)
        have HKN := Lib.hid (HKi.out.retire q hq)
        have HALN : Hid (∀ z ∈ bad.take (i + 1), 0 ≤ z ∧ z < (n : Int)) := Lib.hid (fun z hz => by
          rw [HTK.out] at hz
          rcases List.mem_append.1 hz with h | h
          · exact HAL.out z h
          · simp at h; omega)
        have hpg : pp ≠ gb := HPi.out.ne HKi.out.row (by decide)
        generalize ((mkBs n (List.take i bad))[q]'(by rw [mkBs_len]; exact hq)).r = bb at y
        clear hzb
        go_wp2
        go_roundw
        case rel => exact ⟨i + 1, by omega, by simp, by rw [HTK.out]; exact HKN.out, HALN.out, HPi.out.only ((Only.refl (fun i => i = gb) wr).setCell (p := ⟨gb, q * 3 + 2, none⟩) (fun _ => rfl) _) hpg, HOi.out.setCell (p := ⟨gb, q * 3 + 2, none⟩) (fun h => by have := HGE.out.2.1; simp at h; omega) _⟩
        case measure => simp [intOf]; omega
    · obtain rfl : i = N := by omega
      have i1 : decide ((i : Int) < i) = false := by simp
      have htk : bad.take i = bad := by rw [← HNB.out]; exact List.take_length
      rw [htk] at HKi HAL
      clear htk
      go_wp2
      go_ret2
      exact .inl ⟨HAL.out, d, gb, mp, pp, rfl, HKi.out, ⟨Ap, cp, HPi.out⟩, HGE.out, HOi.out⟩
end Go.Proofs.YtjobaplioidogaaGreat
