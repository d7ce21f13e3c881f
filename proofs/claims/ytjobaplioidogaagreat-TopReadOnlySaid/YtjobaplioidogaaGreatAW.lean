/- Top: a page is programmed. -/
import Derived.Test.YtjobaplioidogaaGreatAV
namespace Go.Proofs.YtjobaplioidogaaGreat
open Go.RowKit

theorem ins_sector {W : World} {b ck : Nat} {es : Array MapEntry} {z : Int} {v : Value} (hb : W.heap[b]? = some (.map es ck)) (hf : Instr.findNow (.int .i64) (.int .i64 z) es.toList 0 = some none) :
    (Instr.mapUpdate 93 (.map (some b)) (.int .i64 z) v).run Tryz.prog W = .ok () (wm W b (.map (es.push ⟨.int .i64 z, v, ck⟩) (ck + 1))) := by
  have h1 := MapKept.run_findKey (P := Tryz.prog) (w := W) (kt := 3) Tryz.underlying3 hf
  have h2 : Tryz.prog.underlying 93 = some (.map 3 122) := Tryz.underlying93
  simp only [Instr.mapUpdate, run_underlying h2, MapKept.run_getObj_map hb, check_int Tryz.underlying3, h1, Sem.run_bind, Result.andThen]
  show (setObj b _).run Tryz.prog W = _
  simp only [setObj, Sem.run, hb, wm]

def oneBs : List Bk := [⟨1, 0, false⟩, ⟨0, 0, false⟩]
def noBs : List Bk := [⟨0, 0, false⟩, ⟨0, 0, false⟩]
def oneE (A B : Option Addr) (c c' : Nat) : Array MapEntry := #[⟨.int .i64 0, .agg #[.slice A 16 c, .slice B 17 c'], 0⟩]

theorem Only.of_grown' {w w' : World} {b : Nat} (h : w.grownBy w' (some b)) : Only (fun i => i = b) w w' := (Only.of_grown h).mono (fun i _ e => by simpa using e)
theorem Rd.c0 {w : World} {g g' o : Nat} {x : Value} {xs : List Value} (h : Rd w g (some ⟨g', o, none⟩) (x :: xs)) : w.cell? ⟨g', o, none⟩ = some x := by
  obtain ⟨o', e, _, hc⟩ := h.at (by simp)
  injection e with e
  injection e with e1 e2 _
  subst e1; subst e2
  exact hc 0 _ rfl
theorem Rd.lt2 {w : World} {g g' o : Nat} {xs : List Value} (h : Rd w g (some ⟨g', o, none⟩) xs) (hne : xs ≠ []) : g < w.heap.size := by
  obtain ⟨_, _, hl, _⟩ := h.at hne
  exact hl
theorem step_append_own {P : Program} {ops : Array Oper} {o : Oper} {a : Act} {w : World} {K : Act → World → Prop} {Q : Exit → Act → World → Prop} {E : Prop} (hgd : o.guard = none) (s x : Operand) (t : TypeId)
    (ho : o.op = Op.call { callee := Callee.builtin Builtin.append, args := #[s, x], argTypes := #[t, t] })
    (e : TypeId) (i : TypeInfo) (z : Value) (ht : P.underlying t = some (.slice e)) (hi : P.info? e = some i) (hz : i.zero = some z)
    (hsize : i.size = 1) (hby : i.bytes = 1) (hzs : z.cells.size = 1)
    (b : Nat) (hs : a.eval s = .slice (some ⟨b, 0, none⟩) 0 0) (hb : At w b e #[])
    (g : Nat) (A : Option Addr) (m c : Nat) (news : List Value) (hx : a.eval x = .slice A m c) (hl : news.length = m) (hne : news ≠ []) (hr : Rd w g A news) (h1 : ∀ u ∈ news, u.oneCell' = true) (hm : m ≤ 1000)
    (h : ∀ g' c' w', m ≤ c' → Rd w' g' (some ⟨g', 0, none⟩) news → Only (fun i => i = b) w w' → (g' = b ∨ g' = w.heap.size) → K (a.put o.dst (.slice (some ⟨g', 0, none⟩) m c')) w') :
    if Region.wanted o (yielded ops a.tmps) = true then Oper.wp P o a w K Q else E := by
  have hw : Region.wanted o (yielded ops a.tmps) = true := by simp [Region.wanted, hgd]
  rw [if_pos hw]
  obtain ⟨v', w', hrun, h2, h3, h4⟩ := run_append_src (P := P) w b t o.type e i z 1 1 ht hi hz hsize hby hzs (by omega) (.slice (some ⟨b, 0, none⟩) 0 0) 0 [] (own_fresh hb (Nat.le_refl _) 1) g A m c news (by omega) hr h1 (by unfold maxLen; omega) (by omega) (Nat.le_of_lt hb.lt)
  unfold Oper.wp execOp
  simp only [ho, resolve, invoke, builtin, Sem.run_bind, Sem.run_pure, Result.andThen_ok, List.map_toArray, List.map_cons, List.map_nil, hs, hx, hrun]
  obtain ⟨A', c', rfl, hc⟩ := ownsRow_form h2
  rw [Nat.zero_add] at h2 h4 ⊢
  rw [List.nil_append] at h2
  rcases h2.2 with ⟨he, hx'⟩ | ⟨g', cap, cur, he, hb', hg, _, _, hs', hx'⟩
  · exact absurd (List.eq_nil_of_length_eq_zero (hl.trans hx')) hne
  · injection he with hA _ _
    subst hA
    refine h g' _ w' (by omega) (.inr ⟨0, rfl, (Array.getElem?_eq_some_iff.1 hg).1, fun j u hu => ?_⟩) (Only.of_grown' h3) ?_
    · rw [Nat.zero_add, cell_of_row w' g' j cur e (0, 0) hg]
      rw [← hx', List.getElem?_take] at hu
      split at hu
      · simpa using hu
      · cases hu
    · simpa [Value.ownBlock] using h4

def ProgP (lo : List Value) (d gb mp pp : Nat) (w : World) (e : Ending) (w' : World) : Prop :=
  e = .returned (.int .i64 0) ∧ ∃ A3 c3 g3 A4 c4 g4, NAt w' d gb mp pp gq oneBs (oneE A3 A4 c3 c4) 1 ∧ Rd w' g3 A3 (bv datL) ∧ Rd w' g4 A4 lo ∧ Only (fun i => i = gb ∨ i = pp ∨ i = mp) w w'

set_option maxRecDepth 100000 in
set_option maxHeartbeats 16000000 in
theorem program_one (lo : List Value) (hlo : lo.length = 17) (h1 : ∀ u ∈ lo, u.oneCell' = true) (d gb mp pp : Nat) (A1 A2 A3 A4 : Option Addr) (c1 c2 c3 c4 g1 g2 g3 g4 : Nat) (w : World) (k : NAt w d gb mp pp gq noBs #[] 0) (Ap : Option Addr) (cp : Nat) (hp : At w pp 171 #[.slice Ap 0 cp, .int .i64 0])
    (hr1 : Rd w g1 A1 [.slice A3 16 c3]) (hr2 : Rd w g2 A2 [.slice A4 17 c4]) (hr3 : Rd w g3 A3 (bv datL)) (hr4 : Rd w g4 A4 lo) (hne : ∀ g, g = g1 ∨ g = g2 ∨ g = g3 ∨ g = g4 → ¬ (g = gb ∨ g = pp ∨ g = mp)) :
    Calls Tryz.prog 19 #[.pointer (some ⟨d, 0, none⟩), .int .i64 0, .int .i64 0, .int .i64 0, .slice A1 1 c1, .slice A2 1 c2] w (ProgP lo d gb mp pp w) := by
  have HFD : Hid (Calls Tryz.prog 44 #[.pointer (some ⟨d, 0, none⟩), .int .i64 0, .int .i64 0] w fun e w' => e = .returned (.pointer (some ⟨gb, 0, none⟩)) ∧ Only (fun _ => False) w w') := Lib.hid (find_any d gb mp pp gq noBs #[] 0 0 0 (by decide) (by decide) w k)
  have HSZ1 := Lib.hid (fun W h => sized_one A1 A3 c1 c3 g1 16 W h)
  have HSZ2 := Lib.hid (fun W h => sized_one A2 A4 c2 c4 g2 17 W h)
  obtain ⟨o1, rfl, hg1, -⟩ := hr1.at (by simp)
  obtain ⟨o2, rfl, hg2, -⟩ := hr2.at (by simp)
  obtain ⟨o3, rfl, hg3, -⟩ := hr3.at (by simp [bv, datL])
  obtain ⟨o4, rfl, hg4, -⟩ := hr4.at (by intro e; rw [e] at hlo; simp at hlo)
  have HGL := Lib.hid (And.intro hg1 (And.intro hg2 (And.intro hg3 hg4)))
  clear hg1 hg2 hg3 hg4
  have HNX := Lib.hid (fun W h => next_fresh pp Ap cp W h)
  have HNU := Lib.hid (fun W => number_zero W)
  have HEN := Lib.hid (fun p f W => end_good p f W)
  have HD : Hid (At w d 95 #[.bool false, .int .i64 1, .int .i64 1, .int .i64 2, .int .i64 2, .int .i64 1, .pointer (some ⟨pp, 0, none⟩), .slice (some ⟨gb, 0, none⟩) 2 2, .map (some mp), .int .i64 0]) := Lib.hid k.st
  have HR : Hid (At w gb 99 #[.int .i64 0, .int .i64 0, .bool false, .int .i64 0, .int .i64 0, .bool false]) := Lib.hid k.row
  have HM := Lib.hid k.mp
  have HPL := Lib.hid hp
  have HK := Lib.hid k
  have hdg : d ≠ gb := k.st.ne k.row (by decide)
  have hdp : d ≠ pp := k.st.ne hp (by decide)
  have hgp : gb ≠ pp := k.row.ne hp (by decide)
  have hmd : mp ≠ d := fun e => by have h1 := k.mp; have h2 : w.heap[d]? = _ := k.st; rw [e, h2] at h1; cases h1
  have hmg : mp ≠ gb := fun e => by have h1 := k.mp; have h2 : w.heap[gb]? = _ := k.row; rw [e, h2] at h1; cases h1
  have hmp : mp ≠ pp := fun e => by have h1 := k.mp; have h2 : w.heap[pp]? = _ := hp; rw [e, h2] at h1; cases h1
  have HNE := Lib.hid (And.intro hdg (And.intro hdp (And.intro hgp (And.intro hmd (And.intro hmg hmp)))))
  have HQ1 := Lib.hid hr1
  have HQ2 := Lib.hid hr2
  have HQ3 := Lib.hid hr3
  have HQ4 := Lib.hid hr4
  have HNG := Lib.hid hne
  have HL3 := Lib.hid (show (bv datL).length = 16 from rfl)
  have HB3 := Lib.hid (bv_one datL)
  have HL4 := Lib.hid hlo
  have HB4 := Lib.hid h1
  obtain ⟨i0, hi0⟩ : ∃ i, Tryz.prog.info? 5 = some i := ⟨_, rfl⟩
  have HI := Lib.hid (And.intro hi0 (And.intro (show i0.zero = some (.int .u8 0) by cases hi0; rfl) (And.intro (show i0.size = 1 by cases hi0; rfl) (show i0.bytes = 1 by cases hi0; rfl))))
  unfold ProgP
  generalize bv datL = ld at *
  clear k hp hr1 hr2 hr3 hr4 hne hdg hdp hgp hmd hmg hmp hi0 hlo h1
  have x0 := HD.out.cell 0
  simp only [List.getElem?_toArray, List.getElem?_cons_zero, List.getElem?_cons_succ] at x0
  go_enter Tryz.func19, Tryz.ntmps19
  go_wp2_with (fail)
  refine HFD.out.mono ?_
  rintro e w1 ⟨rfl, hO⟩
  have HD1 := Lib.hid (HD.out.only hO id)
  have HR1 := Lib.hid (HR.out.only hO id)
  have HPL1 := Lib.hid (HPL.out.only hO id)
  have HM1 := Lib.hid (map_at HM.out hO id)
  have HO1 := Lib.hid hO
  clear hO x0
  have x4 := HD1.out.cell 4
  have x5 := HD1.out.cell 5
  simp only [List.getElem?_toArray, List.getElem?_cons_zero, List.getElem?_cons_succ] at x4 x5
  go_wp2_with (fail)
  refine (HSZ1.out _ (HQ1.out.only HO1.out id)).mono ?_
  rintro e w2 ⟨rfl, rfl⟩
  go_wp2_with (fail)
  refine (HSZ2.out _ (HQ2.out.only HO1.out id)).mono ?_
  rintro e w3 ⟨rfl, rfl⟩
  have y0 := HR1.out.cell 0
  have y2 := HR1.out.cell 2
  have f0 := HR1.out.frozen 0
  simp only [List.getElem?_toArray, List.getElem?_cons_zero, List.getElem?_cons_succ] at y0 y2
  go_upto_region 11 with (fail)
  clear x4 x5 y0 y2 f0
  have HD2 := Lib.hid (HD1.out.far (p := ⟨gb, 0, none⟩) HNE.out.1 (.int .i64 1))
  have hR := HR1.out.set 0 (.int .i64 1)
  simp only [List.setIfInBounds_toArray, List.set_cons_zero, List.set_cons_succ] at hR
  have HR2 := Lib.hid hR
  clear hR
  have HPL2 := Lib.hid (HPL1.out.far (p := ⟨gb, 0, none⟩) (fun e => HNE.out.2.2.1 e.symm) (.int .i64 1))
  obtain ⟨W, hW⟩ : ∃ W', W' = w3.setCell ⟨gb, 0, none⟩ (.int .i64 1) := ⟨_, rfl⟩
  have hO2 : Only (fun i => i = gb ∨ i = pp ∨ i = mp) w W := by
    rw [hW]; exact (HO1.out.mono (fun _ _ h => h.elim)).setCell (p := ⟨gb, 0, none⟩) (fun _ => .inl rfl) _
  have HO2 := Lib.hid hO2
  have HM2 : Hid (W.heap[mp]? = some (.map #[] 0)) := Lib.hid (by
    have o := (Only.refl (fun i => i = gb) w3).setCell (p := ⟨gb, 0, none⟩) (fun _ => rfl) (.int .i64 1)
    rw [← hW] at o
    exact map_at HM1.out o HNE.out.2.2.2.2.1)
  rw [← hW] at HD2 HR2 HPL2 ⊢
  clear hW hO2
  have HDs := Lib.hid HD2.out.drew
  have HPs := Lib.hid HPL2.out.drew
  refine wp_region_held_drew (S := (fun W' => W'.cell? ⟨d, 6, none⟩ = some (.pointer (some ⟨pp, 0, none⟩)) ∧ W'.cell? ⟨d, 5, none⟩ = some (.int .i64 1))) (by kernel_rfl) ?_ (fun hHeld => ?_)
  · exact ⟨HDs.out.cell 6, HDs.out.cell 5⟩
  refine wpAnyH_take (i := 0) (oi := { dst := some 90, op := Op.move (Operand.tmp 0), type := 33, pos := "nand.go:101", after := #[], guard := none }) (v := ?_) rfl (by kernel_rfl) (by kernel_rfl) (by kernel_rfl) (fun _ _ _ h => h) (Or.inl ⟨by rfl, ?_⟩) (by assumption) ?_
  rotate_left
  · (intro w hSw; (try dsimp only at hSw); (try obtain ⟨hSa, hSb⟩ := hSw); go_simp; try with_reducible rfl)
  try simp only [Act.put, List.setIfInBounds_toArray, List.set_cons_zero, List.set_cons_succ]
  refine wpAnyH_take (i := 4) (oi := { dst := some 94, op := Op.move (Operand.tmp 0), type := 33, pos := "nand.go:101", after := #[], guard := none }) (v := ?_) rfl (by kernel_rfl) (by kernel_rfl) (by kernel_rfl) (fun _ _ _ h => h) (Or.inl ⟨by rfl, ?_⟩) (by assumption) ?_
  rotate_left
  · (intro w hSw; (try dsimp only at hSw); (try obtain ⟨hSa, hSb⟩ := hSw); go_simp; try with_reducible rfl)
  try simp only [Act.put, List.setIfInBounds_toArray, List.set_cons_zero, List.set_cons_succ]
  refine wpAnyH_take (i := 1) (oi := { dst := some 91, op := Op.nilCheck (Operand.tmp 90), type := 0, pos := "nand.go:101", after := #[{ on := 0, ground := Ground.data }], guard := none }) (v := ?_) rfl (by kernel_rfl) (by kernel_rfl) (by kernel_rfl) (fun _ _ _ h => h) (Or.inl ⟨by rfl, ?_⟩) (by assumption) ?_
  rotate_left
  · (intro w hSw; (try dsimp only at hSw); (try obtain ⟨hSa, hSb⟩ := hSw); go_simp; try with_reducible rfl)
  try simp only [Act.put, List.setIfInBounds_toArray, List.set_cons_zero, List.set_cons_succ]
  refine wpAnyH_take (i := 5) (oi := { dst := some 95, op := Op.nilCheck (Operand.tmp 94), type := 0, pos := "nand.go:101", after := #[{ on := 4, ground := Ground.data }], guard := none }) (v := ?_) rfl (by kernel_rfl) (by kernel_rfl) (by kernel_rfl) (fun _ _ _ h => h) (Or.inl ⟨by rfl, ?_⟩) (by assumption) ?_
  rotate_left
  · (intro w hSw; (try dsimp only at hSw); (try obtain ⟨hSa, hSb⟩ := hSw); go_simp; try with_reducible rfl)
  try simp only [Act.put, List.setIfInBounds_toArray, List.set_cons_zero, List.set_cons_succ]
  refine wpAnyH_take (i := 2) (oi := { dst := some 92, op := Op.fieldAddr 95 (Operand.tmp 91) 2, type := 0, pos := "nand.go:101", after := #[{ on := 1, ground := Ground.data }], guard := none }) (v := ?_) rfl (by kernel_rfl) (by kernel_rfl) (by kernel_rfl) (fun _ _ _ h => h) (Or.inl ⟨by rfl, ?_⟩) (by assumption) ?_
  rotate_left
  · (intro w hSw; (try dsimp only at hSw); (try obtain ⟨hSa, hSb⟩ := hSw); go_simp; try with_reducible rfl)
  try simp only [Act.put, List.setIfInBounds_toArray, List.set_cons_zero, List.set_cons_succ]
  refine wpAnyH_take (i := 6) (oi := { dst := some 96, op := Op.fieldAddr 95 (Operand.tmp 95) 1, type := 0, pos := "nand.go:101", after := #[{ on := 5, ground := Ground.data }], guard := none }) (v := ?_) rfl (by kernel_rfl) (by kernel_rfl) (by kernel_rfl) (fun _ _ _ h => h) (Or.inl ⟨by rfl, ?_⟩) (by assumption) ?_
  rotate_left
  · (intro w hSw; (try dsimp only at hSw); (try obtain ⟨hSa, hSb⟩ := hSw); go_simp; try with_reducible rfl)
  try simp only [Act.put, List.setIfInBounds_toArray, List.set_cons_zero, List.set_cons_succ]
  refine wpAnyH_take (i := 3) (oi := { dst := some 93, op := Op.load 91 (Operand.tmp 92), type := 91, pos := "nand.go:101", after := #[{ on := 2, ground := Ground.data }], guard := none }) (v := ?_) rfl (by kernel_rfl) (by kernel_rfl) (by kernel_rfl) (fun _ _ _ h => h) (Or.inl ⟨by rfl, ?_⟩) (by assumption) ?_
  rotate_left
  · (intro w hSw; (try dsimp only at hSw); (try obtain ⟨hSa, hSb⟩ := hSw); go_simp; try with_reducible rfl)
  try simp only [Act.put, List.setIfInBounds_toArray, List.set_cons_zero, List.set_cons_succ]
  refine wpAnyH_take (i := 7) (oi := { dst := some 97, op := Op.fieldAddr 23 (Operand.tmp 96) 4, type := 0, pos := "nand.go:101", after := #[{ on := 6, ground := Ground.data }], guard := none }) (v := ?_) rfl (by kernel_rfl) (by kernel_rfl) (by kernel_rfl) (fun _ _ _ h => h) (Or.inl ⟨by rfl, ?_⟩) (by assumption) ?_
  rotate_left
  · (intro w hSw; (try dsimp only at hSw); (try obtain ⟨hSa, hSb⟩ := hSw); go_simp; try with_reducible rfl)
  try simp only [Act.put, List.setIfInBounds_toArray, List.set_cons_zero, List.set_cons_succ]
  refine wpAnyH_take (i := 8) (oi := { dst := some 98, op := Op.load 3 (Operand.tmp 97), type := 3, pos := "nand.go:101", after := #[{ on := 7, ground := Ground.data }], guard := none }) (v := ?_) rfl (by kernel_rfl) (by kernel_rfl) (by kernel_rfl) (fun _ _ _ h => h) (Or.inl ⟨by rfl, ?_⟩) (by assumption) ?_
  rotate_left
  · (intro w hSw; (try dsimp only at hSw); (try obtain ⟨hSa, hSb⟩ := hSw); go_simp; try with_reducible rfl)
  try simp only [Act.put, List.setIfInBounds_toArray, List.set_cons_zero, List.set_cons_succ]
  refine wpAnyH_ready (rs := [9]) (by kernel_rfl) (by simp) ?_
  refine AllReadyH.cons (o := { dst := some 99, op := Op.call { callee := Callee.value (Operand.func 47), args := #[Operand.tmp 93, Operand.tmp 98], argTypes := #[91, 3] }, type := 115, pos := "nand.go:101", after := #[{ on := 3, ground := Ground.data }, { on := 8, ground := Ground.data }], guard := none }) rfl (fun K hK => ?_) AllReadyH.nil
  go_simp
  refine (HNX.out _ HPs.out).mono ?_
  rintro e w4 ⟨rfl, hOp⟩
  try clear hO
  try simp only []
  refine hK.out _ _ ?_ (fun hHeld => ?_)
  · exact ⟨(HDs.out.only hOp HNE.out.2.1).cell 6, (HDs.out.only hOp HNE.out.2.1).cell 5⟩
  clear hK K
  try simp only [Act.put, List.setIfInBounds_toArray, List.set_cons_zero, List.set_cons_succ]
  refine wpAnyH_take (i := 10) (oi := { dst := some 89, op := Op.move (Operand.tmp 99), type := 115, pos := "nand.go:101", after := #[{ on := 9, ground := Ground.data }], guard := none }) (v := ?_) rfl (by kernel_rfl) (by kernel_rfl) (by kernel_rfl) (fun _ _ _ h => h) (Or.inl ⟨by rfl, ?_⟩) (by assumption) ?_
  rotate_left
  · (intro w hSw; (try dsimp only at hSw); (try obtain ⟨hSa, hSb⟩ := hSw); go_simp; try with_reducible rfl)
  try simp only [Act.put, List.setIfInBounds_toArray, List.set_cons_zero, List.set_cons_succ]
  refine wpAnyH_take (i := 11) (oi := { dst := some 100, op := Op.extract (Operand.tmp 89) 0, type := 3, pos := "nand.go:101", after := #[{ on := 10, ground := Ground.data }], guard := none }) (v := ?_) rfl (by kernel_rfl) (by kernel_rfl) (by kernel_rfl) (fun _ _ _ h => h) (Or.inl ⟨by rfl, ?_⟩) (by assumption) ?_
  rotate_left
  · (intro w hSw; (try dsimp only at hSw); (try obtain ⟨hSa, hSb⟩ := hSw); go_simp; try with_reducible rfl)
  try simp only [Act.put, List.setIfInBounds_toArray, List.set_cons_zero, List.set_cons_succ]
  refine wpAnyH_take (i := 12) (oi := { dst := some 101, op := Op.extract (Operand.tmp 89) 1, type := 3, pos := "nand.go:101", after := #[{ on := 10, ground := Ground.data }, { on := 13, ground := Ground.gcOnly Departure.lateStores }], guard := none }) (v := ?_) rfl (by kernel_rfl) (by kernel_rfl) (by kernel_rfl) (fun _ _ _ h => h) (Or.inl ⟨by rfl, ?_⟩) (by assumption) ?_
  rotate_left
  · (intro w hSw; (try dsimp only at hSw); (try obtain ⟨hSa, hSb⟩ := hSw); go_simp; try with_reducible rfl)
  try simp only [Act.put, List.setIfInBounds_toArray, List.set_cons_zero, List.set_cons_succ]
  refine wpAnyH_take (i := 13) (oi := { dst := some 14, op := Op.assign (Operand.tmp 100), type := 3, pos := "nand.go:101", after := #[{ on := 11, ground := Ground.data }, { on := 9, ground := Ground.chain }, { on := 0, ground := Ground.phase }, { on := 1, ground := Ground.phase }, { on := 2, ground := Ground.phase }, { on := 3, ground := Ground.phase }, { on := 4, ground := Ground.phase }, { on := 5, ground := Ground.phase }, { on := 6, ground := Ground.phase }, { on := 7, ground := Ground.phase }, { on := 8, ground := Ground.phase }, { on := 9, ground := Ground.phase }, { on := 10, ground := Ground.phase }, { on := 11, ground := Ground.phase }, { on := 12, ground := Ground.textOnly Departure.lateStores }], guard := none }) (v := ?_) rfl (by kernel_rfl) (by kernel_rfl) (by kernel_rfl) (fun _ _ _ h => h) (Or.inl ⟨by rfl, ?_⟩) (by assumption) ?_
  rotate_left
  · (intro w hSw; (try dsimp only at hSw); (try obtain ⟨hSa, hSb⟩ := hSw); go_simp; try with_reducible rfl)
  try simp only [Act.put, List.setIfInBounds_toArray, List.set_cons_zero, List.set_cons_succ]
  refine wpAnyH_take (i := 14) (oi := { dst := some 15, op := Op.assign (Operand.tmp 101), type := 3, pos := "nand.go:101", after := #[{ on := 12, ground := Ground.data }, { on := 13, ground := Ground.chain }, { on := 0, ground := Ground.phase }, { on := 1, ground := Ground.phase }, { on := 2, ground := Ground.phase }, { on := 3, ground := Ground.phase }, { on := 4, ground := Ground.phase }, { on := 5, ground := Ground.phase }, { on := 6, ground := Ground.phase }, { on := 7, ground := Ground.phase }, { on := 8, ground := Ground.phase }, { on := 9, ground := Ground.phase }, { on := 10, ground := Ground.phase }, { on := 11, ground := Ground.phase }, { on := 12, ground := Ground.phase }, { on := 13, ground := Ground.phase }], guard := none }) (v := ?_) rfl (by kernel_rfl) (by kernel_rfl) (by kernel_rfl) (fun _ _ _ h => h) (Or.inl ⟨by rfl, ?_⟩) (by assumption) ?_
  rotate_left
  · (intro w hSw; (try dsimp only at hSw); (try obtain ⟨hSa, hSb⟩ := hSw); go_simp; try with_reducible rfl)
  try simp only [Act.put, List.setIfInBounds_toArray, List.set_cons_zero, List.set_cons_succ]
  refine wpAnyH_done (by kernel_rfl) ?_ _
  have HD4 := Lib.hid (HDs.out.only hOp HNE.out.2.1)
  have HR4 := Lib.hid (HR2.out.drew.only hOp HNE.out.2.2.1)
  have HM4 := Lib.hid (map_at (w := W.drew) HM2.out hOp HNE.out.2.2.2.2.2)
  have HO4 := Lib.hid (HO2.out.drew.trans (hOp.mono (fun _ _ h => .inr (.inl h))))
  clear hOp
  have z5 := HD4.out.cell 5
  simp only [List.getElem?_toArray, List.getElem?_cons_zero, List.getElem?_cons_succ] at z5
  go_wp2_with (fail)
  go_loopw [16, 17, 18, 110] (fun v16 v17 v18 v110 wr => At wr d 95 #[.bool false, .int .i64 1, .int .i64 1, .int .i64 2, .int .i64 2, .int .i64 1, .pointer (some ⟨pp, 0, none⟩), .slice (some ⟨gb, 0, none⟩) 2 2, .map (some mp), .int .i64 0] ∧ At wr gb 99 #[.int .i64 1, .int .i64 0, .bool false, .int .i64 0, .int .i64 0, .bool false] ∧ Only (fun i => i = gb ∨ i = pp ∨ i = mp) w wr ∧ ((v110 = .int .i64 0 ∧ wr.heap[mp]? = some (.map #[] 0)) ∨ (v110 = .int .i64 1 ∧ ∃ A5 c5 g5 A6 c6 g6, wr.heap[mp]? = some (.map (oneE A5 A6 c5 c6) 1) ∧ Rd wr g5 A5 ld ∧ Rd wr g6 A6 lo))) (fun _ _ _ v110 _ => (1 - intOf v110).toNat)
  case atStart => exact ⟨HD4.out, HR4.out, HO4.out, .inl ⟨rfl, HM4.out⟩⟩
  case round =>
    clear z5
    obtain ⟨hD, hR, hO, ⟨rfl, hM⟩ | ⟨rfl, A5, c5, g5, A6, c6, g6, hM, hr5, hr6⟩⟩ := hrel
    · have HD5 := Lib.hid hD
      have HR5 := Lib.hid hR
      have HO5 := Lib.hid hO
      have HM5 := Lib.hid hM
      have z1 := hD.cell 1
      have z2 := hD.cell 2
      have z3 := hD.cell 3
      have z4 := hD.cell 4
      have z5 := hD.cell 5
      simp only [List.getElem?_toArray, List.getElem?_cons_zero, List.getElem?_cons_succ] at z1 z2 z3 z4 z5
      clear hD hR hO hM
      go_wp2_with (fail)
      refine (HNU.out _).mono ?_
      rintro e w5 ⟨rfl, hO⟩
      clear z1 z2 z3 z4 z5
      have HDs := Lib.hid (HD5.out.only hO id).drew
      have HRs := Lib.hid (HR5.out.only hO id).drew
      have HMs : Hid (w5.drew.heap[mp]? = some (.map #[] 0)) := Lib.hid (by have hm := map_at HM5.out hO id; exact hm)
      have HOs := Lib.hid (HO5.out.trans (hO.mono (fun _ _ h => h.elim))).drew
      have h1 := HQ1.out.only HOs.out (HNG.out g1 (.inl rfl))
      have h2 := HQ2.out.only HOs.out (HNG.out g2 (.inr (.inl rfl)))
      have HE1s := Lib.hid h1
      have HE2s := Lib.hid h2
      have HQ3s := Lib.hid (HQ3.out.only HOs.out (HNG.out g3 (.inr (.inr (.inl rfl)))))
      have HQ4s := Lib.hid (HQ4.out.only HOs.out (HNG.out g4 (.inr (.inr (.inr rfl)))))
      have HLT := Lib.hid (show d < w5.heap.size ∧ gb < w5.heap.size ∧ mp < w5.heap.size ∧ g1 < w5.heap.size ∧ g2 < w5.heap.size ∧ g3 < w5.heap.size ∧ g4 < w5.heap.size ∧ w.heap.size ≤ w5.heap.size from ⟨HDs.out.lt, HRs.out.lt, (Array.getElem?_eq_some_iff.1 HMs.out).1, Nat.lt_of_lt_of_le HGL.out.1 HOs.out.size, Nat.lt_of_lt_of_le HGL.out.2.1 HOs.out.size, Nat.lt_of_lt_of_le HGL.out.2.2.1 HOs.out.size, Nat.lt_of_lt_of_le HGL.out.2.2.2 HOs.out.size, HOs.out.size⟩)
      clear h1 h2 hO
      go_upto_region 18 with (fail)
      refine wp_region_held_drew (S := (fun W' => W'.cell? ⟨d, 8, none⟩ = some (.map (some mp)) ∧ W'.cell? ⟨g1, o1, none⟩ = some (.slice (some ⟨g3, o3, none⟩) 16 c3) ∧ W'.cell? ⟨g2, o2, none⟩ = some (.slice (some ⟨g4, o4, none⟩) 17 c4))) (by kernel_rfl) ?_ (fun hHeld => ?_)
      · exact ⟨HDs.out.cell 8, HE1s.out.c0, HE2s.out.c0⟩
      refine wpAnyH_take (i := 0) (oi := { dst := some 126, op := Op.move (Operand.tmp 0), type := 33, pos := "nand.go:107", after := #[], guard := none }) (v := ?_) rfl (by kernel_rfl) (by kernel_rfl) (by kernel_rfl) (fun _ _ _ h => h) (Or.inl ⟨by rfl, ?_⟩) (by assumption) ?_
      rotate_left
      · (intro w hSw; (try dsimp only at hSw); (try obtain ⟨hSa, hSb⟩ := hSw); go_simp; try with_reducible rfl)
      try simp only [Act.put, List.setIfInBounds_toArray, List.set_cons_zero, List.set_cons_succ]
      refine wpAnyH_take (i := 4) (oi := { dst := some 130, op := Op.move (Operand.tmp 17), type := 3, pos := "nand.go:107", after := #[], guard := none }) (v := ?_) rfl (by kernel_rfl) (by kernel_rfl) (by kernel_rfl) (fun _ _ _ h => h) (Or.inl ⟨by rfl, ?_⟩) (by assumption) ?_
      rotate_left
      · (intro w hSw; (try dsimp only at hSw); (try obtain ⟨hSa, hSb⟩ := hSw); go_simp; try with_reducible rfl)
      try simp only [Act.put, List.setIfInBounds_toArray, List.set_cons_zero, List.set_cons_succ]
      refine wpAnyH_take (i := 6) (oi := { dst := some 132, op := Op.move (Operand.tmp 4), type := 56, pos := "nand.go:107", after := #[], guard := none }) (v := ?_) rfl (by kernel_rfl) (by kernel_rfl) (by kernel_rfl) (fun _ _ _ h => h) (Or.inl ⟨by rfl, ?_⟩) (by assumption) ?_
      rotate_left
      · (intro w hSw; (try dsimp only at hSw); (try obtain ⟨hSa, hSb⟩ := hSw); go_simp; try with_reducible rfl)
      try simp only [Act.put, List.setIfInBounds_toArray, List.set_cons_zero, List.set_cons_succ]
      refine wpAnyH_take (i := 7) (oi := { dst := some 133, op := Op.move (Operand.tmp 16), type := 3, pos := "nand.go:107", after := #[], guard := none }) (v := ?_) rfl (by kernel_rfl) (by kernel_rfl) (by kernel_rfl) (fun _ _ _ h => h) (Or.inl ⟨by rfl, ?_⟩) (by assumption) ?_
      rotate_left
      · (intro w hSw; (try dsimp only at hSw); (try obtain ⟨hSa, hSb⟩ := hSw); go_simp; try with_reducible rfl)
      try simp only [Act.put, List.setIfInBounds_toArray, List.set_cons_zero, List.set_cons_succ]
      refine wpAnyH_take (i := 12) (oi := { dst := some 138, op := Op.move (Operand.tmp 5), type := 56, pos := "nand.go:107", after := #[], guard := none }) (v := ?_) rfl (by kernel_rfl) (by kernel_rfl) (by kernel_rfl) (fun _ _ _ h => h) (Or.inl ⟨by rfl, ?_⟩) (by assumption) ?_
      rotate_left
      · (intro w hSw; (try dsimp only at hSw); (try obtain ⟨hSa, hSb⟩ := hSw); go_simp; try with_reducible rfl)
      try simp only [Act.put, List.setIfInBounds_toArray, List.set_cons_zero, List.set_cons_succ]
      refine wpAnyH_take (i := 13) (oi := { dst := some 139, op := Op.move (Operand.tmp 16), type := 3, pos := "nand.go:107", after := #[], guard := none }) (v := ?_) rfl (by kernel_rfl) (by kernel_rfl) (by kernel_rfl) (fun _ _ _ h => h) (Or.inl ⟨by rfl, ?_⟩) (by assumption) ?_
      rotate_left
      · (intro w hSw; (try dsimp only at hSw); (try obtain ⟨hSa, hSb⟩ := hSw); go_simp; try with_reducible rfl)
      try simp only [Act.put, List.setIfInBounds_toArray, List.set_cons_zero, List.set_cons_succ]
      refine wpAnyH_take (i := 1) (oi := { dst := some 127, op := Op.nilCheck (Operand.tmp 126), type := 0, pos := "nand.go:107", after := #[{ on := 0, ground := Ground.data }], guard := none }) (v := ?_) rfl (by kernel_rfl) (by kernel_rfl) (by kernel_rfl) (fun _ _ _ h => h) (Or.inl ⟨by rfl, ?_⟩) (by assumption) ?_
      rotate_left
      · (intro w hSw; (try dsimp only at hSw); (try obtain ⟨hSa, hSb⟩ := hSw); go_simp; try with_reducible rfl)
      try simp only [Act.put, List.setIfInBounds_toArray, List.set_cons_zero, List.set_cons_succ]
      refine wpAnyH_take (i := 8) (oi := { dst := some 134, op := Op.indexAddr 56 (Operand.tmp 132) (Operand.tmp 133), type := 0, pos := "nand.go:107", after := #[{ on := 6, ground := Ground.data }, { on := 7, ground := Ground.data }], guard := none }) (v := ?_) rfl (by kernel_rfl) (by kernel_rfl) (by kernel_rfl) (fun _ _ _ h => h) (Or.inl ⟨by rfl, ?_⟩) (by assumption) ?_
      rotate_left
      · (intro w hSw; (try dsimp only at hSw); (try obtain ⟨hSa, hSb⟩ := hSw); go_simp; try with_reducible rfl)
      try simp only [Act.put, List.setIfInBounds_toArray, List.set_cons_zero, List.set_cons_succ]
      refine wpAnyH_take (i := 14) (oi := { dst := some 140, op := Op.indexAddr 56 (Operand.tmp 138) (Operand.tmp 139), type := 0, pos := "nand.go:107", after := #[{ on := 12, ground := Ground.data }, { on := 13, ground := Ground.data }], guard := none }) (v := ?_) rfl (by kernel_rfl) (by kernel_rfl) (by kernel_rfl) (fun _ _ _ h => h) (Or.inl ⟨by rfl, ?_⟩) (by assumption) ?_
      rotate_left
      · (intro w hSw; (try dsimp only at hSw); (try obtain ⟨hSa, hSb⟩ := hSw); go_simp; try with_reducible rfl)
      try simp only [Act.put, List.setIfInBounds_toArray, List.set_cons_zero, List.set_cons_succ]
      refine wpAnyH_take (i := 2) (oi := { dst := some 128, op := Op.fieldAddr 95 (Operand.tmp 127) 4, type := 0, pos := "nand.go:107", after := #[{ on := 1, ground := Ground.data }], guard := none }) (v := ?_) rfl (by kernel_rfl) (by kernel_rfl) (by kernel_rfl) (fun _ _ _ h => h) (Or.inl ⟨by rfl, ?_⟩) (by assumption) ?_
      rotate_left
      · (intro w hSw; (try dsimp only at hSw); (try obtain ⟨hSa, hSb⟩ := hSw); go_simp; try with_reducible rfl)
      try simp only [Act.put, List.setIfInBounds_toArray, List.set_cons_zero, List.set_cons_succ]
      refine wpAnyH_take (i := 9) (oi := { dst := some 135, op := Op.load 27 (Operand.tmp 134), type := 27, pos := "nand.go:107", after := #[{ on := 8, ground := Ground.data }], guard := none }) (v := ?_) rfl (by kernel_rfl) (by kernel_rfl) (by kernel_rfl) (fun _ _ _ h => h) (Or.inl ⟨by rfl, ?_⟩) (by assumption) ?_
      rotate_left
      · (intro w hSw; (try dsimp only at hSw); (try obtain ⟨hSa, hSb⟩ := hSw); go_simp; try with_reducible rfl)
      try simp only [Act.put, List.setIfInBounds_toArray, List.set_cons_zero, List.set_cons_succ]
      refine wpAnyH_take (i := 15) (oi := { dst := some 141, op := Op.load 27 (Operand.tmp 140), type := 27, pos := "nand.go:107", after := #[{ on := 14, ground := Ground.data }], guard := none }) (v := ?_) rfl (by kernel_rfl) (by kernel_rfl) (by kernel_rfl) (fun _ _ _ h => h) (Or.inl ⟨by rfl, ?_⟩) (by assumption) ?_
      rotate_left
      · (intro w hSw; (try dsimp only at hSw); (try obtain ⟨hSa, hSb⟩ := hSw); go_simp; try with_reducible rfl)
      try simp only [Act.put, List.setIfInBounds_toArray, List.set_cons_zero, List.set_cons_succ]
      refine wpAnyH_take (i := 3) (oi := { dst := some 129, op := Op.load 93 (Operand.tmp 128), type := 93, pos := "nand.go:107", after := #[{ on := 2, ground := Ground.data }], guard := none }) (v := ?_) rfl (by kernel_rfl) (by kernel_rfl) (by kernel_rfl) (fun _ _ _ h => h) (Or.inl ⟨by rfl, ?_⟩) (by assumption) ?_
      rotate_left
      · (intro w hSw; (try dsimp only at hSw); (try obtain ⟨hSa, hSb⟩ := hSw); go_simp; try with_reducible rfl)
      try simp only [Act.put, List.setIfInBounds_toArray, List.set_cons_zero, List.set_cons_succ]
      refine wpAnyH_ready (rs := [5, 11]) (by kernel_rfl) (by simp) ?_
      refine AllReadyH.cons (o := { dst := some 131, op := Op.buildSlice 27 0 #[], type := 27, pos := "nand.go:107", after := #[], guard := none }) rfl (fun K hK => ?_) (AllReadyH.cons (o := { dst := some 137, op := Op.buildSlice 27 0 #[], type := 27, pos := "nand.go:107", after := #[], guard := none }) rfl (fun K hK => ?_) AllReadyH.nil)
      · skip
        go_simp
        have hq := (Only.refl (fun _ => False) w5.drew).alloc (.cells #[] 5)
        have HD_1 := Lib.hid (HDs.out.only hq (by first | exact id | (have := HLT.out; omega)))
        have HR_1 := Lib.hid (HRs.out.only hq (by first | exact id | (have := HLT.out; omega)))
        have HE1_1 := Lib.hid (HE1s.out.only hq (by first | exact id | (have := HLT.out; omega)))
        have HE2_1 := Lib.hid (HE2s.out.only hq (by first | exact id | (have := HLT.out; omega)))
        have HQ3_1 := Lib.hid (HQ3s.out.only hq (by first | exact id | (have := HLT.out; omega)))
        have HQ4_1 := Lib.hid (HQ4s.out.only hq (by first | exact id | (have := HLT.out; omega)))
        have HM_1 := Lib.hid (map_at HMs.out hq (by first | exact id | (have := HLT.out; omega)))
        have HO_1 := Lib.hid (HOs.out.trans' hq (S := fun i => i = gb ∨ i = pp ∨ i = mp) (fun i hi e => by first | exact e.elim | (have := HLT.out; omega)))
        have HBa_1 : Hid (At (w5.drew.alloc (.cells #[] 5)) (w5.heap.size) 5 #[]) := Lib.hid (At.new' (by first | rfl | simp) 5 #[])
        clear hq
        try clear hO
        try simp only []
        refine hK.out _ _ ?_ (fun hHeld => ?_)
        · exact ⟨HD_1.out.cell 8, HE1_1.out.c0, HE2_1.out.c0⟩
        clear hK K
        try simp only [Act.put, List.setIfInBounds_toArray, List.set_cons_zero, List.set_cons_succ]
        refine wpAnyH_ready (rs := [10, 11]) (by kernel_rfl) (by simp) ?_
        refine AllReadyH.cons (o := { dst := some 136, op := Op.call { callee := Callee.builtin Builtin.append, args := #[Operand.tmp 131, Operand.tmp 135], argTypes := #[27, 27] }, type := 27, pos := "nand.go:107", after := #[{ on := 5, ground := Ground.data }, { on := 9, ground := Ground.data }], guard := none }) rfl (fun K hK => ?_) (AllReadyH.cons (o := { dst := some 137, op := Op.buildSlice 27 0 #[], type := 27, pos := "nand.go:107", after := #[], guard := none }) rfl (fun K hK => ?_) AllReadyH.nil)
        · skip
          refine step_append_own rfl (.tmp 131) (.tmp 135) 27 rfl 5 i0 (.int .u8 0) Tryz.underlying27 HI.out.1 HI.out.2.1 HI.out.2.2.1 HI.out.2.2.2 rfl (w5.heap.size) rfl HBa_1.out g3 (some ⟨g3, o3, none⟩) 16 c3 ld rfl HL3.out (by intro e; have := HL3.out; rw [e] at this; simp at this) HQ3_1.out HB3.out (by omega) ?_
          intro p3 qp3 ww_2 hle hrd hq hor
          have hsz_2 : w5.heap.size + 1 ≤ ww_2.heap.size := by have h9 := hq.size; simpa using h9
          have HD_2 := Lib.hid (HD_1.out.only hq (by first | exact id | (have := HLT.out; omega)))
          have HR_2 := Lib.hid (HR_1.out.only hq (by first | exact id | (have := HLT.out; omega)))
          have HE1_2 := Lib.hid (HE1_1.out.only hq (by first | exact id | (have := HLT.out; omega)))
          have HE2_2 := Lib.hid (HE2_1.out.only hq (by first | exact id | (have := HLT.out; omega)))
          have HQ3_2 := Lib.hid (HQ3_1.out.only hq (by first | exact id | (have := HLT.out; omega)))
          have HQ4_2 := Lib.hid (HQ4_1.out.only hq (by first | exact id | (have := HLT.out; omega)))
          have HM_2 := Lib.hid (map_at HM_1.out hq (by first | exact id | (have := HLT.out; omega)))
          have HO_2 := Lib.hid (HO_1.out.trans' hq (S := fun i => i = gb ∨ i = pp ∨ i = mp) (fun i hi e => by (have := HLT.out; omega)))
          have HPa_2 := Lib.hid hrd
          have HOR : Hid (p3 = w5.heap.size ∨ p3 = w5.heap.size + 1) := Lib.hid (by simpa using hor)
          have hla := hrd.lt2 (by intro e; have := HL3.out; rw [e] at this; simp at this)
          have HNA : Hid (p3 ≠ mp) := Lib.hid (by have := HLT.out; have := HOR.out; omega)
          clear hle hrd hq hor
          try clear hO
          try simp only []
          refine hK.out _ _ ?_ (fun hHeld => ?_)
          · exact ⟨HD_2.out.cell 8, HE1_2.out.c0, HE2_2.out.c0⟩
          clear hK K
          try simp only [Act.put, List.setIfInBounds_toArray, List.set_cons_zero, List.set_cons_succ]
          refine wpAnyH_ready (rs := [11]) (by kernel_rfl) (by simp) ?_
          refine AllReadyH.cons (o := { dst := some 137, op := Op.buildSlice 27 0 #[], type := 27, pos := "nand.go:107", after := #[], guard := none }) rfl (fun K hK => ?_) AllReadyH.nil
          go_simp
          have hq := (Only.refl (fun _ => False) ww_2).alloc (.cells #[] 5)
          have HD_3 := Lib.hid (HD_2.out.only hq (by first | exact id | (have := HLT.out; omega)))
          have HR_3 := Lib.hid (HR_2.out.only hq (by first | exact id | (have := HLT.out; omega)))
          have HE1_3 := Lib.hid (HE1_2.out.only hq (by first | exact id | (have := HLT.out; omega)))
          have HE2_3 := Lib.hid (HE2_2.out.only hq (by first | exact id | (have := HLT.out; omega)))
          have HQ3_3 := Lib.hid (HQ3_2.out.only hq (by first | exact id | (have := HLT.out; omega)))
          have HQ4_3 := Lib.hid (HQ4_2.out.only hq (by first | exact id | (have := HLT.out; omega)))
          have HPa_3 := Lib.hid (HPa_2.out.only hq (by first | exact id | (have := HLT.out; omega)))
          have HM_3 := Lib.hid (map_at HM_2.out hq (by first | exact id | (have := HLT.out; omega)))
          have HO_3 := Lib.hid (HO_2.out.trans' hq (S := fun i => i = gb ∨ i = pp ∨ i = mp) (fun i hi e => by first | exact e.elim | (have := HLT.out; omega)))
          have HBb_3 : Hid (At (ww_2.alloc (.cells #[] 5)) (ww_2.heap.size) 5 #[]) := Lib.hid (At.new' (by first | rfl | simp) 5 #[])
          clear hq
          try clear hO
          try simp only []
          refine hK.out _ _ ?_ (fun hHeld => ?_)
          · exact ⟨HD_3.out.cell 8, HE1_3.out.c0, HE2_3.out.c0⟩
          clear hK K
          try simp only [Act.put, List.setIfInBounds_toArray, List.set_cons_zero, List.set_cons_succ]
          refine wpAnyH_ready (rs := [16]) (by kernel_rfl) (by simp) ?_
          refine AllReadyH.cons (o := { dst := some 142, op := Op.call { callee := Callee.builtin Builtin.append, args := #[Operand.tmp 137, Operand.tmp 141], argTypes := #[27, 27] }, type := 27, pos := "nand.go:107", after := #[{ on := 11, ground := Ground.data }, { on := 15, ground := Ground.data }, { on := 10, ground := Ground.chain }], guard := none }) rfl (fun K hK => ?_) AllReadyH.nil
          refine step_append_own rfl (.tmp 137) (.tmp 141) 27 rfl 5 i0 (.int .u8 0) Tryz.underlying27 HI.out.1 HI.out.2.1 HI.out.2.2.1 HI.out.2.2.2 rfl (ww_2.heap.size) rfl HBb_3.out g4 (some ⟨g4, o4, none⟩) 17 c4 lo rfl HL4.out (by intro e; have := HL4.out; rw [e] at this; simp at this) HQ4_3.out HB4.out (by omega) ?_
          intro p4 qp4 ww_4 hle hrd hq hor
          have hsz_4 : ww_2.heap.size + 1 ≤ ww_4.heap.size := by have h9 := hq.size; simpa using h9
          have HD_4 := Lib.hid (HD_3.out.only hq (by first | exact id | (have := HLT.out; omega)))
          have HR_4 := Lib.hid (HR_3.out.only hq (by first | exact id | (have := HLT.out; omega)))
          have HE1_4 := Lib.hid (HE1_3.out.only hq (by first | exact id | (have := HLT.out; omega)))
          have HE2_4 := Lib.hid (HE2_3.out.only hq (by first | exact id | (have := HLT.out; omega)))
          have HQ3_4 := Lib.hid (HQ3_3.out.only hq (by first | exact id | (have := HLT.out; omega)))
          have HQ4_4 := Lib.hid (HQ4_3.out.only hq (by first | exact id | (have := HLT.out; omega)))
          have HM_4 := Lib.hid (map_at HM_3.out hq (by first | exact id | (have := HLT.out; omega)))
          have HO_4 := Lib.hid (HO_3.out.trans' hq (S := fun i => i = gb ∨ i = pp ∨ i = mp) (fun i hi e => by (have := HLT.out; omega)))
          have HLP := HPa_3.out.lt2 (by intro e; have := HL3.out; rw [e] at this; simp at this)
          have HPa_4 := Lib.hid (HPa_3.out.only hq (by have := HOR.out; have := HLT.out; omega))
          have HPb_4 := Lib.hid hrd
          have HNP : Hid (p3 ≠ mp ∧ p4 ≠ mp) := Lib.hid ⟨HNA.out, by have := HLT.out; have h9 : p4 = ww_2.heap.size ∨ p4 = ww_2.heap.size + 1 := (by simpa using hor); omega⟩
          clear hle hrd hq hor
          try clear hO
          try simp only []
          refine hK.out _ _ ?_ (fun hHeld => ?_)
          · exact ⟨HD_4.out.cell 8, HE1_4.out.c0, HE2_4.out.c0⟩
          clear hK K
          try simp only [Act.put, List.setIfInBounds_toArray, List.set_cons_zero, List.set_cons_succ]
          refine wpAnyH_take (i := 17) (oi := { dst := some 143, op := Op.build 122 #[(0, Operand.tmp 136), (1, Operand.tmp 142)], type := 122, pos := "nand.go:107", after := #[{ on := 10, ground := Ground.data }, { on := 16, ground := Ground.data }], guard := none }) (v := ?_) rfl (by kernel_rfl) (by kernel_rfl) (by kernel_rfl) (fun _ _ _ h => h) (Or.inl ⟨by rfl, ?_⟩) (by assumption) ?_
          rotate_left
          · (intro w hSw; (try dsimp only at hSw); (try obtain ⟨hSa, hSb⟩ := hSw); go_simp; try with_reducible rfl)
          try simp only [Act.put, List.setIfInBounds_toArray, List.set_cons_zero, List.set_cons_succ]
          refine wpAnyH_ready (rs := [18]) (by kernel_rfl) (by simp) ?_
          refine AllReadyH.cons (o := { dst := none, op := Op.mapUpdate 93 (Operand.tmp 129) (Operand.tmp 130) (Operand.tmp 143), type := 0, pos := "nand.go:107", after := #[{ on := 3, ground := Ground.data }, { on := 4, ground := Ground.data }, { on := 17, ground := Ground.data }, { on := 16, ground := Ground.chain }, { on := 0, ground := Ground.phase }, { on := 1, ground := Ground.phase }, { on := 2, ground := Ground.phase }, { on := 3, ground := Ground.phase }, { on := 4, ground := Ground.phase }, { on := 5, ground := Ground.phase }, { on := 6, ground := Ground.phase }, { on := 7, ground := Ground.phase }, { on := 8, ground := Ground.phase }, { on := 9, ground := Ground.phase }, { on := 10, ground := Ground.phase }, { on := 11, ground := Ground.phase }, { on := 12, ground := Ground.phase }, { on := 13, ground := Ground.phase }, { on := 14, ground := Ground.phase }, { on := 15, ground := Ground.phase }, { on := 16, ground := Ground.phase }, { on := 17, ground := Ground.phase }], guard := none }) rfl (fun K hK => ?_) AllReadyH.nil
          have hms := ins_sector (z := 0) (v := .agg #[.slice (some ⟨p3, 0, none⟩) 16 qp3, .slice (some ⟨p4, 0, none⟩) 17 qp4]) HM_4.out (by rfl)
          go_simp
          clear hms
          have hq := wm_only ww_4 mp (.map (#[].push ⟨.int .i64 0, .agg #[.slice (some ⟨p3, 0, none⟩) 16 qp3, .slice (some ⟨p4, 0, none⟩) 17 qp4], 0⟩) (0 + 1))
          have HD_5 := Lib.hid (HD_4.out.only hq (by have := HNE.out; have := HLT.out; first | omega | (simp; omega)))
          have HR_5 := Lib.hid (HR_4.out.only hq (by have := HNE.out; have := HLT.out; first | omega | (simp; omega)))
          have HE1_5 := Lib.hid (HE1_4.out.only hq (fun e => HNG.out g1 (by simp) (.inr (.inr e))))
          have HE2_5 := Lib.hid (HE2_4.out.only hq (fun e => HNG.out g2 (by simp) (.inr (.inr e))))
          have h9 := HLT.out
          have HPa_5 := Lib.hid (HPa_4.out.only hq (by have := HNP.out; omega))
          have h9 := HLT.out
          have HPb_5 := Lib.hid (HPb_4.out.only hq (by have := HNP.out; omega))
          have HO_5 := Lib.hid (HO_4.out.trans (hq.mono (fun _ _ h => .inr (.inr h))))
          have HM_5 := Lib.hid (wm_at (o := .map (#[].push ⟨.int .i64 0, .agg #[.slice (some ⟨p3, 0, none⟩) 16 qp3, .slice (some ⟨p4, 0, none⟩) 17 qp4], 0⟩) (0 + 1)) HM_4.out)
          clear hq
          try clear hO
          try simp only []
          refine hK.out _ _ ?_ (fun hHeld => ?_)
          · exact ⟨HD_5.out.cell 8, HE1_5.out.c0, HE2_5.out.c0⟩
          clear hK K
          try simp only [Act.put, List.setIfInBounds_toArray, List.set_cons_zero, List.set_cons_succ]
          refine wpAnyH_done (by kernel_rfl) ?_ _
          go_wp2_with (fail)
          go_roundw
          case rel => exact ⟨HD_5.out, HR_5.out, HO_5.out, .inr ⟨by simp, _, _, p3, _, _, p4, HM_5.out, HPa_5.out, HPb_5.out⟩⟩
          case measure => simp [intOf]
        · skip
          go_simp
          have hq := (Only.refl (fun _ => False) (w5.drew.alloc (.cells #[] 5))).alloc (.cells #[] 5)
          have HD_6 := Lib.hid (HD_1.out.only hq (by first | exact id | (have := HLT.out; omega)))
          have HR_6 := Lib.hid (HR_1.out.only hq (by first | exact id | (have := HLT.out; omega)))
          have HE1_6 := Lib.hid (HE1_1.out.only hq (by first | exact id | (have := HLT.out; omega)))
          have HE2_6 := Lib.hid (HE2_1.out.only hq (by first | exact id | (have := HLT.out; omega)))
          have HQ3_6 := Lib.hid (HQ3_1.out.only hq (by first | exact id | (have := HLT.out; omega)))
          have HQ4_6 := Lib.hid (HQ4_1.out.only hq (by first | exact id | (have := HLT.out; omega)))
          have HBa_6 := Lib.hid (HBa_1.out.only hq (by first | exact id | (have := HLT.out; omega)))
          have HM_6 := Lib.hid (map_at HM_1.out hq (by first | exact id | (have := HLT.out; omega)))
          have HO_6 := Lib.hid (HO_1.out.trans' hq (S := fun i => i = gb ∨ i = pp ∨ i = mp) (fun i hi e => by first | exact e.elim | (have := HLT.out; omega)))
          have HBb_6 : Hid (At ((w5.drew.alloc (.cells #[] 5)).alloc (.cells #[] 5)) (w5.heap.size + 1) 5 #[]) := Lib.hid (At.new' (by first | rfl | simp) 5 #[])
          clear hq
          try clear hO
          try simp only []
          refine hK.out _ _ ?_ (fun hHeld => ?_)
          · exact ⟨HD_6.out.cell 8, HE1_6.out.c0, HE2_6.out.c0⟩
          clear hK K
          try simp only [Act.put, List.setIfInBounds_toArray, List.set_cons_zero, List.set_cons_succ]
          refine wpAnyH_ready (rs := [10]) (by kernel_rfl) (by simp) ?_
          refine AllReadyH.cons (o := { dst := some 136, op := Op.call { callee := Callee.builtin Builtin.append, args := #[Operand.tmp 131, Operand.tmp 135], argTypes := #[27, 27] }, type := 27, pos := "nand.go:107", after := #[{ on := 5, ground := Ground.data }, { on := 9, ground := Ground.data }], guard := none }) rfl (fun K hK => ?_) AllReadyH.nil
          refine step_append_own rfl (.tmp 131) (.tmp 135) 27 rfl 5 i0 (.int .u8 0) Tryz.underlying27 HI.out.1 HI.out.2.1 HI.out.2.2.1 HI.out.2.2.2 rfl (w5.heap.size) rfl HBa_6.out g3 (some ⟨g3, o3, none⟩) 16 c3 ld rfl HL3.out (by intro e; have := HL3.out; rw [e] at this; simp at this) HQ3_6.out HB3.out (by omega) ?_
          intro p3 qp3 ww_7 hle hrd hq hor
          have hsz_7 : w5.heap.size + 1 + 1 ≤ ww_7.heap.size := by have h9 := hq.size; simpa using h9
          have HD_7 := Lib.hid (HD_6.out.only hq (by first | exact id | (have := HLT.out; omega)))
          have HR_7 := Lib.hid (HR_6.out.only hq (by first | exact id | (have := HLT.out; omega)))
          have HE1_7 := Lib.hid (HE1_6.out.only hq (by first | exact id | (have := HLT.out; omega)))
          have HE2_7 := Lib.hid (HE2_6.out.only hq (by first | exact id | (have := HLT.out; omega)))
          have HQ3_7 := Lib.hid (HQ3_6.out.only hq (by first | exact id | (have := HLT.out; omega)))
          have HQ4_7 := Lib.hid (HQ4_6.out.only hq (by first | exact id | (have := HLT.out; omega)))
          have HM_7 := Lib.hid (map_at HM_6.out hq (by first | exact id | (have := HLT.out; omega)))
          have HO_7 := Lib.hid (HO_6.out.trans' hq (S := fun i => i = gb ∨ i = pp ∨ i = mp) (fun i hi e => by (have := HLT.out; omega)))
          have HBb_7 := Lib.hid (HBb_6.out.only hq (by omega))
          have HPa_7 := Lib.hid hrd
          have HOR : Hid (p3 = w5.heap.size ∨ p3 = w5.heap.size + 1 + 1) := Lib.hid (by simpa using hor)
          have hla := hrd.lt2 (by intro e; have := HL3.out; rw [e] at this; simp at this)
          have HNA : Hid (p3 ≠ mp) := Lib.hid (by have := HLT.out; have := HOR.out; omega)
          clear hle hrd hq hor
          try clear hO
          try simp only []
          refine hK.out _ _ ?_ (fun hHeld => ?_)
          · exact ⟨HD_7.out.cell 8, HE1_7.out.c0, HE2_7.out.c0⟩
          clear hK K
          try simp only [Act.put, List.setIfInBounds_toArray, List.set_cons_zero, List.set_cons_succ]
          refine wpAnyH_ready (rs := [16]) (by kernel_rfl) (by simp) ?_
          refine AllReadyH.cons (o := { dst := some 142, op := Op.call { callee := Callee.builtin Builtin.append, args := #[Operand.tmp 137, Operand.tmp 141], argTypes := #[27, 27] }, type := 27, pos := "nand.go:107", after := #[{ on := 11, ground := Ground.data }, { on := 15, ground := Ground.data }, { on := 10, ground := Ground.chain }], guard := none }) rfl (fun K hK => ?_) AllReadyH.nil
          refine step_append_own rfl (.tmp 137) (.tmp 141) 27 rfl 5 i0 (.int .u8 0) Tryz.underlying27 HI.out.1 HI.out.2.1 HI.out.2.2.1 HI.out.2.2.2 rfl (w5.heap.size + 1) rfl HBb_7.out g4 (some ⟨g4, o4, none⟩) 17 c4 lo rfl HL4.out (by intro e; have := HL4.out; rw [e] at this; simp at this) HQ4_7.out HB4.out (by omega) ?_
          intro p4 qp4 ww_8 hle hrd hq hor
          have hsz_8 : ww_7.heap.size ≤ ww_8.heap.size := by have h9 := hq.size; simpa using h9
          have HD_8 := Lib.hid (HD_7.out.only hq (by first | exact id | (have := HLT.out; omega)))
          have HR_8 := Lib.hid (HR_7.out.only hq (by first | exact id | (have := HLT.out; omega)))
          have HE1_8 := Lib.hid (HE1_7.out.only hq (by first | exact id | (have := HLT.out; omega)))
          have HE2_8 := Lib.hid (HE2_7.out.only hq (by first | exact id | (have := HLT.out; omega)))
          have HQ3_8 := Lib.hid (HQ3_7.out.only hq (by first | exact id | (have := HLT.out; omega)))
          have HQ4_8 := Lib.hid (HQ4_7.out.only hq (by first | exact id | (have := HLT.out; omega)))
          have HM_8 := Lib.hid (map_at HM_7.out hq (by first | exact id | (have := HLT.out; omega)))
          have HO_8 := Lib.hid (HO_7.out.trans' hq (S := fun i => i = gb ∨ i = pp ∨ i = mp) (fun i hi e => by (have := HLT.out; omega)))
          have HLP := HPa_7.out.lt2 (by intro e; have := HL3.out; rw [e] at this; simp at this)
          have HPa_8 := Lib.hid (HPa_7.out.only hq (by have := HOR.out; have := HLT.out; omega))
          have HPb_8 := Lib.hid hrd
          have HNP : Hid (p3 ≠ mp ∧ p4 ≠ mp) := Lib.hid ⟨HNA.out, by have := HLT.out; have h9 : p4 = w5.heap.size + 1 ∨ p4 = ww_7.heap.size := (by simpa using hor); omega⟩
          clear hle hrd hq hor
          try clear hO
          try simp only []
          refine hK.out _ _ ?_ (fun hHeld => ?_)
          · exact ⟨HD_8.out.cell 8, HE1_8.out.c0, HE2_8.out.c0⟩
          clear hK K
          try simp only [Act.put, List.setIfInBounds_toArray, List.set_cons_zero, List.set_cons_succ]
          refine wpAnyH_take (i := 17) (oi := { dst := some 143, op := Op.build 122 #[(0, Operand.tmp 136), (1, Operand.tmp 142)], type := 122, pos := "nand.go:107", after := #[{ on := 10, ground := Ground.data }, { on := 16, ground := Ground.data }], guard := none }) (v := ?_) rfl (by kernel_rfl) (by kernel_rfl) (by kernel_rfl) (fun _ _ _ h => h) (Or.inl ⟨by rfl, ?_⟩) (by assumption) ?_
          rotate_left
          · (intro w hSw; (try dsimp only at hSw); (try obtain ⟨hSa, hSb⟩ := hSw); go_simp; try with_reducible rfl)
          try simp only [Act.put, List.setIfInBounds_toArray, List.set_cons_zero, List.set_cons_succ]
          refine wpAnyH_ready (rs := [18]) (by kernel_rfl) (by simp) ?_
          refine AllReadyH.cons (o := { dst := none, op := Op.mapUpdate 93 (Operand.tmp 129) (Operand.tmp 130) (Operand.tmp 143), type := 0, pos := "nand.go:107", after := #[{ on := 3, ground := Ground.data }, { on := 4, ground := Ground.data }, { on := 17, ground := Ground.data }, { on := 16, ground := Ground.chain }, { on := 0, ground := Ground.phase }, { on := 1, ground := Ground.phase }, { on := 2, ground := Ground.phase }, { on := 3, ground := Ground.phase }, { on := 4, ground := Ground.phase }, { on := 5, ground := Ground.phase }, { on := 6, ground := Ground.phase }, { on := 7, ground := Ground.phase }, { on := 8, ground := Ground.phase }, { on := 9, ground := Ground.phase }, { on := 10, ground := Ground.phase }, { on := 11, ground := Ground.phase }, { on := 12, ground := Ground.phase }, { on := 13, ground := Ground.phase }, { on := 14, ground := Ground.phase }, { on := 15, ground := Ground.phase }, { on := 16, ground := Ground.phase }, { on := 17, ground := Ground.phase }], guard := none }) rfl (fun K hK => ?_) AllReadyH.nil
          have hms := ins_sector (z := 0) (v := .agg #[.slice (some ⟨p3, 0, none⟩) 16 qp3, .slice (some ⟨p4, 0, none⟩) 17 qp4]) HM_8.out (by rfl)
          go_simp
          clear hms
          have hq := wm_only ww_8 mp (.map (#[].push ⟨.int .i64 0, .agg #[.slice (some ⟨p3, 0, none⟩) 16 qp3, .slice (some ⟨p4, 0, none⟩) 17 qp4], 0⟩) (0 + 1))
          have HD_9 := Lib.hid (HD_8.out.only hq (by have := HNE.out; have := HLT.out; first | omega | (simp; omega)))
          have HR_9 := Lib.hid (HR_8.out.only hq (by have := HNE.out; have := HLT.out; first | omega | (simp; omega)))
          have HE1_9 := Lib.hid (HE1_8.out.only hq (fun e => HNG.out g1 (by simp) (.inr (.inr e))))
          have HE2_9 := Lib.hid (HE2_8.out.only hq (fun e => HNG.out g2 (by simp) (.inr (.inr e))))
          have h9 := HLT.out
          have HPa_9 := Lib.hid (HPa_8.out.only hq (by have := HNP.out; omega))
          have h9 := HLT.out
          have HPb_9 := Lib.hid (HPb_8.out.only hq (by have := HNP.out; omega))
          have HO_9 := Lib.hid (HO_8.out.trans (hq.mono (fun _ _ h => .inr (.inr h))))
          have HM_9 := Lib.hid (wm_at (o := .map (#[].push ⟨.int .i64 0, .agg #[.slice (some ⟨p3, 0, none⟩) 16 qp3, .slice (some ⟨p4, 0, none⟩) 17 qp4], 0⟩) (0 + 1)) HM_8.out)
          clear hq
          try clear hO
          try simp only []
          refine hK.out _ _ ?_ (fun hHeld => ?_)
          · exact ⟨HD_9.out.cell 8, HE1_9.out.c0, HE2_9.out.c0⟩
          clear hK K
          try simp only [Act.put, List.setIfInBounds_toArray, List.set_cons_zero, List.set_cons_succ]
          refine wpAnyH_done (by kernel_rfl) ?_ _
          go_wp2_with (fail)
          go_roundw
          case rel => exact ⟨HD_9.out, HR_9.out, HO_9.out, .inr ⟨by simp, _, _, p3, _, _, p4, HM_9.out, HPa_9.out, HPb_9.out⟩⟩
          case measure => simp [intOf]
      · skip
        go_simp
        have hq := (Only.refl (fun _ => False) w5.drew).alloc (.cells #[] 5)
        have HD_10 := Lib.hid (HDs.out.only hq (by first | exact id | (have := HLT.out; omega)))
        have HR_10 := Lib.hid (HRs.out.only hq (by first | exact id | (have := HLT.out; omega)))
        have HE1_10 := Lib.hid (HE1s.out.only hq (by first | exact id | (have := HLT.out; omega)))
        have HE2_10 := Lib.hid (HE2s.out.only hq (by first | exact id | (have := HLT.out; omega)))
        have HQ3_10 := Lib.hid (HQ3s.out.only hq (by first | exact id | (have := HLT.out; omega)))
        have HQ4_10 := Lib.hid (HQ4s.out.only hq (by first | exact id | (have := HLT.out; omega)))
        have HM_10 := Lib.hid (map_at HMs.out hq (by first | exact id | (have := HLT.out; omega)))
        have HO_10 := Lib.hid (HOs.out.trans' hq (S := fun i => i = gb ∨ i = pp ∨ i = mp) (fun i hi e => by first | exact e.elim | (have := HLT.out; omega)))
        have HBb_10 : Hid (At (w5.drew.alloc (.cells #[] 5)) (w5.heap.size) 5 #[]) := Lib.hid (At.new' (by first | rfl | simp) 5 #[])
        clear hq
        try clear hO
        try simp only []
        refine hK.out _ _ ?_ (fun hHeld => ?_)
        · exact ⟨HD_10.out.cell 8, HE1_10.out.c0, HE2_10.out.c0⟩
        clear hK K
        try simp only [Act.put, List.setIfInBounds_toArray, List.set_cons_zero, List.set_cons_succ]
        refine wpAnyH_ready (rs := [5]) (by kernel_rfl) (by simp) ?_
        refine AllReadyH.cons (o := { dst := some 131, op := Op.buildSlice 27 0 #[], type := 27, pos := "nand.go:107", after := #[], guard := none }) rfl (fun K hK => ?_) AllReadyH.nil
        go_simp
        have hq := (Only.refl (fun _ => False) (w5.drew.alloc (.cells #[] 5))).alloc (.cells #[] 5)
        have HD_11 := Lib.hid (HD_10.out.only hq (by first | exact id | (have := HLT.out; omega)))
        have HR_11 := Lib.hid (HR_10.out.only hq (by first | exact id | (have := HLT.out; omega)))
        have HE1_11 := Lib.hid (HE1_10.out.only hq (by first | exact id | (have := HLT.out; omega)))
        have HE2_11 := Lib.hid (HE2_10.out.only hq (by first | exact id | (have := HLT.out; omega)))
        have HQ3_11 := Lib.hid (HQ3_10.out.only hq (by first | exact id | (have := HLT.out; omega)))
        have HQ4_11 := Lib.hid (HQ4_10.out.only hq (by first | exact id | (have := HLT.out; omega)))
        have HBb_11 := Lib.hid (HBb_10.out.only hq (by first | exact id | (have := HLT.out; omega)))
        have HM_11 := Lib.hid (map_at HM_10.out hq (by first | exact id | (have := HLT.out; omega)))
        have HO_11 := Lib.hid (HO_10.out.trans' hq (S := fun i => i = gb ∨ i = pp ∨ i = mp) (fun i hi e => by first | exact e.elim | (have := HLT.out; omega)))
        have HBa_11 : Hid (At ((w5.drew.alloc (.cells #[] 5)).alloc (.cells #[] 5)) (w5.heap.size + 1) 5 #[]) := Lib.hid (At.new' (by first | rfl | simp) 5 #[])
        clear hq
        try clear hO
        try simp only []
        refine hK.out _ _ ?_ (fun hHeld => ?_)
        · exact ⟨HD_11.out.cell 8, HE1_11.out.c0, HE2_11.out.c0⟩
        clear hK K
        try simp only [Act.put, List.setIfInBounds_toArray, List.set_cons_zero, List.set_cons_succ]
        refine wpAnyH_ready (rs := [10]) (by kernel_rfl) (by simp) ?_
        refine AllReadyH.cons (o := { dst := some 136, op := Op.call { callee := Callee.builtin Builtin.append, args := #[Operand.tmp 131, Operand.tmp 135], argTypes := #[27, 27] }, type := 27, pos := "nand.go:107", after := #[{ on := 5, ground := Ground.data }, { on := 9, ground := Ground.data }], guard := none }) rfl (fun K hK => ?_) AllReadyH.nil
        refine step_append_own rfl (.tmp 131) (.tmp 135) 27 rfl 5 i0 (.int .u8 0) Tryz.underlying27 HI.out.1 HI.out.2.1 HI.out.2.2.1 HI.out.2.2.2 rfl (w5.heap.size + 1) rfl HBa_11.out g3 (some ⟨g3, o3, none⟩) 16 c3 ld rfl HL3.out (by intro e; have := HL3.out; rw [e] at this; simp at this) HQ3_11.out HB3.out (by omega) ?_
        intro p3 qp3 ww_12 hle hrd hq hor
        have hsz_12 : w5.heap.size + 1 + 1 ≤ ww_12.heap.size := by have h9 := hq.size; simpa using h9
        have HD_12 := Lib.hid (HD_11.out.only hq (by first | exact id | (have := HLT.out; omega)))
        have HR_12 := Lib.hid (HR_11.out.only hq (by first | exact id | (have := HLT.out; omega)))
        have HE1_12 := Lib.hid (HE1_11.out.only hq (by first | exact id | (have := HLT.out; omega)))
        have HE2_12 := Lib.hid (HE2_11.out.only hq (by first | exact id | (have := HLT.out; omega)))
        have HQ3_12 := Lib.hid (HQ3_11.out.only hq (by first | exact id | (have := HLT.out; omega)))
        have HQ4_12 := Lib.hid (HQ4_11.out.only hq (by first | exact id | (have := HLT.out; omega)))
        have HM_12 := Lib.hid (map_at HM_11.out hq (by first | exact id | (have := HLT.out; omega)))
        have HO_12 := Lib.hid (HO_11.out.trans' hq (S := fun i => i = gb ∨ i = pp ∨ i = mp) (fun i hi e => by (have := HLT.out; omega)))
        have HBb_12 := Lib.hid (HBb_11.out.only hq (by omega))
        have HPa_12 := Lib.hid hrd
        have HOR : Hid (p3 = w5.heap.size + 1 ∨ p3 = w5.heap.size + 1 + 1) := Lib.hid (by simpa using hor)
        have hla := hrd.lt2 (by intro e; have := HL3.out; rw [e] at this; simp at this)
        have HNA : Hid (p3 ≠ mp) := Lib.hid (by have := HLT.out; have := HOR.out; omega)
        clear hle hrd hq hor
        try clear hO
        try simp only []
        refine hK.out _ _ ?_ (fun hHeld => ?_)
        · exact ⟨HD_12.out.cell 8, HE1_12.out.c0, HE2_12.out.c0⟩
        clear hK K
        try simp only [Act.put, List.setIfInBounds_toArray, List.set_cons_zero, List.set_cons_succ]
        refine wpAnyH_ready (rs := [16]) (by kernel_rfl) (by simp) ?_
        refine AllReadyH.cons (o := { dst := some 142, op := Op.call { callee := Callee.builtin Builtin.append, args := #[Operand.tmp 137, Operand.tmp 141], argTypes := #[27, 27] }, type := 27, pos := "nand.go:107", after := #[{ on := 11, ground := Ground.data }, { on := 15, ground := Ground.data }, { on := 10, ground := Ground.chain }], guard := none }) rfl (fun K hK => ?_) AllReadyH.nil
        refine step_append_own rfl (.tmp 137) (.tmp 141) 27 rfl 5 i0 (.int .u8 0) Tryz.underlying27 HI.out.1 HI.out.2.1 HI.out.2.2.1 HI.out.2.2.2 rfl (w5.heap.size) rfl HBb_12.out g4 (some ⟨g4, o4, none⟩) 17 c4 lo rfl HL4.out (by intro e; have := HL4.out; rw [e] at this; simp at this) HQ4_12.out HB4.out (by omega) ?_
        intro p4 qp4 ww_13 hle hrd hq hor
        have hsz_13 : ww_12.heap.size ≤ ww_13.heap.size := by have h9 := hq.size; simpa using h9
        have HD_13 := Lib.hid (HD_12.out.only hq (by first | exact id | (have := HLT.out; omega)))
        have HR_13 := Lib.hid (HR_12.out.only hq (by first | exact id | (have := HLT.out; omega)))
        have HE1_13 := Lib.hid (HE1_12.out.only hq (by first | exact id | (have := HLT.out; omega)))
        have HE2_13 := Lib.hid (HE2_12.out.only hq (by first | exact id | (have := HLT.out; omega)))
        have HQ3_13 := Lib.hid (HQ3_12.out.only hq (by first | exact id | (have := HLT.out; omega)))
        have HQ4_13 := Lib.hid (HQ4_12.out.only hq (by first | exact id | (have := HLT.out; omega)))
        have HM_13 := Lib.hid (map_at HM_12.out hq (by first | exact id | (have := HLT.out; omega)))
        have HO_13 := Lib.hid (HO_12.out.trans' hq (S := fun i => i = gb ∨ i = pp ∨ i = mp) (fun i hi e => by (have := HLT.out; omega)))
        have HLP := HPa_12.out.lt2 (by intro e; have := HL3.out; rw [e] at this; simp at this)
        have HPa_13 := Lib.hid (HPa_12.out.only hq (by have := HOR.out; have := HLT.out; omega))
        have HPb_13 := Lib.hid hrd
        have HNP : Hid (p3 ≠ mp ∧ p4 ≠ mp) := Lib.hid ⟨HNA.out, by have := HLT.out; have h9 : p4 = w5.heap.size ∨ p4 = ww_12.heap.size := (by simpa using hor); omega⟩
        clear hle hrd hq hor
        try clear hO
        try simp only []
        refine hK.out _ _ ?_ (fun hHeld => ?_)
        · exact ⟨HD_13.out.cell 8, HE1_13.out.c0, HE2_13.out.c0⟩
        clear hK K
        try simp only [Act.put, List.setIfInBounds_toArray, List.set_cons_zero, List.set_cons_succ]
        refine wpAnyH_take (i := 17) (oi := { dst := some 143, op := Op.build 122 #[(0, Operand.tmp 136), (1, Operand.tmp 142)], type := 122, pos := "nand.go:107", after := #[{ on := 10, ground := Ground.data }, { on := 16, ground := Ground.data }], guard := none }) (v := ?_) rfl (by kernel_rfl) (by kernel_rfl) (by kernel_rfl) (fun _ _ _ h => h) (Or.inl ⟨by rfl, ?_⟩) (by assumption) ?_
        rotate_left
        · (intro w hSw; (try dsimp only at hSw); (try obtain ⟨hSa, hSb⟩ := hSw); go_simp; try with_reducible rfl)
        try simp only [Act.put, List.setIfInBounds_toArray, List.set_cons_zero, List.set_cons_succ]
        refine wpAnyH_ready (rs := [18]) (by kernel_rfl) (by simp) ?_
        refine AllReadyH.cons (o := { dst := none, op := Op.mapUpdate 93 (Operand.tmp 129) (Operand.tmp 130) (Operand.tmp 143), type := 0, pos := "nand.go:107", after := #[{ on := 3, ground := Ground.data }, { on := 4, ground := Ground.data }, { on := 17, ground := Ground.data }, { on := 16, ground := Ground.chain }, { on := 0, ground := Ground.phase }, { on := 1, ground := Ground.phase }, { on := 2, ground := Ground.phase }, { on := 3, ground := Ground.phase }, { on := 4, ground := Ground.phase }, { on := 5, ground := Ground.phase }, { on := 6, ground := Ground.phase }, { on := 7, ground := Ground.phase }, { on := 8, ground := Ground.phase }, { on := 9, ground := Ground.phase }, { on := 10, ground := Ground.phase }, { on := 11, ground := Ground.phase }, { on := 12, ground := Ground.phase }, { on := 13, ground := Ground.phase }, { on := 14, ground := Ground.phase }, { on := 15, ground := Ground.phase }, { on := 16, ground := Ground.phase }, { on := 17, ground := Ground.phase }], guard := none }) rfl (fun K hK => ?_) AllReadyH.nil
        have hms := ins_sector (z := 0) (v := .agg #[.slice (some ⟨p3, 0, none⟩) 16 qp3, .slice (some ⟨p4, 0, none⟩) 17 qp4]) HM_13.out (by rfl)
        go_simp
        clear hms
        have hq := wm_only ww_13 mp (.map (#[].push ⟨.int .i64 0, .agg #[.slice (some ⟨p3, 0, none⟩) 16 qp3, .slice (some ⟨p4, 0, none⟩) 17 qp4], 0⟩) (0 + 1))
        have HD_14 := Lib.hid (HD_13.out.only hq (by have := HNE.out; have := HLT.out; first | omega | (simp; omega)))
        have HR_14 := Lib.hid (HR_13.out.only hq (by have := HNE.out; have := HLT.out; first | omega | (simp; omega)))
        have HE1_14 := Lib.hid (HE1_13.out.only hq (fun e => HNG.out g1 (by simp) (.inr (.inr e))))
        have HE2_14 := Lib.hid (HE2_13.out.only hq (fun e => HNG.out g2 (by simp) (.inr (.inr e))))
        have h9 := HLT.out
        have HPa_14 := Lib.hid (HPa_13.out.only hq (by have := HNP.out; omega))
        have h9 := HLT.out
        have HPb_14 := Lib.hid (HPb_13.out.only hq (by have := HNP.out; omega))
        have HO_14 := Lib.hid (HO_13.out.trans (hq.mono (fun _ _ h => .inr (.inr h))))
        have HM_14 := Lib.hid (wm_at (o := .map (#[].push ⟨.int .i64 0, .agg #[.slice (some ⟨p3, 0, none⟩) 16 qp3, .slice (some ⟨p4, 0, none⟩) 17 qp4], 0⟩) (0 + 1)) HM_13.out)
        clear hq
        try clear hO
        try simp only []
        refine hK.out _ _ ?_ (fun hHeld => ?_)
        · exact ⟨HD_14.out.cell 8, HE1_14.out.c0, HE2_14.out.c0⟩
        clear hK K
        try simp only [Act.put, List.setIfInBounds_toArray, List.set_cons_zero, List.set_cons_succ]
        refine wpAnyH_done (by kernel_rfl) ?_ _
        go_wp2_with (fail)
        go_roundw
        case rel => exact ⟨HD_14.out, HR_14.out, HO_14.out, .inr ⟨by simp, _, _, p3, _, _, p4, HM_14.out, HPa_14.out, HPb_14.out⟩⟩
        case measure => simp [intOf]
    · have HN := Lib.hid (show NAt wr d gb mp pp gq oneBs (oneE A5 A6 c5 c6) 1 from ⟨hD, hR, hM, gq_is, by decide⟩)
      have HO5 := Lib.hid hO
      have HRR := Lib.hid (And.intro hr5 hr6)
      clear hD hR hO hM hr5 hr6
      go_wp2_with (fail)
      refine (HEN.out _ _ _).mono ?_
      rintro e w6 ⟨rfl, rfl⟩
      go_wp2
      go_ret
      exact ⟨rfl, A5, c5, g5, A6, c6, g6, HN.out, HRR.out.1, HRR.out.2, HO5.out⟩
end Go.Proofs.YtjobaplioidogaaGreat
