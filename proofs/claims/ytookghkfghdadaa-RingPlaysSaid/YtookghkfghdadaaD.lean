/- Ring: Put. -/
import Derived.Test.YtookghkfghdadaaC
namespace Go.Proofs.Ytookghkfghdadaa
open Go.RowKit

theorem rcs_setl (l : List RC) (q : Nat) (r : RC) (hq : q < l.length) : (((((((rcs l).set (q * 6) (.int .i64 r.x.k)).set (q * 6 + 1) (.int .i64 r.x.l)).set (q * 6 + 2) (.int .i64 r.x.s)).set (q * 6 + 3) (.slice r.A r.x.data.length r.c)).set (q * 6 + 4) (.int .i64 r.x.f)).set (q * 6 + 5) (.int .i64 r.st)) = rcs (l.set q r) := by
  induction l generalizing q with
  | nil => simp at hq
  | cons x t ih =>
    cases q with
    | zero => rfl
    | succ q =>
      have h := ih q (by simpa using hq)
      have e0 : (q + 1) * 6 = q * 6 + 6 := by omega
      have e1 : (q + 1) * 6 + 1 = q * 6 + 1 + 6 := by omega
      have e2 : (q + 1) * 6 + 2 = q * 6 + 2 + 6 := by omega
      have e3 : (q + 1) * 6 + 3 = q * 6 + 3 + 6 := by omega
      have e4 : (q + 1) * 6 + 4 = q * 6 + 4 + 6 := by omega
      have e5 : (q + 1) * 6 + 5 = q * 6 + 5 + 6 := by omega
      rw [e1, e2, e3, e4, e5, e0]
      simp only [rcs, List.flatMap_cons, RC.cells, List.cons_append, List.nil_append, List.set_cons_succ] at h ⊢
      rw [← h]
theorem rcs_set6 (l : List RC) (q : Nat) (r : RC) (hq : q < l.length) : (((((((rcs l).toArray.setIfInBounds (q * 6) (.int .i64 r.x.k)).setIfInBounds (q * 6 + 1) (.int .i64 r.x.l)).setIfInBounds (q * 6 + 2) (.int .i64 r.x.s)).setIfInBounds (q * 6 + 3) (.slice r.A r.x.data.length r.c)).setIfInBounds (q * 6 + 4) (.int .i64 r.x.f)).setIfInBounds (q * 6 + 5) (.int .i64 r.st)) = (rcs (l.set q r)).toArray := by
  rw [← rcs_setl l q r hq]
  simp only [List.setIfInBounds_toArray]
theorem rcs_set1 (l : List RC) (q : Nat) (hq : q < l.length) (z : Int) : (rcs l).set (q * 6 + 5) (.int .i64 z) = rcs (l.set q { l[q] with st := z }) := by
  induction l generalizing q with
  | nil => simp at hq
  | cons x t ih =>
    cases q with
    | zero => rfl
    | succ q =>
      have h := ih q (by simpa using hq)
      have e5 : (q + 1) * 6 + 5 = q * 6 + 5 + 6 := by omega
      rw [e5]
      simp only [rcs, List.flatMap_cons, RC.cells, List.cons_append, List.nil_append, List.set_cons_succ, List.getElem_cons_succ] at h ⊢
      rw [h]

theorem at_set6 {w : World} {g : Nat} {l : List RC} {q : Nat} (h : At w g 63 (rcs l).toArray) (hq : q < l.length) (r : RC) : At ((((((w.setCell ⟨g, q * 6, none⟩ (.int .i64 r.x.k)).setCell ⟨g, q * 6 + 1, none⟩ (.int .i64 r.x.l)).setCell ⟨g, q * 6 + 2, none⟩ (.int .i64 r.x.s)).setCell ⟨g, q * 6 + 3, none⟩ (.slice r.A r.x.data.length r.c)).setCell ⟨g, q * 6 + 4, none⟩ (.int .i64 r.x.f)).setCell ⟨g, q * 6 + 5, none⟩ (.int .i64 r.st)) g 63 (rcs (l.set q r)).toArray := by
  rw [← rcs_set6 l q r hq]
  exact (((((h.set _ _).set _ _).set _ _).set _ _).set _ _).set _ _
theorem only_set6 (w : World) (g q : Nat) (r : RC) : Only (fun i => i = g) w ((((((w.setCell ⟨g, q * 6, none⟩ (.int .i64 r.x.k)).setCell ⟨g, q * 6 + 1, none⟩ (.int .i64 r.x.l)).setCell ⟨g, q * 6 + 2, none⟩ (.int .i64 r.x.s)).setCell ⟨g, q * 6 + 3, none⟩ (.slice r.A r.x.data.length r.c)).setCell ⟨g, q * 6 + 4, none⟩ (.int .i64 r.x.f)).setCell ⟨g, q * 6 + 5, none⟩ (.int .i64 r.st)) := by
  refine Only.setCell (S := fun i => i = g) (p := ⟨g, q * 6 + 5, none⟩) ?_ (fun _ => rfl) _
  refine Only.setCell (S := fun i => i = g) (p := ⟨g, q * 6 + 4, none⟩) ?_ (fun _ => rfl) _
  refine Only.setCell (S := fun i => i = g) (p := ⟨g, q * 6 + 3, none⟩) ?_ (fun _ => rfl) _
  refine Only.setCell (S := fun i => i = g) (p := ⟨g, q * 6 + 2, none⟩) ?_ (fun _ => rfl) _
  refine Only.setCell (S := fun i => i = g) (p := ⟨g, q * 6 + 1, none⟩) ?_ (fun _ => rfl) _
  refine Only.setCell (S := fun i => i = g) (p := ⟨g, q * 6, none⟩) ?_ (fun _ => rfl) _
  exact Only.refl _ _

theorem mem_set_cases {l : List RC} {q : Nat} {r x : RC} (h : x ∈ l.set q r) : x ∈ l ∨ x = r := by
  rcases List.mem_or_eq_of_mem_set h with h | h
  · exact .inl h
  · exact .inr h

set_option maxHeartbeats 1000000 in
theorem put_full (b g t h : Nat) (l : List RC) (v0 v1 v2 v3 v4 : Value) (w : World) (k : RgAt w b g t h l) (hf : l.length + t - h = 0) :
    Calls Try.prog 17 #[.pointer (some ⟨b, 0, none⟩), .agg #[v0, v1, v2, v3, v4]] w fun e w' => e = .returned (.tuple #[.int .i64 0, .int .i64 11]) ∧ Only (fun _ => False) w w' := by
  have HF := Lib.hid (free_any b g t h l _ (k.quiet ((Only.refl (fun _ => False) w).alloc (.cells #[v0, v1, v2, v3, v4] 37))))
  rw [hf] at HF
  clear k hf
  go_enter Try.func17, Try.ntmps17
  go_wp2_with (fail)
  refine HF.out.mono ?_
  rintro e w1 ⟨rfl, hO⟩
  have HO := Lib.hid (((Only.refl (fun _ => False) w).alloc (.cells #[v0, v1, v2, v3, v4] 37)).trans hO)
  clear hO
  go_wp2
  go_ret2
  exact ⟨rfl, HO.out⟩

def PutPost (b g t h : Nat) (l : List RC) (x : Sl) (w : World) (e : Ending) (w' : World) : Prop :=
  ∃ r : RC, e = .returned (.tuple #[.int .i64 h, .int .i64 0]) ∧ RgAt w' b g t (h + 1) (l.set (h % l.length) r) ∧ r.x = x ∧ r.st = 0 ∧ r.A ≠ none ∧ w.heap.size ≤ r.gp ∧ Only (fun i => i = b ∨ i = g) w w'

set_option maxRecDepth 100000 in
set_option maxHeartbeats 4000000 in
theorem put_any (b g t h : Nat) (l : List RC) (x : Sl) (A : Option Addr) (c gs : Nat) (w : World) (k : RgAt w b g t h l) (hf : 0 < l.length + t - h) (hh : h < 100000) (hr : Rd w gs A (bv x.data)) (hl : x.data.length ≤ 1000000) :
    Calls Try.prog 17 #[.pointer (some ⟨b, 0, none⟩), x.val A c] w (PutPost b g t h l x w) := by
  obtain ⟨F, hF⟩ : ∃ F : Nat, F = l.length + t - h := ⟨_, rfl⟩
  have hOB := (Only.refl (fun _ => False) w).alloc (.cells #[.int .i64 x.k, .int .i64 x.l, .int .i64 x.s, .slice A x.data.length c, .int .i64 x.f] 37)
  have HOB := Lib.hid hOB
  have HLT := Lib.hid k.lts
  have HK := Lib.hid (k.quiet hOB)
  have HFr := Lib.hid (free_any b g t h l _ HK.out)
  rw [← hF] at HFr hf
  have f1 : ((F : Int) < 1) = False := by simp; omega
  have f2 : decide ((F : Int) < 1) = false := by simp; omega
  have f3 : decide (F < 1) = false := by simp; omega
  have hX := At.new w 37 #[.int .i64 x.k, .int .i64 x.l, .int .i64 x.s, .slice A x.data.length c, .int .i64 x.f]
  have HX := Lib.hid hX
  have HR := Lib.hid (hr.only hOB id)
  clear hX hOB k hr
  unfold Sl.val
  go_enter Try.func17, Try.ntmps17
  go_wp2_with (fail)
  refine HFr.out.mono ?_
  rintro e w1 ⟨rfl, hO1⟩
  have hK1 := HK.out.quiet hO1
  have c2 := hK1.st.cell 2
  simp at c2
  have HK1 := Lib.hid hK1
  have HKd := Lib.hid (hK1.quiet (Only.refl _ _).drew)
  have HX1 := Lib.hid (HX.out.only hO1 id)
  have x0 := HX1.out.cell 0
  have x1 := HX1.out.cell 1
  have x2 := HX1.out.cell 2
  have x3 := HX1.out.cell 3
  have x4 := HX1.out.cell 4
  simp at x0 x1 x2 x3 x4
  have HAt := Lib.hid (at_any b g t h l h _ HKd.out (by omega))
  have HO1 := Lib.hid hO1
  have HR1 := Lib.hid ((HR.out.only hO1 id).only (S := fun _ => False) ((Only.refl _ _).drew) id)
  obtain ⟨q, hq⟩ : ∃ q, h % l.length = q := ⟨_, rfl⟩
  have hql : q < l.length := by rw [← hq]; exact Nat.mod_lt _ (by have := hK1.len.1; omega)
  have HQ := Lib.hid hq
  rw [hq] at HAt
  clear hO1 hK1 HFr HK hq
  go_wp2_with (fail)
  refine wp_region_held_drew (S := (fun W => (W.cell? ⟨w.heap.size, 0, none⟩ = some (.int .i64 x.k) ∧ W.cell? ⟨w.heap.size, 1, none⟩ = some (.int .i64 x.l)) ∧ (W.cell? ⟨w.heap.size, 2, none⟩ = some (.int .i64 x.s) ∧ W.cell? ⟨w.heap.size, 3, none⟩ = some (.slice A x.data.length c)) ∧ W.cell? ⟨w.heap.size, 4, none⟩ = some (.int .i64 x.f))) (by kernel_rfl) ?_ (fun hHeld => ?_)
  · exact ⟨⟨x0, x1⟩, ⟨x2, x3⟩, x4⟩
  refine wpAnyH_take (i := 0) (oi := { dst := some 14, op := Op.move (Operand.tmp 0), type := 23, pos := "ring.go:60", after := #[], guard := none }) (v := ?_) rfl (by kernel_rfl) (by kernel_rfl) (by kernel_rfl) (fun _ _ _ h => h) (Or.inl ⟨by rfl, ?_⟩) (by assumption) ?_
  rotate_left
  · (intro w hSw; (try dsimp only at hSw); (try obtain ⟨hSa, hSb⟩ := hSw); go_simp; try with_reducible rfl)
  try simp only [Act.put, List.setIfInBounds_toArray, List.set_cons_zero, List.set_cons_succ]
  refine wpAnyH_take (i := 1) (oi := { dst := some 15, op := Op.move (Operand.tmp 6), type := 3, pos := "ring.go:60", after := #[], guard := none }) (v := ?_) rfl (by kernel_rfl) (by kernel_rfl) (by kernel_rfl) (fun _ _ _ h => h) (Or.inl ⟨by rfl, ?_⟩) (by assumption) ?_
  rotate_left
  · (intro w hSw; (try dsimp only at hSw); (try obtain ⟨hSa, hSb⟩ := hSw); go_simp; try with_reducible rfl)
  try simp only [Act.put, List.setIfInBounds_toArray, List.set_cons_zero, List.set_cons_succ]
  refine wpAnyH_take (i := 3) (oi := { dst := some 17, op := Op.load 37 (Operand.tmp 3), type := 37, pos := "ring.go:60", after := #[], guard := none }) (v := ?_) rfl (by kernel_rfl) (by kernel_rfl) (by kernel_rfl) (fun _ _ _ h => h) (Or.inl ⟨by rfl, ?_⟩) (by assumption) ?_
  rotate_left
  · (intro w hSw; (try dsimp only at hSw); (try obtain ⟨hSa, hSb⟩ := hSw); go_simp; try with_reducible rfl)
  try simp only [Act.put, List.setIfInBounds_toArray, List.set_cons_zero, List.set_cons_succ]
  refine wpAnyH_ready (rs := [2]) (by kernel_rfl) (by simp) ?_
  refine AllReadyH.cons (o := { dst := some 16, op := Op.call { callee := Callee.value (Operand.func 33), args := #[Operand.tmp 14, Operand.tmp 15], argTypes := #[23, 3] }, type := 64, pos := "ring.go:60", after := #[{ on := 0, ground := Ground.data }, { on := 1, ground := Ground.data }], guard := none }) rfl (fun K hK => ?_) AllReadyH.nil
  go_simp
  (go_at_call 33; refine HAt.out.mono ?_; rintro e wa ⟨rfl, hOa⟩; have HXa := Lib.hid ((HX1.out.only (S := fun _ => False) ((Only.refl _ _).drew) id).only hOa id); have HKa := Lib.hid (HKd.out.quiet hOa); have HOa := Lib.hid hOa; have HRa := Lib.hid (HR1.out.only hOa id); clear hOa; try simp only [])
  refine hK.out _ _ ?_ (fun hHeld => ?_)
  · exact ⟨⟨(HXa.out).cell 0, (HXa.out).cell 1⟩, ⟨(HXa.out).cell 2, (HXa.out).cell 3⟩, (HXa.out).cell 4⟩
  clear hK K
  try simp only [Act.put, List.setIfInBounds_toArray, List.set_cons_zero, List.set_cons_succ]
  refine wpAnyH_ready (rs := [4]) (by kernel_rfl) (by simp) ?_
  refine AllReadyH.cons (o := { dst := some 18, op := Op.call { callee := Callee.value (Operand.func 35), args := #[Operand.tmp 17], argTypes := #[37] }, type := 37, pos := "ring.go:60", after := #[{ on := 3, ground := Ground.data }, { on := 2, ground := Ground.chain }], guard := none }) rfl (fun K hK => ?_) AllReadyH.nil
  go_simp
  (go_at_call 35; refine (own_any x A c gs wa HRa.out hl).mono ?_; rintro e wx ⟨A', c', gp, rfl, hr2, hA2, hg2, hO2⟩; have HXx := Lib.hid (HXa.out.only hO2 id); have hKx := HKa.out.quiet hO2; have y0 := hKx.cell q 0 hql (by omega); have y1 := hKx.cell q 1 hql (by omega); have y2 := hKx.cell q 2 hql (by omega); have y3 := hKx.cell q 3 hql (by omega); have y4 := hKx.cell q 4 hql (by omega); have y5 := hKx.cell q 5 hql (by omega); have f0 := hKx.fr (q * 6); have f1 := hKx.fr (q * 6 + 1); have f2 := hKx.fr (q * 6 + 2); have f3 := hKx.fr (q * 6 + 3); have f4 := hKx.fr (q * 6 + 4); have f5 := hKx.fr (q * 6 + 5); simp only [RC.cells, List.getElem?_cons_zero, List.getElem?_cons_succ, Nat.add_zero] at y0 y1 y2 y3 y4 y5; have HKx := Lib.hid hKx; have HO2 := Lib.hid hO2; have HR2 := Lib.hid hr2; clear hKx hO2 hr2; simp only [Sl.val])
  refine hK.out _ _ ?_ (fun hHeld => ?_)
  · exact ⟨⟨(HXx.out).cell 0, (HXx.out).cell 1⟩, ⟨(HXx.out).cell 2, (HXx.out).cell 3⟩, (HXx.out).cell 4⟩
  clear hK K
  try simp only [Act.put, List.setIfInBounds_toArray, List.set_cons_zero, List.set_cons_succ]
  refine wpAnyH_take (i := 5) (oi := { dst := some 19, op := Op.build 63 #[(0, Operand.tmp 18), (1, Operand.const (Value.int IntKind.i64 0))], type := 63, pos := "ring.go:60", after := #[{ on := 4, ground := Ground.data }], guard := none }) (v := ?_) rfl (by kernel_rfl) (by kernel_rfl) (by kernel_rfl) (fun _ _ _ h => h) (Or.inl ⟨by rfl, ?_⟩) (by assumption) ?_
  rotate_left
  · (intro w hSw; (try dsimp only at hSw); (try obtain ⟨hSa, hSb⟩ := hSw); go_simp; try with_reducible rfl)
  try simp only [Act.put, List.setIfInBounds_toArray, List.set_cons_zero, List.set_cons_succ]
  refine wpAnyH_take (i := 6) (oi := { dst := some 20, op := Op.nilCheck (Operand.tmp 16), type := 0, pos := "ring.go:60", after := #[{ on := 2, ground := Ground.data }, { on := 0, ground := Ground.phase }, { on := 1, ground := Ground.phase }, { on := 2, ground := Ground.phase }, { on := 3, ground := Ground.phase }, { on := 4, ground := Ground.phase }, { on := 5, ground := Ground.phase }], guard := none }) (v := ?_) rfl (by kernel_rfl) (by kernel_rfl) (by kernel_rfl) (fun _ _ _ h => h) (Or.inl ⟨by rfl, ?_⟩) (by assumption) ?_
  rotate_left
  · (intro w hSw; (try dsimp only at hSw); (try obtain ⟨hSa, hSb⟩ := hSw); go_simp; try with_reducible rfl)
  try simp only [Act.put, List.setIfInBounds_toArray, List.set_cons_zero, List.set_cons_succ]
  refine wpAnyH_ready (rs := [7]) (by kernel_rfl) (by simp) ?_
  refine AllReadyH.cons (o := { dst := none, op := Op.store 63 (Operand.tmp 20) (Operand.tmp 19), type := 0, pos := "ring.go:60", after := #[{ on := 6, ground := Ground.data }, { on := 5, ground := Ground.data }, { on := 4, ground := Ground.chain }, { on := 0, ground := Ground.phase }, { on := 1, ground := Ground.phase }, { on := 2, ground := Ground.phase }, { on := 3, ground := Ground.phase }, { on := 4, ground := Ground.phase }, { on := 5, ground := Ground.phase }], guard := none }) rfl (fun K hK => ?_) AllReadyH.nil
  go_simp
  skip
  refine hK.out _ _ ?_ (fun hHeld => ?_)
  · exact ⟨⟨(HXx.out.only (only_set6 wx g q ⟨x, A', c', gp, 0⟩) (by have := HLT.out.2.1; omega)).cell 0, (HXx.out.only (only_set6 wx g q ⟨x, A', c', gp, 0⟩) (by have := HLT.out.2.1; omega)).cell 1⟩, ⟨(HXx.out.only (only_set6 wx g q ⟨x, A', c', gp, 0⟩) (by have := HLT.out.2.1; omega)).cell 2, (HXx.out.only (only_set6 wx g q ⟨x, A', c', gp, 0⟩) (by have := HLT.out.2.1; omega)).cell 3⟩, (HXx.out.only (only_set6 wx g q ⟨x, A', c', gp, 0⟩) (by have := HLT.out.2.1; omega)).cell 4⟩
  clear hK K
  try simp only [Act.put, List.setIfInBounds_toArray, List.set_cons_zero, List.set_cons_succ]
  refine wpAnyH_done (by kernel_rfl) ?_ _
  have hsf := HKx.out.st.only (only_set6 wx g q ⟨x, A', c', gp, 0⟩) HKx.out.ne
  have cb := hsf.cell 2
  have fb := hsf.frozen 2
  simp only [List.getElem?_toArray, List.getElem?_cons_zero, List.getElem?_cons_succ] at cb
  have HSF := Lib.hid hsf
  have HRW := Lib.hid (at_set6 HKx.out.row hql ⟨x, A', c', gp, 0⟩)
  have HOF := Lib.hid (only_set6 wx g q ⟨x, A', c', gp, 0⟩)
  simp only at HSF HRW HOF cb fb
  clear hsf
  go_wp2
  go_ret2
  have hpos := HKx.out.pos
  have hlen := HKx.out.len
  have hne := HKx.out.ne
  have hszx : w.heap.size + 1 ≤ wx.heap.size := by have h1 := HO1.out.size; have h2 := HOa.out.size; have h3 := HO2.out.size; have e : w1.drew.heap.size = w1.heap.size := rfl; simp at h1; omega
  have hgp : w.heap.size ≤ gp := by have h1 := HO1.out.size; have h2 := HOa.out.size; have e : w1.drew.heap.size = w1.heap.size := rfl; simp at h1; omega
  have hgb := HLT.out
  have hOg := Only.setCell (S := fun i => i = b ∨ i = g) (p := ⟨b, 2, none⟩) (HOF.out.mono (fun i _ e => Or.inr e)) (fun _ => Or.inl rfl) (.int .i64 ((h : Int) + 1))
  refine ⟨⟨x, A', c', gp, 0⟩, rfl, ⟨?_, ?_, ?_, by simpa using hlen, ?_, hne⟩, rfl, rfl, hA2, hgp, ?_⟩
  · have := HSF.out.set 2 (.int .i64 ((h : Int) + 1))
    simp only [List.length_set]
    exact this
  · have := HRW.out.far (p := ⟨b, 2, none⟩) (Ne.symm hne) (.int .i64 ((h : Int) + 1))
    rw [HQ.out]
    exact this
  · intro y hy
    rcases mem_set_cases hy with hy | rfl
    · refine (HKx.out.ok y hy).only hOg (fun hA e => ?_)
      have := HKx.out.p_ne ⟨y, hy, hA, rfl⟩
      omega
    · exact ⟨HR2.out.only hOg (fun _ e => by omega), hl⟩
  · simp only [List.length_set]; omega
  · exact ((((HOB.out.trans HO1.out).drew.trans HOa.out).trans HO2.out).mono (fun _ _ e => e.elim)).trans hOg
end Go.Proofs.Ytookghkfghdadaa
