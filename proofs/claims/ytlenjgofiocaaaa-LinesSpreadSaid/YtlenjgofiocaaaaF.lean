/- Lines: Open. -/
import Derived.Test.YtlenjgofiocaaaaG
namespace Go.Proofs.Ytlenjgofiocaaaa
open Go.RowKit Go.Shelf
attribute [local go_sem] Oper.semAt_some

def bstep {l : List Ln} (o : Option (Ent l)) (x : Ent l) : Option (Ent l) := match o with
  | none => some x
  | some y => if x.1.2.w < y.1.2.w then some x else some y
def bst {l : List Ln} (pre : List (Ent l)) : Option (Ent l) := pre.foldl bstep none
theorem bst_snoc {l : List Ln} (pre : List (Ent l)) (x : Ent l) : bst (pre ++ [x]) = bstep (bst pre) x := by simp [bst]
def bI {l : List Ln} (o : Option (Ent l)) : Int := match o with
  | none => -1
  | some y => (y.1.1 : Int)

set_option maxHeartbeats 1000000 in
theorem open_busy (b off c gb : Nat) (G : Ge) (l : List Ln) (op : Int) (w : World) (k : LAt w b G l off c gb op) (hop : 0 ≤ op) :
    Calls Try.prog 15 #[.pointer (some ⟨b, 0, none⟩)] w fun e w' => e = .returned (.tuple #[.int .i64 0, .int .i64 13]) ∧ Only (fun _ => False) w w' := by
  have c1 := (k.quiet ((Only.refl (fun _ => False) w).alloc (.cells #[.pointer (some ⟨b, 0, none⟩)] 26))).st.cell 1
  simp at c1
  clear k
  go_enter Try.func15, Try.ntmps15
  go_wp2
  go_ret2
  exact ⟨rfl, (Only.refl _ _).alloc _⟩

theorem keeps_dn {B : Nat} {W W' : World} (h : KeepsFrom B W W') (n : Nat) : KeepsFrom B W (W'.drewN n) := ⟨h.size, h.same⟩
theorem below_dn {B : Nat} {W W' : World} (h : Below B W W') (n : Nat) : Below B W (W'.drewN n) := ⟨h.os, h.tape, h.output, h.size, h.block⟩
theorem cell_far {W : World} {p : Addr} {u : Value} (h : W.cell? p = some u) {q : Addr} (hne : p.block ≠ q.block) (v : Value) : (W.setCell q v).cell? p = some u :=
  (World.cell?_of_block (Below.heap_setCell W q v p.block hne)).trans h
def OpenPost (b off c gb : Nat) (G : Ge) (l : List Ln) (w : World) (o : Option (Ent l)) (e : Ending) (w' : World) : Prop :=
  match o with
  | none => e = .returned (.tuple #[.int .i64 0, .int .i64 11]) ∧ Below w.heap.size w w'
  | some y => e = .returned (.tuple #[.int .i64 (y.1.1 : Int), .int .i64 0]) ∧ ∃ W : World, Below w.heap.size w W ∧ Below w.heap.size ((W.setCell ⟨gb, off + y.1.1 * 8, none⟩ (.int .i64 1)).setCell ⟨b, 1, none⟩ (.int .i64 (y.1.1 : Int))) w'

set_option maxRecDepth 100000 in
set_option maxHeartbeats 4000000 in
theorem open_in (F : Fence) (n : Nat) (h15 : F.fn 15) (h35 : F.fn 35) (h48 : F.fn 48) (hro : F.round = none) (hn : 3 ≤ n) (b off c gb : Nat) (G : Ge) (l : List Ln) (op : Int) (w : World) (k : LAt w b G l off c gb op) (hop : op < 0) :
    CallsIn F n Try.prog 15 #[.pointer (some ⟨b, 0, none⟩)] w (OpenPost b off c gb G l w (bst (flt l 0 l.length))) := by
  have h1 : 1 ≤ n := by omega
  obtain ⟨lt1, lt2⟩ := k.lts
  have hl64 := k.len.2
  have k1 := k.quiet ((Only.refl (fun _ => False) w).alloc (.cells #[.pointer (some ⟨b, 0, none⟩)] 26))
  have c1 := k1.st.cell 1
  simp at c1
  have HK := Lib.hid k
  have hne := k.ne
  clear k k1
  refine callsIn_of_wp_marks Try.func15 rfl h15 ?_ hro
  simp only [Try.ntmps15, List.size_toArray, List.length_cons, List.length_nil, Nat.reduceAdd, Nat.reduceSub, Array.replicate_succ, Array.replicate_zero, List.push_toArray, List.append_toArray, List.nil_append, List.cons_append]
  gi_wp2_with (gi_at_call 35; refine (all_in F (n - 1) h35 hro _ _ _).mono ?_; rintro e w' ⟨rfl, rfl⟩)
  have bP := (((Boxed.new w 26 (.pointer (some ⟨b, 0, none⟩))).alloc (.cells #[.int .i64 (-1)] 3)).alloc (.cells #[.pointer (some ⟨b, 0, none⟩)] 26)).alloc (.cells #[.int .i64 0] 3)
  have bN := ((Boxed.new (w.alloc (.cells #[.pointer (some ⟨b, 0, none⟩)] 26)) 3 (.int .i64 (-1))).alloc (.cells #[.pointer (some ⟨b, 0, none⟩)] 26)).alloc (.cells #[.int .i64 0] 3)
  rw [World.size_alloc] at bN
  have hO0 := ((((Only.refl (fun _ => False) w).alloc (.cells #[.pointer (some ⟨b, 0, none⟩)] 26)).alloc (.cells #[.int .i64 (-1)] 3)).alloc (.cells #[.pointer (some ⟨b, 0, none⟩)] 26)).alloc (.cells #[.int .i64 0] 3)
  have cBl := ((At.new' (w := (w.alloc (.cells #[.pointer (some ⟨b, 0, none⟩)] 26)).alloc (.cells #[.int .i64 (-1)] 3)) (g := w.heap.size + 1 + 1) (by simp) 26 #[.pointer (some ⟨b, 0, none⟩)]).alloc (.cells #[.int .i64 0] 3)).cell 0
  have cBs := (At.new' (w := ((w.alloc (.cells #[.pointer (some ⟨b, 0, none⟩)] 26)).alloc (.cells #[.int .i64 (-1)] 3)).alloc (.cells #[.pointer (some ⟨b, 0, none⟩)] 26)) (g := w.heap.size + 1 + 1 + 1) (by simp) 3 #[.int .i64 0]).cell 0
  have hsz0 : (((((w.alloc (.cells #[.pointer (some ⟨b, 0, none⟩)] 26)).alloc (.cells #[.int .i64 (-1)] 3)).alloc (.cells #[.pointer (some ⟨b, 0, none⟩)] 26)).alloc (.cells #[.int .i64 0] 3))).heap.size = w.heap.size + 1 + 1 + 1 + 1 := by simp
  obtain ⟨W0, hW0⟩ : ∃ W0, ((((w.alloc (.cells #[.pointer (some ⟨b, 0, none⟩)] 26)).alloc (.cells #[.int .i64 (-1)] 3)).alloc (.cells #[.pointer (some ⟨b, 0, none⟩)] 26)).alloc (.cells #[.int .i64 0] 3)) = W0 := ⟨_, rfl⟩
  rw [hW0] at bP bN hO0 cBl cBs hsz0 ⊢
  clear hW0
  have hB0 : Below w.heap.size w W0 := hO0.below (Nat.le_refl _) (fun _ _ => id)
  have hk0 := HK.out.quiet hO0
  refine wpIn_rangeFunc_ownH hro h1 (gf := 48) (lb := #[.pointer (some ⟨w.heap.size + 1 + 1, 0, none⟩), .pointer (some ⟨w.heap.size + 1 + 1 + 1, 0, none⟩)]) rfl h48 (enters_of Try.func48 (by kernel_rfl) rfl)
    (all_stops F (n - 1) h48 hro (by omega) (w.heap.size + 1 + 1) (w.heap.size + 1 + 1 + 1) b off c gb G l op 0 (fun i => i = w.heap.size + 1 ∨ w.heap.size + 4 ≤ i) (by omega) (by omega) (by omega) W0 cBl cBs hk0) onlyK_t (fun W lq o o' h1 h2 _ _ => onlyK_b (w := W0) (fun i hi => by omega) W lq o o' h1 h2) (Below.refl _ _) (fun _ => rfl)
    (fun pre W => (W.cell? ⟨w.heap.size + 1, 0, none⟩ = some (.int .i64 (bI (bst pre))) ∧ W.frozen? ⟨w.heap.size + 1, 0, none⟩ = false ∧ W.cell? ⟨w.heap.size, 0, none⟩ = some (.pointer (some ⟨b, 0, none⟩))) ∧ Below w.heap.size w W)
    (fun _ _ _ => False)
    (OwnFrom.and (Own.from (fun s A B row hs hg hr => ⟨cell_kept hs.1 hg hr, (frozen_kept hs.1 hg hr).trans hs.2.1, cell_kept hs.2.2 hg hr⟩) _) (ownFrom_below (Nat.le_refl _) (by omega)))
    (fun _ _ _ _ _ hs _ _ => hs)
    ⟨⟨bN.cell, bN.frozen, bP.cell⟩, hB0⟩
    (fun x a' W => ∃ Bx, W.cell? ⟨Bx, 1, none⟩ = some (.int .i64 x.1.2.w) ∧ a' = { tmps := #[.pointer (some ⟨b, 0, none⟩), .pointer (some ⟨w.heap.size, 0, none⟩), .int .i64 0, .int .i64 0, .pointer (some ⟨w.heap.size + 1, 0, none⟩), .int .i64 (x.1.1 : Int), .pointer (some ⟨Bx, 0, none⟩), .pointer (some ⟨b, 0, none⟩), .pointer (some ⟨b, 0, none⟩), .pointer (some ⟨b, 1, none⟩), .int .i64 op, .bool (decide (0 ≤ op)), .pointer (some ⟨b, 0, none⟩), .func (.func 48) #[] #[.pointer (some ⟨w.heap.size + 1 + 1, 0, none⟩), .pointer (some ⟨w.heap.size + 1 + 1 + 1, 0, none⟩)], .int .i64 (x.1.1 : Int), .agg #[.int .i64 x.1.2.s, .int .i64 x.1.2.w, .int .i64 x.1.2.g, .int .i64 G.c, .int .i64 G.l, .int .i64 G.b, .int .i64 G.p, .int .i64 G.s], undef, undef, undef, undef, undef, undef, undef, undef, undef, undef, undef, undef, undef, undef, undef, undef, undef, undef, undef, undef, undef, undef, undef, undef, undef, undef, undef, undef, undef, undef], defers := [] })
    (fun x a' _ X Y row hs hg hr => by obtain ⟨Bx, h2, h3⟩ := hs; exact ⟨Bx, cell_kept h2 hg (fun r e => (hr r e).2), h3⟩)
    ?assign ?body ?done ?stop
  case assign =>
    rintro lq pre x W K ⟨⟨hc, hf, hp⟩, hB⟩ hK
    unfold Ln.val
    gi_wp2
    have hBw := hB.size
    refine hK _ _ ((KeepsOthers.alloc _ _).from _) ((Only.refl _ W).alloc _) ⟨⟨?_, ?_, ?_⟩, hB.alloc hB.size _⟩ ⟨W.heap.size, ?_, rfl⟩
    · exact (((Only.refl (fun _ => False) W).alloc _).cell (World.block_lt_of_cell? _ _ hc) id).trans hc
    · exact (World.frozen?_of_block (a := ⟨w.heap.size + 1, 0, none⟩) (Below.heap_alloc W _ _ (World.block_lt_of_cell? _ _ hc))).trans hf
    · exact (((Only.refl (fun _ => False) W).alloc _).cell (World.block_lt_of_cell? _ _ hp) id).trans hp
    · exact (At.new W 62 #[.int .i64 x.1.2.s, .int .i64 x.1.2.w, .int .i64 x.1.2.g, .int .i64 G.c, .int .i64 G.l, .int .i64 G.b, .int .i64 G.p, .int .i64 G.s]).cell 1
  case body =>
    rintro lq pre x a' W hl _ ⟨⟨hc, hf, hp⟩, hB⟩ ⟨Bx, hx1, rfl⟩ hlt
    have HBS := Lib.hid (bst_snoc pre x)
    have h4 : (0 : Int) ≤ x.1.1 := by omega
    have Hx1 := Lib.hid hx1
    cases hb : bst pre with
    | none =>
      rw [hb] at hc HBS
      have HE : Hid (bst (pre ++ [x]) = some x) := Lib.hid HBS.out
      simp only [bI] at hc
      clear hb HBS
      gi_wp2
      refine region_quiet_round lq hro (by kernel_rfl) (by kernel_rfl) (by kernel_rfl) ?_
      repeat (gi_big_quiet_step (fail))
      refine wpQuietIn_nil ?_
      intro _ hw'
      obtain ⟨nq, hw''⟩ := hw'
      subst hw''
      gi_wp2
      exact ⟨(keeps_dn (KeepsFrom.refl _ _) _).trans ((KeepsOthers.setCell _ _ _).from _), ((Only.refl _ W).drewN _).setCell (p := ⟨w.heap.size + 1, 0, none⟩) (fun _ => .inl rfl) _, ⟨by rw [HE.out]; exact World.cell?_setCell_same' _ _ _ (by show (W.cell? _).isSome = true; rw [hc]; rfl), by rw [World.frozen?_setCell]; exact hf, cell_far (W := W.drewN nq) hp (by simp) _⟩, (below_dn hB _).setCell (p := ⟨w.heap.size + 1, 0, none⟩) (by simp) _⟩
    | some y =>
      rw [hb] at hc HBS
      simp only [bI] at hc
      have hyl := (List.getElem?_eq_some_iff.1 y.2).1
      have hln := (HK.out.below hB lt1 lt2).ln hyl
      have hye : l[y.1.1] = y.1.2 := by have := y.2; rw [List.getElem?_eq_getElem hyl] at this; injection this
      rw [hye] at hln
      have hLb := HK.out.below hB lt1 lt2
      have cst := hLb.st.cell 0
      simp at cst
      have e1 := hln.c1
      have i0 : (0 : Int) ≤ y.1.1 := by omega
      have i1 : (y.1.1 : Int) < l.length := by omega
      have i2 : ¬ (y.1.1 : Int) < 0 := by omega
      have i3 : decide ((y.1.1 : Int) < 0) = false := decide_eq_false (by omega)
      clear hln hye hLb hb
      by_cases hlt' : x.1.2.w < y.1.2.w
      · have HE : Hid (bst (pre ++ [x]) = some x) := Lib.hid (by rw [HBS.out]; simp [bstep, hlt'])
        clear HBS
        gi_wp2
        refine region_quiet_round lq hro (by kernel_rfl) (by kernel_rfl) (by kernel_rfl) ?_
        repeat (gi_big_quiet_step (fail))
        refine wpQuietIn_nil ?_
        intro _ hw'
        obtain ⟨nq, hw''⟩ := hw'
        subst hw''
        gi_wp2
        exact ⟨(keeps_dn (KeepsFrom.refl _ _) _).trans ((KeepsOthers.setCell _ _ _).from _), ((Only.refl _ W).drewN _).setCell (p := ⟨w.heap.size + 1, 0, none⟩) (fun _ => .inl rfl) _, ⟨by rw [HE.out]; exact World.cell?_setCell_same' _ _ _ (by show (W.cell? _).isSome = true; rw [hc]; rfl), by rw [World.frozen?_setCell]; exact hf, cell_far (W := W.drewN nq) hp (by simp) _⟩, (below_dn hB _).setCell (p := ⟨w.heap.size + 1, 0, none⟩) (by simp) _⟩
      · have hlt2 : decide (x.1.2.w < y.1.2.w) = false := by simp; omega
        have HE : Hid (bst (pre ++ [x]) = some y) := Lib.hid (by rw [HBS.out]; simp [bstep, hlt'])
        clear HBS
        gi_wp2
        refine region_quiet_round lq hro (by kernel_rfl) (by kernel_rfl) (by kernel_rfl) ?_
        repeat (gi_big_quiet_step (fail))
        refine wpQuietIn_nil ?_
        intro _ hw'
        obtain ⟨nq, hw''⟩ := hw'
        subst hw''
        gi_wp2
        exact ⟨keeps_dn (KeepsFrom.refl _ _) _, (Only.refl _ W).drewN _, ⟨⟨by rw [HE.out]; exact hc, hf, hp⟩, below_dn hB _⟩⟩
  case done =>
    rintro D ys W hD rfl ⟨⟨hc, hf, hp⟩, hB⟩ hK
    cases hb : bst (flt l 0 l.length) with
    | none =>
      rw [hb] at hc
      simp only [bI] at hc
      have HBT := Lib.hid hb
      clear hb
      gi_wp2
      refine ⟨by simp, .inl ⟨_, _, rfl, run_takeDeferred hK, ?_⟩⟩
      refine ⟨.tuple #[.int .i64 0, .int .i64 11], by simp [results, Try.f15, go_sem], ?_⟩
      rw [HBT.out]
      exact ⟨rfl, hB.trans (belowK_b (w := w) (Nat.le_refl _) W D _ _ (by omega) hK rfl rfl)⟩
    | some y =>
      rw [hb] at hc
      simp only [bI] at hc
      have hyl := (List.getElem?_eq_some_iff.1 y.2).1
      have hLb := HK.out.below hB lt1 lt2
      have cst := hLb.st.cell 0
      simp at cst
      have i0 : (0 : Int) ≤ y.1.1 := by omega
      have i1 : (y.1.1 : Int) < l.length := by omega
      have i2 : ¬ (y.1.1 : Int) < 0 := by omega
      have i3 : decide ((y.1.1 : Int) < 0) = false := decide_eq_false (by omega)
      have hln := (hLb.ln hyl).c0
      have hfr := hLb.fr (off + y.1.1 * 8)
      have hop1 := hLb.st.cell 1
      have hop2 := hLb.st.frozen 1
      simp at hop1
      have HBT := Lib.hid hb
      clear hb hLb
      gi_wp2
      gi_region
      all_goals gi_wp2
      all_goals
        have hK2 := (KeepsOthers.setCell W ⟨gb, off + y.1.1 * 8, none⟩ (.int .i64 1)).same D _ hK rfl
        have hK3 := (KeepsOthers.setCell (W.setCell ⟨gb, off + y.1.1 * 8, none⟩ (.int .i64 1)) ⟨b, 1, none⟩ (.int .i64 (y.1.1 : Int))).same D _ hK2 rfl
        refine ⟨by simp, .inl ⟨_, _, rfl, run_takeDeferred (w := ((W.setCell ⟨gb, off + y.1.1 * 8, none⟩ (.int .i64 1)).setCell ⟨b, 1, none⟩ (.int .i64 (y.1.1 : Int))).drew) hK3, ?_⟩⟩
        refine ⟨.tuple #[.int .i64 (y.1.1 : Int), .int .i64 0], by simp [results, Try.f15, go_sem], ?_⟩
        rw [HBT.out]
        refine ⟨rfl, W, hB, ?_⟩
        exact (below_dn (Below.refl w.heap.size ((W.setCell ⟨gb, off + y.1.1 * 8, none⟩ (.int .i64 1)).setCell ⟨b, 1, none⟩ (.int .i64 (y.1.1 : Int)))) 1).trans (belowK_b (w := w) (Nat.le_refl _) _ D _ _ (by omega) hK3 rfl rfl)
  case stop =>
    rintro D c pre W _ _ h _
    exact h.elim
end Go.Proofs.Ytlenjgofiocaaaa
