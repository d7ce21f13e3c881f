/- Lines: Count. -/
import Derived.Test.YtlenjgofiocaaaaD
namespace Go.Proofs.Ytlenjgofiocaaaa
open Go.RowKit Go.Shelf
attribute [local go_sem] Oper.semAt_some

theorem onlyK_t {S : Nat → Prop} {A B C : World} (h : Only S A B) (k : Only S B C) : Only S A C := h.trans k
theorem onlyK_b {S : Nat → Prop} {w : World} (hS : ∀ i, w.heap.size ≤ i → S i) (W : World) (l : Nat) (o o' : Obj) (hl : w.heap.size ≤ l) (_ho : W.heap[l]? = some o) : Only S W (W.putObj l o') :=
  (Only.of_grown (grownBy_putObj' W l o')).mono (fun i _ h => by injection h with h; subst h; exact hS _ hl)

set_option maxRecDepth 100000 in
set_option maxHeartbeats 4000000 in
theorem count_in (F : Fence) (n : Nat) (h23 : F.fn 23) (h35 : F.fn 35) (h48 : F.fn 48) (hro : F.round = none) (hn : 3 ≤ n) (b off c gb : Nat) (G : Ge) (l : List Ln) (op st : Int) (w : World) (k : LAt w b G l off c gb op) :
    CallsIn F n Try.prog 23 #[.pointer (some ⟨b, 0, none⟩), .int .i64 st] w fun e W' => e = .returned (.int .i64 ((flt l st l.length).length : Int)) ∧ Below w.heap.size w W' := by
  have h1 : 1 ≤ n := by omega
  obtain ⟨lt1, lt2⟩ := k.lts
  have hl64 := k.len.2
  refine callsIn_of_wp_marks Try.func23 rfl h23 ?_ hro
  simp only [Try.ntmps23, List.size_toArray, List.length_cons, List.length_nil, Nat.reduceAdd, Nat.reduceSub, Array.replicate_succ, Array.replicate_zero, List.push_toArray, List.append_toArray, List.nil_append, List.cons_append]
  gi_wp2_with (gi_at_call 35; refine (all_in F (n - 1) h35 hro _ _ _).mono ?_; rintro e w' ⟨rfl, rfl⟩)
  have bN := ((Boxed.new w 3 (.int .i64 0)).alloc (.cells #[.pointer (some ⟨b, 0, none⟩)] 26)).alloc (.cells #[.int .i64 st] 3)
  have hO0 := (((Only.refl (fun _ => False) w).alloc (.cells #[.int .i64 0] 3)).alloc (.cells #[.pointer (some ⟨b, 0, none⟩)] 26)).alloc (.cells #[.int .i64 st] 3)
  have hB0 : Below w.heap.size w (((w.alloc (.cells #[.int .i64 0] 3)).alloc (.cells #[.pointer (some ⟨b, 0, none⟩)] 26)).alloc (.cells #[.int .i64 st] 3)) := hO0.below (Nat.le_refl _) (fun _ _ => id)
  have hk0 := k.quiet hO0
  have cBl : (((w.alloc (.cells #[.int .i64 0] 3)).alloc (.cells #[.pointer (some ⟨b, 0, none⟩)] 26)).alloc (.cells #[.int .i64 st] 3)).cell? ⟨w.heap.size + 1, 0, none⟩ = some (.pointer (some ⟨b, 0, none⟩)) :=
    ((At.new' (w := w.alloc (.cells #[.int .i64 0] 3)) (g := w.heap.size + 1) (by simp) 26 #[.pointer (some ⟨b, 0, none⟩)]).alloc (.cells #[.int .i64 st] 3)).cell 0
  have cBs : (((w.alloc (.cells #[.int .i64 0] 3)).alloc (.cells #[.pointer (some ⟨b, 0, none⟩)] 26)).alloc (.cells #[.int .i64 st] 3)).cell? ⟨w.heap.size + 1 + 1, 0, none⟩ = some (.int .i64 st) :=
    (At.new' (w := (w.alloc (.cells #[.int .i64 0] 3)).alloc (.cells #[.pointer (some ⟨b, 0, none⟩)] 26)) (g := w.heap.size + 1 + 1) (by simp) 3 #[.int .i64 st]).cell 0
  refine wpIn_rangeFunc_ownG hro h1 (gf := 48) (lb := #[.pointer (some ⟨w.heap.size + 1, 0, none⟩), .pointer (some ⟨w.heap.size + 1 + 1, 0, none⟩)]) rfl h48 (enters_of Try.func48 (by kernel_rfl) rfl)
    (all_stops F (n - 1) h48 hro (by omega) (w.heap.size + 1) (w.heap.size + 1 + 1) b off c gb G l op st (fun i => i = w.heap.size ∨ w.heap.size + 3 ≤ i) (by omega) (by omega) (by omega) _ cBl cBs hk0) onlyK_t (fun W lq o o' h1 h2 _ _ => onlyK_b (w := (((w.alloc (.cells #[.int .i64 0] 3)).alloc (.cells #[.pointer (some ⟨b, 0, none⟩)] 26)).alloc (.cells #[.int .i64 st] 3))) (fun i hi => by simp at hi; omega) W lq o o' h1 h2) (Below.refl _ _) (fun _ => rfl)
    (fun pre W => (W.cell? ⟨w.heap.size, 0, none⟩ = some (.int .i64 (pre.length : Int)) ∧ W.frozen? ⟨w.heap.size, 0, none⟩ = false) ∧ Below w.heap.size w W)
    (fun _ _ _ => False)
    (OwnFrom.and (Own.from (fun s A B row hs hg hr => ⟨cell_kept hs.1 hg hr, (frozen_kept hs.1 hg hr).trans hs.2⟩) _) (ownFrom_below (Nat.le_refl _) (by simp; omega)))
    (fun _ _ _ _ _ hs _ _ => hs)
    ⟨⟨bN.cell, bN.frozen⟩, hB0⟩
    (fun x => { tmps := #[.pointer (some ⟨b, 0, none⟩), .int .i64 st, undef, undef, .int .i64 0, .pointer (some ⟨w.heap.size, 0, none⟩), .pointer (some ⟨b, 0, none⟩), .int .i64 st, .func (.func 48) #[] #[.pointer (some ⟨w.heap.size + 1, 0, none⟩), .pointer (some ⟨w.heap.size + 1 + 1, 0, none⟩)], .int .i64 (x.1.1 : Int), x.1.2.val G, undef, undef, undef], defers := [] }) ?assign ?body ?done ?stop
  case assign =>
    intro l x W K hK
    gi_wp2
    simp; exact hK
  case body =>
    rintro lq pre x W ⟨⟨hc, hf⟩, hB⟩ hlen
    have hb1 : (0 : Int) ≤ pre.length := by omega
    have hb2 : (pre.length : Int) ≤ 64 := by omega
    gi_wp2
    exact ⟨(KeepsOthers.setCell _ _ _).from _, (Only.refl _ W).setCell (p := ⟨w.heap.size, 0, none⟩) (fun _ => .inl rfl) _, ⟨by rw [List.length_append]; exact World.cell?_setCell_same' _ _ _ (by rw [hc]; rfl), by rw [World.frozen?_setCell]; exact hf⟩, hB.setCell (p := ⟨w.heap.size, 0, none⟩) (Nat.le_refl _) _⟩
  case done =>
    rintro D ys W hD rfl ⟨⟨hc, _⟩, hB⟩ hK
    gi_wp2
    refine ⟨by simp, .inl ⟨_, _, rfl, run_takeDeferred hK, ?_⟩⟩
    exact ⟨_, results_tmp rfl _ _ _, rfl, hB.trans (belowK_b (w := w) (Nat.le_refl _) W D _ _ (by simp at hD; omega) hK rfl rfl)⟩
  case stop =>
    rintro D c pre W _ _ h _
    exact h.elim
end Go.Proofs.Ytlenjgofiocaaaa
