/- Victim: the order of lines, plain; what the comparison answers. -/
import Derived.Test.YtbcjpchjidgpeaaH
namespace Go.Proofs.Ytbcjpchjidgpeaa
open Go.RowKit

/-- Line number a. -/
def gl (l : List Ln) (a : Nat) : Ln := l.getD a ⟨0, 0, 0, 0, 0⟩
theorem gl_get (l : List Ln) (a : Nat) (h : a < l.length) : l[a]? = some (gl l a) := by simp [gl, List.getD, h]
theorem gl_eq (l : List Ln) (a : Nat) (h : a < l.length) : l[a] = gl l a := by simp [gl, List.getD, h]
/-- Line a stands ahead of line b. -/
def lt (l : List Ln) (a b : Nat) : Prop := bt (gl l a) (gl l b) a b = true
theorem lt_irrefl (l : List Ln) (a : Nat) : ¬ lt l a a := by unfold lt; rw [bt_irrefl]; decide
theorem lt_trans {l : List Ln} {a b c : Nat} (h1 : lt l a b) (h2 : lt l b c) : lt l a c := bt_trans h1 h2
theorem lt_total (l : List Ln) {a b : Nat} (h : a ≠ b) : lt l a b ∨ lt l b a := bt_total h
theorem lt_asymm {l : List Ln} {a b : Nat} (h : lt l a b) : ¬ lt l b a := fun h' => lt_irrefl l a (lt_trans h h')
theorem lt_not {l : List Ln} {a b : Nat} (h : a ≠ b) (h' : ¬ lt l a b) : lt l b a := (lt_total l h).resolve_left h'
/-- What the comparison of two lines answers. -/
def cmI (l : List Ln) (a b : Nat) : Int := heldI (gl l a) (gl l b)
theorem cm_lt {l : List Ln} {a b : Nat} (h : a < b) : decide (cmI l b a < 0) = true ↔ lt l b a := by
  unfold cmI lt heldI bt
  generalize gl l a = x
  generalize gl l b = y
  simp only [decide_eq_true_eq]
  by_cases h1 : y.va < x.va
  · have : y.va ≠ x.va := by omega
    simp [h1, this]
  · by_cases h2 : x.va < y.va
    · have : y.va ≠ x.va := by omega
      simp [h1, h2, this]
    · have e : y.va = x.va := by omega
      simp only [e, if_true]
      by_cases h3 : y.we < x.we
      · have : y.we ≠ x.we := by omega
        simp [h3, this]
      · by_cases h4 : x.we < y.we
        · have : y.we ≠ x.we := by omega
          simp [h3, h4, this]
        · have e2 : y.we = x.we := by omega
          simp [e2]; omega

/-- The comparison that the sort is given, in any world that differs in the sorted row's block alone. -/
def Cmp (l : List Ln) (x g : Nat) (w : World) : Prop := ∀ W, Only (fun i => i = g) w W → ∀ a b, a < l.length → b < l.length →
  Calls Try.prog 21 #[.int .i64 a, .int .i64 b, .pointer (some ⟨x, 0, none⟩)] W fun e w' => e = .returned (.int .i64 (cmI l a b)) ∧ Only (fun _ => False) W w'
theorem Cmp.next {l : List Ln} {x g : Nat} {w W : World} (h : Cmp l x g w) (o : Only (fun i => i = g) w W) : Cmp l x g W := fun V oV => h V (o.trans oV)
theorem Cmp.call {l : List Ln} {x g : Nat} {w : World} (h : Cmp l x g w) {a b : Nat} (ha : a < l.length) (hb : b < l.length) :
    ∀ W, Only (fun _ => False) w W → Calls Try.prog 21 #[.int .i64 a, .int .i64 b, .pointer (some ⟨x, 0, none⟩)] W fun e w' => e = .returned (.int .i64 (cmI l a b)) ∧ Only (fun _ => False) W w' :=
  fun W o => h W (o.mono (fun i _ e => e.elim)) a b ha hb

set_option maxRecDepth 100000 in
set_option maxHeartbeats 4000000 in
theorem cmp_walk (l : List Ln) (x gA off c : Nat) (a b : Nat) (ha : a < l.length) (hb : b < l.length) (hlen : l.length ≤ 1000000) (w : World) (hx : At w x 22 #[.slice (some ⟨gA, off, none⟩) l.length c]) (hcs : ∀ (j : Nat) (u : Value), (lv l)[j]? = some u → w.cell? ⟨gA, off + j, none⟩ = some u) :
    Calls Try.prog 21 #[.int .i64 a, .int .i64 b, .pointer (some ⟨x, 0, none⟩)] w fun e w' => e = .returned (.int .i64 (cmI l a b)) ∧ Only (fun _ => False) w w' := by
  obtain ⟨x0, x1, x2, x3, x4⟩ := LnAt.of hcs a ha
  obtain ⟨y0, y1, y2, y3, y4⟩ := LnAt.of hcs b hb
  have HH := Lib.hid (held_any (gl l a) (gl l b))
  unfold cmI
  rw [gl_eq l a ha] at x0 x1 x2 x3 x4
  rw [gl_eq l b hb] at y0 y1 y2 y3 y4
  generalize gl l a = X at *
  generalize gl l b = Y at *
  obtain ⟨n, hn⟩ : ∃ n, l.length = n := ⟨_, rfl⟩
  rw [hn] at hx ha hb
  have hxc := hx.cell 0
  simp only [List.getElem?_toArray, List.getElem?_cons_zero] at hxc
  have a0 : (0 : Int) ≤ a := by omega
  have a1 : (a : Int) < n := by omega
  have b0 : (0 : Int) ≤ b := by omega
  have b1 : (b : Int) < n := by omega
  clear hn hx ha hb hcs
  unfold Ln.val at HH
  go_enter Try.func21, Try.ntmps21
  go_wp2_with (fail)
  refine wp_region_held_drew (S := (fun W => ((W.cell? ⟨gA, off + a * 5, none⟩ = some (.int .i64 X.st) ∧ W.cell? ⟨gA, off + a * 5 + 1, none⟩ = some (.int .i64 X.we)) ∧ (W.cell? ⟨gA, off + a * 5 + 2, none⟩ = some (.int .i64 X.go) ∧ W.cell? ⟨gA, off + a * 5 + 3, none⟩ = some (.int .i64 X.va)) ∧ W.cell? ⟨gA, off + a * 5 + 4, none⟩ = some (.int .i64 X.ro)) ∧ ((W.cell? ⟨gA, off + b * 5, none⟩ = some (.int .i64 Y.st) ∧ W.cell? ⟨gA, off + b * 5 + 1, none⟩ = some (.int .i64 Y.we)) ∧ (W.cell? ⟨gA, off + b * 5 + 2, none⟩ = some (.int .i64 Y.go) ∧ W.cell? ⟨gA, off + b * 5 + 3, none⟩ = some (.int .i64 Y.va)) ∧ W.cell? ⟨gA, off + b * 5 + 4, none⟩ = some (.int .i64 Y.ro)) ∧ W.cell? ⟨x, 0, none⟩ = some (.slice (some ⟨gA, off, none⟩) n c))) (by kernel_rfl) ?_ (fun hHeld => ?_)
  · exact ⟨⟨⟨x0, x1⟩, ⟨x2, x3⟩, x4⟩, ⟨⟨y0, y1⟩, ⟨y2, y3⟩, y4⟩, hxc⟩
  refine wpAnyH_take (i := 0) (oi := { dst := some 6, op := Op.load 22 (Operand.tmp 2), type := 22, pos := "victim.go:59", after := #[], guard := none }) (v := ?_) rfl (by kernel_rfl) (by kernel_rfl) (by kernel_rfl) (fun _ _ _ h => h) (Or.inl ⟨by rfl, ?_⟩) (by assumption) ?_
  rotate_left
  · (intro w hSw; (try dsimp only at hSw); (try obtain ⟨hSa, hSb⟩ := hSw); go_simp; try with_reducible rfl)
  try simp only [Act.put, List.setIfInBounds_toArray, List.set_cons_zero, List.set_cons_succ]
  refine wpAnyH_take (i := 1) (oi := { dst := some 7, op := Op.move (Operand.tmp 0), type := 3, pos := "victim.go:59", after := #[], guard := none }) (v := ?_) rfl (by kernel_rfl) (by kernel_rfl) (by kernel_rfl) (fun _ _ _ h => h) (Or.inl ⟨by rfl, ?_⟩) (by assumption) ?_
  rotate_left
  · (intro w hSw; (try dsimp only at hSw); (try obtain ⟨hSa, hSb⟩ := hSw); go_simp; try with_reducible rfl)
  try simp only [Act.put, List.setIfInBounds_toArray, List.set_cons_zero, List.set_cons_succ]
  refine wpAnyH_take (i := 2) (oi := { dst := some 8, op := Op.indexAddr 22 (Operand.tmp 6) (Operand.tmp 7), type := 0, pos := "victim.go:59", after := #[{ on := 0, ground := Ground.data }, { on := 1, ground := Ground.data }], guard := none }) (v := ?_) rfl (by kernel_rfl) (by kernel_rfl) (by kernel_rfl) (fun _ _ _ h => h) (Or.inl ⟨by rfl, ?_⟩) (by assumption) ?_
  rotate_left
  · (intro w hSw; (try dsimp only at hSw); (try obtain ⟨hSa, hSb⟩ := hSw); go_simp; try with_reducible rfl)
  try simp only [Act.put, List.setIfInBounds_toArray, List.set_cons_zero, List.set_cons_succ]
  refine wpAnyH_take (i := 3) (oi := { dst := some 9, op := Op.load 33 (Operand.tmp 8), type := 33, pos := "victim.go:59", after := #[{ on := 2, ground := Ground.data }], guard := none }) (v := ?_) rfl (by kernel_rfl) (by kernel_rfl) (by kernel_rfl) (fun _ _ _ h => h) (Or.inl ⟨by rfl, ?_⟩) (by assumption) ?_
  rotate_left
  · (intro w hSw; (try dsimp only at hSw); (try obtain ⟨hSa, hSb⟩ := hSw); go_simp; try with_reducible rfl)
  try simp only [Act.put, List.setIfInBounds_toArray, List.set_cons_zero, List.set_cons_succ]
  refine wpAnyH_take (i := 4) (oi := { dst := some 10, op := Op.load 22 (Operand.tmp 2), type := 22, pos := "victim.go:59", after := #[], guard := none }) (v := ?_) rfl (by kernel_rfl) (by kernel_rfl) (by kernel_rfl) (fun _ _ _ h => h) (Or.inl ⟨by rfl, ?_⟩) (by assumption) ?_
  rotate_left
  · (intro w hSw; (try dsimp only at hSw); (try obtain ⟨hSa, hSb⟩ := hSw); go_simp; try with_reducible rfl)
  try simp only [Act.put, List.setIfInBounds_toArray, List.set_cons_zero, List.set_cons_succ]
  refine wpAnyH_take (i := 5) (oi := { dst := some 11, op := Op.move (Operand.tmp 1), type := 3, pos := "victim.go:59", after := #[], guard := none }) (v := ?_) rfl (by kernel_rfl) (by kernel_rfl) (by kernel_rfl) (fun _ _ _ h => h) (Or.inl ⟨by rfl, ?_⟩) (by assumption) ?_
  rotate_left
  · (intro w hSw; (try dsimp only at hSw); (try obtain ⟨hSa, hSb⟩ := hSw); go_simp; try with_reducible rfl)
  try simp only [Act.put, List.setIfInBounds_toArray, List.set_cons_zero, List.set_cons_succ]
  refine wpAnyH_take (i := 6) (oi := { dst := some 12, op := Op.indexAddr 22 (Operand.tmp 10) (Operand.tmp 11), type := 0, pos := "victim.go:59", after := #[{ on := 4, ground := Ground.data }, { on := 5, ground := Ground.data }], guard := none }) (v := ?_) rfl (by kernel_rfl) (by kernel_rfl) (by kernel_rfl) (fun _ _ _ h => h) (Or.inl ⟨by rfl, ?_⟩) (by assumption) ?_
  rotate_left
  · (intro w hSw; (try dsimp only at hSw); (try obtain ⟨hSa, hSb⟩ := hSw); go_simp; try with_reducible rfl)
  try simp only [Act.put, List.setIfInBounds_toArray, List.set_cons_zero, List.set_cons_succ]
  refine wpAnyH_take (i := 7) (oi := { dst := some 13, op := Op.load 33 (Operand.tmp 12), type := 33, pos := "victim.go:59", after := #[{ on := 6, ground := Ground.data }], guard := none }) (v := ?_) rfl (by kernel_rfl) (by kernel_rfl) (by kernel_rfl) (fun _ _ _ h => h) (Or.inl ⟨by rfl, ?_⟩) (by assumption) ?_
  rotate_left
  · (intro w hSw; (try dsimp only at hSw); (try obtain ⟨hSa, hSb⟩ := hSw); go_simp; try with_reducible rfl)
  try simp only [Act.put, List.setIfInBounds_toArray, List.set_cons_zero, List.set_cons_succ]
  refine wpAnyH_ready (rs := [8]) (by kernel_rfl) (by simp) ?_
  refine AllReadyH.cons (o := { dst := some 14, op := Op.call { callee := Callee.value (Operand.func 18), args := #[Operand.tmp 9, Operand.tmp 13], argTypes := #[33, 33] }, type := 3, pos := "victim.go:59", after := #[{ on := 3, ground := Ground.data }, { on := 7, ground := Ground.data }], guard := none }) rfl (fun K hK => ?_) AllReadyH.nil
  go_simp
  refine (HH.out _).mono ?_
  rintro e w1 ⟨rfl, hO1⟩
  have HO1 := Lib.hid (((Only.refl (fun _ => False) w).drew).trans hO1)
  clear hO1
  try simp only []
  refine hK.out _ _ ?_ (fun hHeld => ?_)
  · exact ⟨⟨⟨(HO1.out.cell (World.block_lt_of_cell? _ _ x0) id).trans x0, (HO1.out.cell (World.block_lt_of_cell? _ _ x1) id).trans x1⟩, ⟨(HO1.out.cell (World.block_lt_of_cell? _ _ x2) id).trans x2, (HO1.out.cell (World.block_lt_of_cell? _ _ x3) id).trans x3⟩, (HO1.out.cell (World.block_lt_of_cell? _ _ x4) id).trans x4⟩, ⟨⟨(HO1.out.cell (World.block_lt_of_cell? _ _ y0) id).trans y0, (HO1.out.cell (World.block_lt_of_cell? _ _ y1) id).trans y1⟩, ⟨(HO1.out.cell (World.block_lt_of_cell? _ _ y2) id).trans y2, (HO1.out.cell (World.block_lt_of_cell? _ _ y3) id).trans y3⟩, (HO1.out.cell (World.block_lt_of_cell? _ _ y4) id).trans y4⟩, (HO1.out.cell (World.block_lt_of_cell? _ _ hxc) id).trans hxc⟩
  clear hK K
  try simp only [Act.put, List.setIfInBounds_toArray, List.set_cons_zero, List.set_cons_succ]
  refine wpAnyH_take (i := 9) (oi := { dst := some 5, op := Op.assign (Operand.tmp 14), type := 3, pos := "victim.go:59", after := #[{ on := 8, ground := Ground.data }, { on := 8, ground := Ground.chain }, { on := 0, ground := Ground.phase }, { on := 1, ground := Ground.phase }, { on := 2, ground := Ground.phase }, { on := 3, ground := Ground.phase }, { on := 4, ground := Ground.phase }, { on := 5, ground := Ground.phase }, { on := 6, ground := Ground.phase }, { on := 7, ground := Ground.phase }, { on := 8, ground := Ground.phase }], guard := none }) (v := ?_) rfl (by kernel_rfl) (by kernel_rfl) (by kernel_rfl) (fun _ _ _ h => h) (Or.inl ⟨by rfl, ?_⟩) (by assumption) ?_
  rotate_left
  · (intro w hSw; (try dsimp only at hSw); (try obtain ⟨hSa, hSb⟩ := hSw); go_simp; try with_reducible rfl)
  try simp only [Act.put, List.setIfInBounds_toArray, List.set_cons_zero, List.set_cons_succ]
  refine wpAnyH_done (by kernel_rfl) ?_ _
  go_wp2
  go_ret
  exact ⟨rfl, HO1.out⟩
theorem cmp_of {l : List Ln} {x g gA c : Nat} {A : Option Addr} {w : World} (hx : At w x 22 #[.slice A l.length c]) (hr : Rd w gA A (lv l)) (hlen : l.length ≤ 1000000) (hxg : x ≠ g) (hgg : gA ≠ g) : Cmp l x g w := by
  intro W o a b ha hb
  have hx' := hx.only o (fun e => hxg e)
  obtain ⟨off, rfl, _, hcs⟩ := (hr.only o (fun e => hgg e)).at (by intro e; have := lv_length l; rw [e] at this; simp at this; omega)
  exact cmp_walk l x gA off c a b ha hb hlen W hx' hcs
end Go.Proofs.Ytbcjpchjidgpeaa
